import Derived.Test.YtpojamikfcmnoaaMGaussReckons0
import Derived.Test.YtpojamikfcmnoaaMGaussReckons5
import Derived.Test.YtpojamikfcmnoaaMGaussReckons3
import Derived.Test.YtpojamikfcmnoaaMGaussReckons1
import Derived.Test.YtpojamikfcmnoaaMGaussReckons2
import Derived.Test.YtpojamikfcmnoaaMGaussReckons4
import Derived.Deep.RegionHeld3
-- by xprint.py, a program of this session, over the kit's print.py
namespace Go.Proofs.Ytpojamikfcmnoaa.X
open Go.RowKit Go.Proofs.YtpojamikfcmnoaaW.PrintWords Go.Proofs.YtpojamikfcmnoaaW.PrintLast Go.Proofs.YtpojamikfcmnoaaW.PrintMore
attribute [local go_sem] max2_int min2_int max_two min_two max_three min_three max_four min_four   -- for this text's walks alone
set_option linter.unusedVariables false
set_option linter.unusedSimpArgs false

def agateref06_Put_s.f (a b : Int) : Option (ByteArray × Int) := some (putR a b)
theorem ref06_laid (v : Nat) (h : v < 4294967296) : agateref06_laid.f (v : Int) = some (laidV v) := by
  unfold agateref06_laid.f laidV
  have e1 : Int.tmod (v : Int) 256 % 256 = (v : Int) % 256 := by
    rw [show Int.tmod (v : Int) 256 = ((v % 256 : Nat) : Int) from rfl]; omega
  have e2 : Int.tdiv (v : Int) 256 % 4294967296 % 256 = (v : Int) / 256 % 256 := by
    rw [show Int.tdiv (v : Int) 256 = ((v / 256 : Nat) : Int) from rfl]; omega
  have e3 : Int.tdiv (v : Int) 65536 % 4294967296 % 256 = (v : Int) / 65536 % 256 := by
    rw [show Int.tdiv (v : Int) 65536 = ((v / 65536 : Nat) : Int) from rfl]; omega
  have e4 : Int.tdiv (v : Int) 16777216 % 4294967296 % 256 = (v : Int) / 16777216 % 256 := by
    rw [show Int.tdiv (v : Int) 16777216 = ((v / 16777216 : Nat) : Int) from rfl]; omega
  rw [e1, e2, e3, e4]
theorem agateref06_Put_s.ev (a b : Int) (r) (h : agateref06_Put_s.f a b = some r) : ∃ k : Nat, agateref06_Put.f a b = some r := by
  refine ⟨0, ?_⟩
  rw [← h]
  show (if mayR a b = true then _ else _) = _
  unfold agateref06_Put_s.f putR
  by_cases hm : mayR a b = true
  · rw [if_pos hm, if_pos hm]
    have hs : (-1048576 ≤ a ∧ a ≤ 1048576) ∧ (-1048576 ≤ b ∧ b ≤ 1048576) := by
      unfold mayR at hm
      simpa only [Bool.and_eq_true, decide_eq_true_eq] using hm
    have e1 : agateref06_bits_s.f a = some (floatOfInt .f32 a : Int) := if_pos hs.1
    have e2 : agateref06_bits_s.f b = some (floatOfInt .f32 b : Int) := if_pos hs.2
    rw [e1, Option.bind_some, ref06_laid _ (F32_lt a), Option.bind_some, e2, Option.bind_some, ref06_laid _ (F32_lt b), Option.bind_some, if_pos (by rw [laidV_size, laidV_size]; decide)]
  · rw [if_neg hm, if_neg hm]

set_option maxHeartbeats 1000000 in
theorem agateref06_Put_s.calls (a0_0 : Int) (a0_1 : Int) (r1 : ByteArray) (r2 : Int) (w : World) (h : agateref06_Put_s.f a0_0 a0_1 = some (r1, r2)) :
    Calls Try.prog 20 #[.agg #[.int .i64 a0_0, .int .i64 a0_1]] w fun e w' => e = .returned (.tuple #[.string r1, .int .i64 r2]) ∧ Below w.heap.size w w' := by
  obtain ⟨k, hk⟩ := agateref06_Put_s.ev a0_0 a0_1 _ h
  exact agateref06_Put.calls a0_0 a0_1 r1 r2 w hk

end Go.Proofs.Ytpojamikfcmnoaa.X
-- by xprint.py, a program of this session, over the kit's print.py
namespace Go.Proofs.Ytpojamikfcmnoaa.X
open Go.RowKit Go.Proofs.YtpojamikfcmnoaaW.PrintWords Go.Proofs.YtpojamikfcmnoaaW.PrintLast Go.Proofs.YtpojamikfcmnoaaW.PrintMore
attribute [local go_sem] max2_int min2_int max_two min_two max_three min_three max_four min_four   -- for this text's walks alone
set_option linter.unusedVariables false
set_option linter.unusedSimpArgs false

def nearR (a b : Int) : Bool := decide (-1125899906842624 ≤ a ∧ a ≤ 1125899906842624) && decide (-1125899906842624 ≤ b ∧ b ≤ 1125899906842624)
theorem near_f (a b : Int) : agatelaw06_near.f a b = some (nearR a b) := by
  unfold agatelaw06_near.f nearR
  by_cases h1 : a ≥ -1125899906842624
  · rw [if_pos h1]
    by_cases h2 : a ≤ 1125899906842624
    · rw [if_pos h2, decide_eq_true (⟨h1, h2⟩ : -1125899906842624 ≤ a ∧ a ≤ 1125899906842624), Bool.true_and]
      by_cases h3 : b ≥ -1125899906842624
      · rw [if_pos h3]; congr 1; rw [decide_eq_decide]; exact ⟨fun g => ⟨h3, g⟩, fun g => g.2⟩
      · rw [if_neg h3, decide_eq_false (fun g => h3 g.1)]
    · rw [if_neg h2, decide_eq_false (fun g => h2 g.2)]; rfl
  · rw [if_neg h1, decide_eq_false (fun g => h1 g.1)]; rfl
theorem nearR_of {a b : Int} (h : nearR a b = true) : (-1125899906842624 ≤ a ∧ a ≤ 1125899906842624) ∧ (-1125899906842624 ≤ b ∧ b ≤ 1125899906842624) := by
  unfold nearR at h
  simpa only [Bool.and_eq_true, decide_eq_true_eq] using h
theorem mayE_one (a b : Int) (ha : -9007199254740992 < a ∧ a < 9007199254740992) (hb : -9007199254740992 < b ∧ b < 9007199254740992) : mayE [(floatOfInt .f64 a, floatOfInt .f64 b)] = mayR a b := by
  unfold mayE
  rw [List.all_cons, List.all_nil, Bool.and_true]
  exact mayE_F a b ha hb
theorem mayE_pair (a b c d : Int) (ha : -9007199254740992 < a ∧ a < 9007199254740992) (hb : -9007199254740992 < b ∧ b < 9007199254740992) (hc : -9007199254740992 < c ∧ c < 9007199254740992) (hd : -9007199254740992 < d ∧ d < 9007199254740992) : mayE [(floatOfInt .f64 a, floatOfInt .f64 b), (floatOfInt .f64 c, floatOfInt .f64 d)] = (mayR a b && mayR c d) := by
  unfold mayE
  rw [List.all_cons, List.all_cons, List.all_nil, Bool.and_true]
  show ((partE (floatOfInt .f64 a) && partE (floatOfInt .f64 b)) && (partE (floatOfInt .f64 c) && partE (floatOfInt .f64 d))) = _
  rw [mayE_F a b ha hb, mayE_F c d hc hd]
theorem F_zero : floatOfInt .f64 0 = 0 := by decide +kernel
theorem doneS_F (x y : Int) (l : List (Nat × Nat)) (m : Bool) (hl : mayE l = m) (hx : -9007199254740992 < x ∧ x < 9007199254740992) (hy : -9007199254740992 < y ∧ y < 9007199254740992) : doneS (floatOfInt .f64 x) (floatOfInt .f64 y) l = (if m = true then (if mayR x y = true then (floatOfInt .f64 x, floatOfInt .f64 y, 0) else (0, 0, 17)) else (0, 0, 17)) := by
  unfold doneS
  rw [hl, mayE_F x y hx hy]
  cases m
  · rfl
  · rw [Bool.true_and, if_pos rfl]
theorem doneS_no (cr ci : Nat) (l : List (Nat × Nat)) (hl : mayE l = false) : doneS cr ci l = (0, 0, 17) := by unfold doneS; rw [hl]; rfl
def toF (r : Int × Int × Int) : Nat × Nat × Int := (floatOfInt .f64 r.1, floatOfInt .f64 r.2.1, r.2.2)
theorem toF_no : toF (0, 0, 17) = (0, 0, 17) := by unfold toF; rw [F_zero]
theorem toF_if (m : Bool) (x y : Int) : toF (if m = true then (if mayR x y = true then (x, y, 0) else (0, 0, 17)) else (0, 0, 17)) = (if m = true then (if mayR x y = true then (floatOfInt .f64 x, floatOfInt .f64 y, 0) else (0, 0, 17)) else (0, 0, 17)) := by
  cases m
  · exact toF_no
  · rw [if_pos rfl, if_pos rfl]
    split
    · rfl
    · exact toF_no
theorem reckon_add (a b c d : Int) (h1 : nearR a b = true) (h2 : nearR c d = true) : ∃ re im cr ci, floatBits .add .f64 (floatOfInt .f64 a) (floatOfInt .f64 c) = some re ∧ floatBits .add .f64 (floatOfInt .f64 b) (floatOfInt .f64 d) = some im ∧ floatBits .add .f64 re 0 = some cr ∧ floatBits .add .f64 im 0 = some ci ∧ doneS cr ci [(floatOfInt .f64 a, floatOfInt .f64 b), (floatOfInt .f64 c, floatOfInt .f64 d)] = toF (doR 0 a b c d) := by
  obtain ⟨ha, hb⟩ := nearR_of h1
  obtain ⟨hc, hd⟩ := nearR_of h2
  obtain ⟨re, e1, e3⟩ := add_F a c (by omega) (by omega)
  obtain ⟨im, e2, e4⟩ := add_F b d (by omega) (by omega)
  refine ⟨re, im, _, _, e1, e2, e3, e4, ?_⟩
  rw [doneS_F _ _ _ _ (mayE_pair a b c d (by omega) (by omega) (by omega) (by omega)) (by omega) (by omega), ← toF_if]
  congr 1
theorem reckon_sub (a b c d : Int) (h1 : nearR a b = true) (h2 : nearR c d = true) : ∃ re im cr ci, floatBits .sub .f64 (floatOfInt .f64 a) (floatOfInt .f64 c) = some re ∧ floatBits .sub .f64 (floatOfInt .f64 b) (floatOfInt .f64 d) = some im ∧ floatBits .add .f64 re 0 = some cr ∧ floatBits .add .f64 im 0 = some ci ∧ doneS cr ci [(floatOfInt .f64 a, floatOfInt .f64 b), (floatOfInt .f64 c, floatOfInt .f64 d)] = toF (doR 1 a b c d) := by
  obtain ⟨ha, hb⟩ := nearR_of h1
  obtain ⟨hc, hd⟩ := nearR_of h2
  obtain ⟨re, e1, e3⟩ := sub_F a c (by omega) (by omega)
  obtain ⟨im, e2, e4⟩ := sub_F b d (by omega) (by omega)
  refine ⟨re, im, _, _, e1, e2, e3, e4, ?_⟩
  rw [doneS_F _ _ _ _ (mayE_pair a b c d (by omega) (by omega) (by omega) (by omega)) (by omega) (by omega), ← toF_if]
  congr 1
theorem reckon_mul (a b c d : Int) (h1 : nearR a b = true) (h2 : nearR c d = true) : ∃ re im cr ci, cMulBits (floatOfInt .f64 a) (floatOfInt .f64 b) (floatOfInt .f64 c) (floatOfInt .f64 d) = some (re, im) ∧ floatBits .add .f64 re 0 = some cr ∧ floatBits .add .f64 im 0 = some ci ∧ doneS cr ci [(floatOfInt .f64 a, floatOfInt .f64 b), (floatOfInt .f64 c, floatOfInt .f64 d)] = toF (doR 2 a b c d) := by
  obtain ⟨ha, hb⟩ := nearR_of h1
  obtain ⟨hc, hd⟩ := nearR_of h2
  have hm := mayE_pair a b c d (by omega) (by omega) (by omega) (by omega)
  cases hmm : (mayR a b && mayR c d) with
  | true =>
    rw [Bool.and_eq_true] at hmm
    obtain ⟨ga, gb⟩ := mayR_of0 hmm.1
    obtain ⟨gc, gd⟩ := mayR_of0 hmm.2
    obtain ⟨re, im, e1, e2, e3⟩ := mul_small a b c d ga gb gc gd
    have b1 := small_mul a c ga gc
    have b2 := small_mul b d gb gd
    have b3 := small_mul a d ga gd
    have b4 := small_mul b c gb gc
    refine ⟨re, im, _, _, e1, e2, e3, ?_⟩
    rw [doneS_F _ _ _ _ hm (by omega) (by omega), ← toF_if]
    congr 1
  | false =>
    obtain ⟨re, im, cr, ci, e1, e2, e3⟩ := mul_any a b c d (by omega) (by omega) (by omega) (by omega)
    refine ⟨re, im, cr, ci, e1, e2, e3, ?_⟩
    rw [doneS_no _ _ _ (hm.trans hmm), ← toF_no]
    congr 1
    unfold doR
    rw [if_neg]
    intro g
    rw [show ((2 : Int) == 3) = false from rfl, Bool.false_or] at g
    rw [g] at hmm; cases hmm
theorem reckon_neg (a b c d : Int) (h1 : nearR a b = true) : floatBits .add .f64 (Op.negFloat .f64 (floatOfInt .f64 a)) 0 = some (floatOfInt .f64 (-a)) ∧ floatBits .add .f64 (Op.negFloat .f64 (floatOfInt .f64 b)) 0 = some (floatOfInt .f64 (-b)) ∧ doneS (floatOfInt .f64 (-a)) (floatOfInt .f64 (-b)) [(floatOfInt .f64 a, floatOfInt .f64 b)] = toF (doR 3 a b c d) := by
  obtain ⟨ha, hb⟩ := nearR_of h1
  refine ⟨neg_F a (by omega) (by omega), neg_F b (by omega) (by omega), ?_⟩
  rw [doneS_F _ _ _ _ (mayE_one a b (by omega) (by omega)) (by omega) (by omega), ← toF_if]
  congr 1
  unfold doR
  rw [show ((3 : Int) == 3) = true from rfl, Bool.true_or, Bool.and_true]
  rfl
theorem doR_out (op a b c d : Int) : (doR op a b c d).2.2 = 0 ∧ mayR (doR op a b c d).1 (doR op a b c d).2.1 = true ∨ doR op a b c d = (0, 0, 17) := by
  unfold doR
  by_cases g : (mayR a b && ((op == 3) || mayR c d)) = true
  · rw [if_pos g]
    generalize (if op = 0 then (a + c, b + d) else if op = 1 then (a - c, b - d) else if op = 2 then (a * c - b * d, a * d + b * c) else (-a, -b)) = z
    dsimp only
    by_cases h : mayR z.1 z.2 = true
    · rw [if_pos h]; exact Or.inl ⟨rfl, h⟩
    · rw [if_neg h]; exact Or.inr rfl
  · rw [if_neg g]; exact Or.inr rfl
theorem order_F (n : Int) (h0 : -9007199254740992 < n) (h1 : n < 9007199254740992) : (FloatKind.f64.format.order (floatOfInt .f64 n) (floatOfInt .f64 n) == some .eq) = true := by
  have h : FloatKind.f64.format.order (floatOfInt .f64 n) (floatOfInt .f64 n) = _ := num_order (F_int n h0 h1) (F_int n h0 h1)
  rw [h, cmp_eq, decide_eq_true rfl]
theorem reck_Neg.calls (a b c d : Int) (h1 : nearR a b = true) (w : World) :
    Calls Try.prog 13 #[.complex .f64 (floatOfInt .f64 a) (floatOfInt .f64 b)] w fun e w' => e = .returned (.tuple #[.complex .f64 (floatOfInt .f64 (doR 3 a b c d).1) (floatOfInt .f64 (doR 3 a b c d).2.1), .int .i64 (doR 3 a b c d).2.2]) ∧ Below w.heap.size w w' := by
  obtain ⟨e1, e2, e3⟩ := reckon_neg a b c d h1
  refine (gauss_Neg.calls _ _ _ _ e1 e2 w).mono ?_
  rintro e w' ⟨rfl, hb⟩
  rw [e3]
  exact ⟨rfl, hb⟩
theorem reck_Add.calls (a b c d : Int) (h1 : nearR a b = true) (h2 : nearR c d = true) (w : World) :
    Calls Try.prog 15 #[.complex .f64 (floatOfInt .f64 a) (floatOfInt .f64 b), .complex .f64 (floatOfInt .f64 c) (floatOfInt .f64 d)] w fun e w' => e = .returned (.tuple #[.complex .f64 (floatOfInt .f64 (doR 0 a b c d).1) (floatOfInt .f64 (doR 0 a b c d).2.1), .int .i64 (doR 0 a b c d).2.2]) ∧ Below w.heap.size w w' := by
  obtain ⟨re, im, cr, ci, e1, e2, e3, e4, e5⟩ := reckon_add a b c d h1 h2
  refine (gauss_Add.calls _ _ _ _ _ _ _ _ e1 e2 e3 e4 w).mono ?_
  rintro e w' ⟨rfl, hb⟩
  rw [e5]
  exact ⟨rfl, hb⟩
theorem reck_Sub.calls (a b c d : Int) (h1 : nearR a b = true) (h2 : nearR c d = true) (w : World) :
    Calls Try.prog 16 #[.complex .f64 (floatOfInt .f64 a) (floatOfInt .f64 b), .complex .f64 (floatOfInt .f64 c) (floatOfInt .f64 d)] w fun e w' => e = .returned (.tuple #[.complex .f64 (floatOfInt .f64 (doR 1 a b c d).1) (floatOfInt .f64 (doR 1 a b c d).2.1), .int .i64 (doR 1 a b c d).2.2]) ∧ Below w.heap.size w w' := by
  obtain ⟨re, im, cr, ci, e1, e2, e3, e4, e5⟩ := reckon_sub a b c d h1 h2
  refine (gauss_Sub.calls _ _ _ _ _ _ _ _ e1 e2 e3 e4 w).mono ?_
  rintro e w' ⟨rfl, hb⟩
  rw [e5]
  exact ⟨rfl, hb⟩
theorem reck_Mul.calls (a b c d : Int) (h1 : nearR a b = true) (h2 : nearR c d = true) (w : World) :
    Calls Try.prog 17 #[.complex .f64 (floatOfInt .f64 a) (floatOfInt .f64 b), .complex .f64 (floatOfInt .f64 c) (floatOfInt .f64 d)] w fun e w' => e = .returned (.tuple #[.complex .f64 (floatOfInt .f64 (doR 2 a b c d).1) (floatOfInt .f64 (doR 2 a b c d).2.1), .int .i64 (doR 2 a b c d).2.2]) ∧ Below w.heap.size w w' := by
  obtain ⟨re, im, cr, ci, e1, e3, e4, e5⟩ := reckon_mul a b c d h1 h2
  refine (gauss_Mul.calls _ _ _ _ _ _ _ _ e1 e3 e4 w).mono ?_
  rintro e w' ⟨rfl, hb⟩
  rw [e5]
  exact ⟨rfl, hb⟩
theorem reck_Put.calls (a b : Int) (h : mayR a b = true) (w : World) :
    Calls Try.prog 19 #[.complex .f64 (floatOfInt .f64 a) (floatOfInt .f64 b)] w fun e w' => e = .returned (.tuple #[.string (laidV (floatOfInt .f32 a) ++ laidV (floatOfInt .f32 b)), .int .i64 0]) ∧ Below w.heap.size w w' := by
  obtain ⟨ha, hb⟩ := mayR_of0 h
  exact gauss_Put.calls _ _ _ _ ((mayE_one a b (by omega) (by omega)).trans h) (F32 a (by omega) (by omega)) (F32 b (by omega) (by omega)) w
theorem putR_yes (a b : Int) (h : mayR a b = true) : agateref06_Put_s.f a b = some (laidV (floatOfInt .f32 a) ++ laidV (floatOfInt .f32 b), 0) := by
  unfold agateref06_Put_s.f putR; rw [if_pos h]

end Go.Proofs.Ytpojamikfcmnoaa.X
-- by xprint.py, a program of this session, over the kit's print.py
namespace Go.Proofs.Ytpojamikfcmnoaa.X
open Go.RowKit Go.Proofs.YtpojamikfcmnoaaW.PrintWords Go.Proofs.YtpojamikfcmnoaaW.PrintLast Go.Proofs.YtpojamikfcmnoaaW.PrintMore
attribute [local go_sem] max2_int min2_int max_two min_two max_three min_three max_four min_four   -- for this text's walks alone
set_option linter.unusedVariables false
set_option linter.unusedSimpArgs false

def agatelaw06_GaussReckons.f (a b c d : Int) : Option Bool := some true
theorem reck_small {r : Int × Int × Int} (h : r.2.2 = 0 ∧ mayR r.1 r.2.1 = true ∨ r = (0, 0, 17)) : (-1048576 ≤ r.1 ∧ r.1 ≤ 1048576) ∧ (-1048576 ≤ r.2.1 ∧ r.2.1 ≤ 1048576) := by
  rcases h with h | h
  · exact mayR_of0 h.2
  · rw [h]; decide
structure RI (w0 : World) (gX gY : Nat) (a b c d : Int) (w : World) : Prop where
  x : w.heap[gX]? = some (.cells #[.int .i64 a, .int .i64 b] 23 (0, 0))
  y : w.heap[gY]? = some (.cells #[.int .i64 c, .int .i64 d] 23 (0, 0))
  b : Below w0.heap.size w0 w
def RC (gX gY : Nat) (a b c d : Int) (w : World) : Prop := w.cell? ⟨gX, 0, none⟩ = some (.int .i64 a) ∧ w.cell? ⟨gX, 1, none⟩ = some (.int .i64 b) ∧ w.cell? ⟨gY, 0, none⟩ = some (.int .i64 c) ∧ w.cell? ⟨gY, 1, none⟩ = some (.int .i64 d)
theorem RI.cells {w0 : World} {gX gY : Nat} {a b c d : Int} {w : World} (h : RI w0 gX gY a b c d w) : RC gX gY a b c d w :=
  ⟨(blk_cell h.x 0).trans rfl, (blk_cell h.x 1).trans rfl, (blk_cell h.y 0).trans rfl, (blk_cell h.y 1).trans rfl⟩
theorem RI.step {w0 : World} {gX gY : Nat} {a b c d : Int} {w w' : World} (h : RI w0 gX gY a b c d w) (hb : Below w.heap.size w w') : RI w0 gX gY a b c d w' :=
  ⟨blk_below h.x hb, blk_below h.y hb, below_step h.b hb⟩
theorem RI.drew {w0 : World} {gX gY : Nat} {a b c d : Int} {w : World} (h : RI w0 gX gY a b c d w) : RI w0 gX gY a b c d w.drew :=
  ⟨h.x, h.y, below_drew1 h.b⟩
theorem keep_calls {f : Nat} {args : Array Value} {w0 : World} {gX gY : Nat} {a b c d : Int} {w : World} {v : Value} (h : RI w0 gX gY a b c d w) (k : Calls Try.prog f args w fun e w' => e = .returned v ∧ Below w.heap.size w w') :
    Calls Try.prog f args w fun e w' => e = .returned v ∧ w'.cell? ⟨gX, 0, none⟩ = some (.int .i64 a) ∧ w'.cell? ⟨gX, 1, none⟩ = some (.int .i64 b) ∧ w'.cell? ⟨gY, 0, none⟩ = some (.int .i64 c) ∧ w'.cell? ⟨gY, 1, none⟩ = some (.int .i64 d) ∧ RI w0 gX gY a b c d w' := by
  refine k.mono ?_
  rintro e w' ⟨he, hb⟩
  have h2 := h.step hb
  exact ⟨he, h2.cells.1, h2.cells.2.1, h2.cells.2.2.1, h2.cells.2.2.2, h2⟩
set_option maxHeartbeats 8000000 in
set_option maxRecDepth 100000 in
theorem agatelaw06_GaussReckons.calls (a b c d : Int) (r : Bool) (w : World) (h : agatelaw06_GaussReckons.f a b c d = some r) :
    Calls Try.prog 3 #[.int .i64 a, .int .i64 b, .int .i64 c, .int .i64 d] w fun e w' => e = .returned (.bool r) ∧ Below w.heap.size w w' := by
  obtain rfl := Option.some.inj h
  have HB := Aside0.mk (Below.refl w.heap.size w)
  clear h
  go_enter Try.func3, Try.ntmps3
  go_wp2_with (first | ((with_reducible refine gate_dst (N := 9) rfl ?_); refine box_event ?hg (N := 9) ?hd (cs := #[.int .i64 0, .int .i64 0]) (t := 23) ?hr ?_; (case hd => rfl); (case hg => rfl); (case hr => first | (go_simp; done) | (go_simp; rfl)); intro gX hg wX hbox hb; have m0_ := Aside0.mk (below_step HB.out hb); have m1_ := Aside0.mk hbox; have m2_ := Aside0.mk (by rw [hg]; exact below_size HB.out : w.heap.size ≤ gX); clear HB; have HB := m0_; have BKX := m1_; have GWX := m2_; clear m0_ m1_ m2_; clear hb hbox hg; have cX0wX : wX.cell? ⟨gX, 0, none⟩ = some (.int .i64 0) := (blk_cell BKX.out 0).trans rfl; have fX0wX := blk_frozen BKX.out 0; have cX1wX : wX.cell? ⟨gX, 1, none⟩ = some (.int .i64 0) := (blk_cell BKX.out 1).trans rfl; have fX1wX := blk_frozen BKX.out 1) | ((with_reducible refine gate_dst (N := 10) rfl ?_); refine box_event ?hg (N := 10) ?hd (cs := #[.int .i64 0, .int .i64 0]) (t := 23) ?hr ?_; (case hd => rfl); (case hg => rfl); (case hr => first | (go_simp; done) | (go_simp; rfl)); intro gY hg wY hbox hb; have m0_ := Aside0.mk (below_step HB.out hb); have m1_ := Aside0.mk hbox; have m2_ := Aside0.mk (by rw [hg]; exact below_size HB.out : w.heap.size ≤ gY); have neXY : ¬ gX = gY := (by have := blk_lt BKX.out; omega); have neYX : ¬ gY = gX := fun e => neXY e.symm; have nX_ := Aside0.mk (blk_below BKX.out hb); clear BKX; have BKX := nX_; clear nX_; clear HB; have HB := m0_; have BKY := m1_; have GWY := m2_; clear m0_ m1_ m2_; clear hb hbox hg; have cX0wY : wY.cell? ⟨gX, 0, none⟩ = some (.int .i64 0) := (blk_cell BKX.out 0).trans rfl; have fX0wY := blk_frozen BKX.out 0; have cX1wY : wY.cell? ⟨gX, 1, none⟩ = some (.int .i64 0) := (blk_cell BKX.out 1).trans rfl; have fX1wY := blk_frozen BKX.out 1; have cY0wY : wY.cell? ⟨gY, 0, none⟩ = some (.int .i64 0) := (blk_cell BKY.out 0).trans rfl; have fY0wY := blk_frozen BKY.out 0; have cY1wY : wY.cell? ⟨gY, 1, none⟩ = some (.int .i64 0) := (blk_cell BKY.out 1).trans rfl; have fY1wY := blk_frozen BKY.out 1; have z0 : ((((wY.setCell ⟨gX, 0, none⟩ (.int .i64 a)).setCell ⟨gX, 1, none⟩ (.int .i64 b)).setCell ⟨gY, 0, none⟩ (.int .i64 c)).setCell ⟨gY, 1, none⟩ (.int .i64 d)).cell? ⟨gX, 0, none⟩ = some (.int .i64 a) := (blk_cell (blk_far (blk_far (blk_put (blk_put BKX.out 0 _ rfl) 1 _ rfl) neXY _) neXY _) 0).trans rfl; have z1 : ((((wY.setCell ⟨gX, 0, none⟩ (.int .i64 a)).setCell ⟨gX, 1, none⟩ (.int .i64 b)).setCell ⟨gY, 0, none⟩ (.int .i64 c)).setCell ⟨gY, 1, none⟩ (.int .i64 d)).cell? ⟨gX, 1, none⟩ = some (.int .i64 b) := (blk_cell (blk_far (blk_far (blk_put (blk_put BKX.out 0 _ rfl) 1 _ rfl) neXY _) neXY _) 1).trans rfl) | (fail))
  refine (agatelaw06_near.calls a b _ _ (near_f a b)).mono ?_
  rintro e w1 ⟨rfl, hb⟩
  have m0_ := Aside0.mk (below_step (below_set (below_set (below_set (below_set HB.out GWX.out) GWX.out) GWY.out) GWY.out) hb)
  have nX_ := Aside0.mk (blk_below (blk_far (blk_far (blk_put (blk_put BKX.out 0 _ rfl) 1 _ rfl) neXY _) neXY _) hb)
  have nY_ := Aside0.mk (blk_below (blk_put (blk_put (blk_far (blk_far BKY.out neYX _) neYX _) 0 _ rfl) 1 _ rfl) hb)
  clear BKX BKY
  have BKX := nX_
  have BKY := nY_
  clear nX_ nY_
  clear HB hb
  have HB := m0_
  clear m0_
  have cX0w1 : w1.cell? ⟨gX, 0, none⟩ = some (.int .i64 a) := (blk_cell BKX.out 0).trans rfl
  have fX0w1 := blk_frozen BKX.out 0
  have cX1w1 : w1.cell? ⟨gX, 1, none⟩ = some (.int .i64 b) := (blk_cell BKX.out 1).trans rfl
  have fX1w1 := blk_frozen BKX.out 1
  have cY0w1 : w1.cell? ⟨gY, 0, none⟩ = some (.int .i64 c) := (blk_cell BKY.out 0).trans rfl
  have fY0w1 := blk_frozen BKY.out 0
  have cY1w1 : w1.cell? ⟨gY, 1, none⟩ = some (.int .i64 d) := (blk_cell BKY.out 1).trans rfl
  have fY1w1 := blk_frozen BKY.out 1
  cases hn1 : nearR a b with
  | false =>
    go_wp2_with (first | (fail))
    refine (agatelaw06_Awake.calls true _ rfl).mono ?_
    rintro e wE ⟨rfl, hb⟩
    have HB2 := Aside0.mk (below_step HB.out hb)
    clear HB hb
    have HB := HB2
    go_wp2_with (first | (fail))
    go_ret
    exact ⟨rfl, HB.out⟩
  | true =>
    go_wp2_with (first | (fail))
    refine (agatelaw06_near.calls c d _ _ (near_f c d)).mono ?_
    rintro e w2 ⟨rfl, hb⟩
    have m0_ := Aside0.mk (below_step (HB.out) hb)
    have nX_ := Aside0.mk (blk_below BKX.out hb)
    have nY_ := Aside0.mk (blk_below BKY.out hb)
    clear BKX BKY
    have BKX := nX_
    have BKY := nY_
    clear nX_ nY_
    clear HB hb
    have HB := m0_
    clear m0_
    have cX0w2 : w2.cell? ⟨gX, 0, none⟩ = some (.int .i64 a) := (blk_cell BKX.out 0).trans rfl
    have fX0w2 := blk_frozen BKX.out 0
    have cX1w2 : w2.cell? ⟨gX, 1, none⟩ = some (.int .i64 b) := (blk_cell BKX.out 1).trans rfl
    have fX1w2 := blk_frozen BKX.out 1
    have cY0w2 : w2.cell? ⟨gY, 0, none⟩ = some (.int .i64 c) := (blk_cell BKY.out 0).trans rfl
    have fY0w2 := blk_frozen BKY.out 0
    have cY1w2 : w2.cell? ⟨gY, 1, none⟩ = some (.int .i64 d) := (blk_cell BKY.out 1).trans rfl
    have fY1w2 := blk_frozen BKY.out 1
    cases hn2 : nearR c d with
    | false =>
      go_wp2_with (first | (fail))
      refine (agatelaw06_Awake.calls true _ rfl).mono ?_
      rintro e wE ⟨rfl, hb⟩
      have HB2 := Aside0.mk (below_step HB.out hb)
      clear HB hb
      have HB := HB2
      go_wp2_with (first | (fail))
      go_ret
      exact ⟨rfl, HB.out⟩
    | true =>
      have HN1 := Aside0.mk hn1
      have HN2 := Aside0.mk hn2
      clear hn1 hn2
      go_wp2_with (first | (fail))
      go_loopg [35] 4 (fun kq v35 w' => ∃ i : Nat, v35 = .int .i64 i ∧ Aside0 (i + kq = 4) ∧ i ≤ 4 ∧ Aside0 (w'.heap[gX]? = some (.cells #[.int .i64 a, .int .i64 b] 23 (0, 0))) ∧ Aside0 (w'.heap[gY]? = some (.cells #[.int .i64 c, .int .i64 d] 23 (0, 0))) ∧ Aside0 (Below w.heap.size w w'))
      case atStart => exact ⟨0, rfl, ⟨by omega⟩, Nat.zero_le _, BKX, BKY, HB⟩
      case round =>
        clear BKX BKY HB
        obtain ⟨i, rfl, HK, hi, BKX, BKY, HB⟩ := hrel
        have h5 : i = 0 ∨ i = 1 ∨ i = 2 ∨ i = 3 ∨ i = 4 := by omega
        rcases h5 with rfl | rfl | rfl | rfl | rfl
        · obtain ⟨kk, rfl⟩ : ∃ m, gk = m + 1 := ⟨gk - 1, by have := HK.out; omega⟩
          have cX0wr : wr.cell? ⟨gX, 0, none⟩ = some (.int .i64 a) := (blk_cell BKX.out 0).trans rfl
          have fX0wr := blk_frozen BKX.out 0
          have cX1wr : wr.cell? ⟨gX, 1, none⟩ = some (.int .i64 b) := (blk_cell BKX.out 1).trans rfl
          have fX1wr := blk_frozen BKX.out 1
          have cY0wr : wr.cell? ⟨gY, 0, none⟩ = some (.int .i64 c) := (blk_cell BKY.out 0).trans rfl
          have fY0wr := blk_frozen BKY.out 0
          have cY1wr : wr.cell? ⟨gY, 1, none⟩ = some (.int .i64 d) := (blk_cell BKY.out 1).trans rfl
          have fY1wr := blk_frozen BKY.out 1
          go_wp2_with (first | (fail))
          refine (law06_Of.calls a b _).mono ?_
          rintro e v1 ⟨rfl, hb⟩
          have m0_ := Aside0.mk (below_step (HB.out) hb)
          have nX_ := Aside0.mk (blk_below BKX.out hb)
          have nY_ := Aside0.mk (blk_below BKY.out hb)
          clear BKX BKY
          have BKX := nX_
          have BKY := nY_
          clear nX_ nY_
          clear HB hb
          have HB := m0_
          clear m0_
          have cX0v1 : v1.cell? ⟨gX, 0, none⟩ = some (.int .i64 a) := (blk_cell BKX.out 0).trans rfl
          have fX0v1 := blk_frozen BKX.out 0
          have cX1v1 : v1.cell? ⟨gX, 1, none⟩ = some (.int .i64 b) := (blk_cell BKX.out 1).trans rfl
          have fX1v1 := blk_frozen BKX.out 1
          have cY0v1 : v1.cell? ⟨gY, 0, none⟩ = some (.int .i64 c) := (blk_cell BKY.out 0).trans rfl
          have fY0v1 := blk_frozen BKY.out 0
          have cY1v1 : v1.cell? ⟨gY, 1, none⟩ = some (.int .i64 d) := (blk_cell BKY.out 1).trans rfl
          have fY1v1 := blk_frozen BKY.out 1
          go_wp2_with (first | (fail))
          refine (reck_Neg.calls a b c d HN1.out _).mono ?_
          rintro e v2 ⟨rfl, hb⟩
          have m0_ := Aside0.mk (below_step (HB.out) hb)
          have nX_ := Aside0.mk (blk_below BKX.out hb)
          have nY_ := Aside0.mk (blk_below BKY.out hb)
          clear BKX BKY
          have BKX := nX_
          have BKY := nY_
          clear nX_ nY_
          clear HB hb
          have HB := m0_
          clear m0_
          have cX0v2 : v2.cell? ⟨gX, 0, none⟩ = some (.int .i64 a) := (blk_cell BKX.out 0).trans rfl
          have fX0v2 := blk_frozen BKX.out 0
          have cX1v2 : v2.cell? ⟨gX, 1, none⟩ = some (.int .i64 b) := (blk_cell BKX.out 1).trans rfl
          have fX1v2 := blk_frozen BKX.out 1
          have cY0v2 : v2.cell? ⟨gY, 0, none⟩ = some (.int .i64 c) := (blk_cell BKY.out 0).trans rfl
          have fY0v2 := blk_frozen BKY.out 0
          have cY1v2 : v2.cell? ⟨gY, 1, none⟩ = some (.int .i64 d) := (blk_cell BKY.out 1).trans rfl
          have fY1v2 := blk_frozen BKY.out 1
          go_wp2_with (first | (fail))
          have HR : RI w gX gY a b c d v2 := ⟨BKX.out, BKY.out, HB.out⟩
          have HRd := HR.drew
          clear BKX BKY HB
          go_region_held3 (fun w' => w'.cell? ⟨gX, 0, none⟩ = some (.int .i64 a) ∧ w'.cell? ⟨gX, 1, none⟩ = some (.int .i64 b) ∧ w'.cell? ⟨gY, 0, none⟩ = some (.int .i64 c) ∧ w'.cell? ⟨gY, 1, none⟩ = some (.int .i64 d) ∧ RI w gX gY a b c d w') (go_keep) (first | (go_at_call 14; refine (keep_calls (by assumption) (law06_Of.calls _ _ _)).mono ?_; rintro e w5 ⟨rfl, k0, k1, k2, k3, HR⟩) | (go_at_call 15; refine (keep_calls (by assumption) (reck_Add.calls a b c d HN1.out HN2.out _)).mono ?_; rintro e w5 ⟨rfl, k0, k1, k2, k3, HR⟩))
          have BKX := Aside0.mk HR.x
          have BKY := Aside0.mk HR.y
          have HB := Aside0.mk HR.b
          clear k0 k1 k2 k3 HRd HR
          go_wp2_with (first | (fail))
          have Hout := doR_out 0 a b c d
          have Hs := reck_small Hout
          refine (agateref06_Do.calls0 a b c d _).mono ?_
          rintro e v6 ⟨rfl, hb⟩
          have m0_ := Aside0.mk (below_step (HB.out) hb)
          have nX_ := Aside0.mk (blk_below BKX.out hb)
          have nY_ := Aside0.mk (blk_below BKY.out hb)
          clear BKX BKY
          have BKX := nX_
          have BKY := nY_
          clear nX_ nY_
          clear HB hb
          have HB := m0_
          clear m0_
          have cX0v6 : v6.cell? ⟨gX, 0, none⟩ = some (.int .i64 a) := (blk_cell BKX.out 0).trans rfl
          have fX0v6 := blk_frozen BKX.out 0
          have cX1v6 : v6.cell? ⟨gX, 1, none⟩ = some (.int .i64 b) := (blk_cell BKX.out 1).trans rfl
          have fX1v6 := blk_frozen BKX.out 1
          have cY0v6 : v6.cell? ⟨gY, 0, none⟩ = some (.int .i64 c) := (blk_cell BKY.out 0).trans rfl
          have fY0v6 := blk_frozen BKY.out 0
          have cY1v6 : v6.cell? ⟨gY, 1, none⟩ = some (.int .i64 d) := (blk_cell BKY.out 1).trans rfl
          have fY1v6 := blk_frozen BKY.out 1
          generalize doR 0 a b c d = q at Hout Hs ⊢
          obtain ⟨q1, q2, q3⟩ := q
          dsimp only at Hout Hs ⊢
          have o1 := order_F q1 (by omega) (by omega)
          have o2 := order_F q2 (by omega) (by omega)
          go_wp2_with (first | ((with_reducible refine gate_dst (N := 14) rfl ?_); refine box_event ?hg (N := 14) ?hd (cs := #[.int .i64 0, .int .i64 0]) (t := 23) ?hr ?_; (case hd => rfl); (case hg => rfl); (case hr => first | (go_simp; done) | (go_simp; rfl)); intro gW hg wW hbox hb; have m0_ := Aside0.mk (below_step HB.out hb); have m1_ := Aside0.mk hbox; have m2_ := Aside0.mk (by rw [hg]; exact below_size HB.out : w.heap.size ≤ gW); have neXW : ¬ gX = gW := (by have := blk_lt BKX.out; omega); have neWX : ¬ gW = gX := fun e => neXW e.symm; have neYW : ¬ gY = gW := (by have := blk_lt BKY.out; omega); have neWY : ¬ gW = gY := fun e => neYW e.symm; have nX_ := Aside0.mk (blk_below BKX.out hb); have nY_ := Aside0.mk (blk_below BKY.out hb); clear BKX BKY; have BKX := nX_; have BKY := nY_; clear nX_ nY_; clear HB; have HB := m0_; have BKW := m1_; have GWW := m2_; clear m0_ m1_ m2_; clear hb hbox hg; have cX0wW : wW.cell? ⟨gX, 0, none⟩ = some (.int .i64 a) := (blk_cell BKX.out 0).trans rfl; have fX0wW := blk_frozen BKX.out 0; have cX1wW : wW.cell? ⟨gX, 1, none⟩ = some (.int .i64 b) := (blk_cell BKX.out 1).trans rfl; have fX1wW := blk_frozen BKX.out 1; have cY0wW : wW.cell? ⟨gY, 0, none⟩ = some (.int .i64 c) := (blk_cell BKY.out 0).trans rfl; have fY0wW := blk_frozen BKY.out 0; have cY1wW : wW.cell? ⟨gY, 1, none⟩ = some (.int .i64 d) := (blk_cell BKY.out 1).trans rfl; have fY1wW := blk_frozen BKY.out 1; have cW0wW : wW.cell? ⟨gW, 0, none⟩ = some (.int .i64 0) := (blk_cell BKW.out 0).trans rfl; have fW0wW := blk_frozen BKW.out 0; have cW1wW : wW.cell? ⟨gW, 1, none⟩ = some (.int .i64 0) := (blk_cell BKW.out 1).trans rfl; have fW1wW := blk_frozen BKW.out 1; have z0 : ((wW.setCell ⟨gW, 0, none⟩ (.int .i64 q1)).setCell ⟨gW, 1, none⟩ (.int .i64 q2)).cell? ⟨gW, 0, none⟩ = some (.int .i64 q1) := (blk_cell (blk_put (blk_put BKW.out 0 _ rfl) 1 _ rfl) 0).trans rfl; have z1 : ((wW.setCell ⟨gW, 0, none⟩ (.int .i64 q1)).setCell ⟨gW, 1, none⟩ (.int .i64 q2)).cell? ⟨gW, 1, none⟩ = some (.int .i64 q2) := (blk_cell (blk_put (blk_put BKW.out 0 _ rfl) 1 _ rfl) 1).trans rfl) | (fail))
          refine (law06_Of.calls q1 q2 _).mono ?_
          rintro e v7 ⟨rfl, hb⟩
          have m0_ := Aside0.mk (below_step (below_set (below_set HB.out GWW.out) GWW.out) hb)
          have nX_ := Aside0.mk (blk_below (blk_far (blk_far BKX.out neXW _) neXW _) hb)
          have nY_ := Aside0.mk (blk_below (blk_far (blk_far BKY.out neYW _) neYW _) hb)
          have nW_ := Aside0.mk (blk_below (blk_put (blk_put BKW.out 0 _ rfl) 1 _ rfl) hb)
          clear BKX BKY BKW
          have BKX := nX_
          have BKY := nY_
          have BKW := nW_
          clear nX_ nY_ nW_
          clear HB hb
          have HB := m0_
          clear m0_
          have cX0v7 : v7.cell? ⟨gX, 0, none⟩ = some (.int .i64 a) := (blk_cell BKX.out 0).trans rfl
          have fX0v7 := blk_frozen BKX.out 0
          have cX1v7 : v7.cell? ⟨gX, 1, none⟩ = some (.int .i64 b) := (blk_cell BKX.out 1).trans rfl
          have fX1v7 := blk_frozen BKX.out 1
          have cY0v7 : v7.cell? ⟨gY, 0, none⟩ = some (.int .i64 c) := (blk_cell BKY.out 0).trans rfl
          have fY0v7 := blk_frozen BKY.out 0
          have cY1v7 : v7.cell? ⟨gY, 1, none⟩ = some (.int .i64 d) := (blk_cell BKY.out 1).trans rfl
          have fY1v7 := blk_frozen BKY.out 1
          have cW0v7 : v7.cell? ⟨gW, 0, none⟩ = some (.int .i64 q1) := (blk_cell BKW.out 0).trans rfl
          have fW0v7 := blk_frozen BKW.out 0
          have cW1v7 : v7.cell? ⟨gW, 1, none⟩ = some (.int .i64 q2) := (blk_cell BKW.out 1).trans rfl
          have fW1v7 := blk_frozen BKW.out 1
          rcases Hout with ⟨h0, hm⟩ | h17
          · subst h0
            go_wp2_with (first | (fail))
            refine (reck_Put.calls q1 q2 hm _).mono ?_
            rintro e v8 ⟨rfl, hb⟩
            have m0_ := Aside0.mk (below_step (HB.out) hb)
            have nX_ := Aside0.mk (blk_below BKX.out hb)
            have nY_ := Aside0.mk (blk_below BKY.out hb)
            have nW_ := Aside0.mk (blk_below BKW.out hb)
            clear BKX BKY BKW
            have BKX := nX_
            have BKY := nY_
            have BKW := nW_
            clear nX_ nY_ nW_
            clear HB hb
            have HB := m0_
            clear m0_
            have cX0v8 : v8.cell? ⟨gX, 0, none⟩ = some (.int .i64 a) := (blk_cell BKX.out 0).trans rfl
            have fX0v8 := blk_frozen BKX.out 0
            have cX1v8 : v8.cell? ⟨gX, 1, none⟩ = some (.int .i64 b) := (blk_cell BKX.out 1).trans rfl
            have fX1v8 := blk_frozen BKX.out 1
            have cY0v8 : v8.cell? ⟨gY, 0, none⟩ = some (.int .i64 c) := (blk_cell BKY.out 0).trans rfl
            have fY0v8 := blk_frozen BKY.out 0
            have cY1v8 : v8.cell? ⟨gY, 1, none⟩ = some (.int .i64 d) := (blk_cell BKY.out 1).trans rfl
            have fY1v8 := blk_frozen BKY.out 1
            have cW0v8 : v8.cell? ⟨gW, 0, none⟩ = some (.int .i64 q1) := (blk_cell BKW.out 0).trans rfl
            have fW0v8 := blk_frozen BKW.out 0
            have cW1v8 : v8.cell? ⟨gW, 1, none⟩ = some (.int .i64 q2) := (blk_cell BKW.out 1).trans rfl
            have fW1v8 := blk_frozen BKW.out 1
            go_wp2_with (first | (fail))
            refine (agateref06_Put_s.calls q1 q2 _ _ _ (putR_yes q1 q2 hm)).mono ?_
            rintro e v9 ⟨rfl, hb⟩
            have m0_ := Aside0.mk (below_step (HB.out) hb)
            have nX_ := Aside0.mk (blk_below BKX.out hb)
            have nY_ := Aside0.mk (blk_below BKY.out hb)
            have nW_ := Aside0.mk (blk_below BKW.out hb)
            clear BKX BKY BKW
            have BKX := nX_
            have BKY := nY_
            have BKW := nW_
            clear nX_ nY_ nW_
            clear HB hb
            have HB := m0_
            clear m0_
            have cX0v9 : v9.cell? ⟨gX, 0, none⟩ = some (.int .i64 a) := (blk_cell BKX.out 0).trans rfl
            have fX0v9 := blk_frozen BKX.out 0
            have cX1v9 : v9.cell? ⟨gX, 1, none⟩ = some (.int .i64 b) := (blk_cell BKX.out 1).trans rfl
            have fX1v9 := blk_frozen BKX.out 1
            have cY0v9 : v9.cell? ⟨gY, 0, none⟩ = some (.int .i64 c) := (blk_cell BKY.out 0).trans rfl
            have fY0v9 := blk_frozen BKY.out 0
            have cY1v9 : v9.cell? ⟨gY, 1, none⟩ = some (.int .i64 d) := (blk_cell BKY.out 1).trans rfl
            have fY1v9 := blk_frozen BKY.out 1
            have cW0v9 : v9.cell? ⟨gW, 0, none⟩ = some (.int .i64 q1) := (blk_cell BKW.out 0).trans rfl
            have fW0v9 := blk_frozen BKW.out 0
            have cW1v9 : v9.cell? ⟨gW, 1, none⟩ = some (.int .i64 q2) := (blk_cell BKW.out 1).trans rfl
            have fW1v9 := blk_frozen BKW.out 1
            have HK2 := HK
            go_wp2_with (first | (fail))
            go_roundg kk
            case measure => have := HK.out; omega
            case rel => exact ⟨1, rfl, ⟨by have := HK.out; omega⟩, by omega, BKX, BKY, HB⟩
          · cases h17
            go_wp2_with (first | (fail))
            go_roundg kk
            case measure => have := HK.out; omega
            case rel => exact ⟨1, rfl, ⟨by have := HK.out; omega⟩, by omega, BKX, BKY, HB⟩
        · obtain ⟨kk, rfl⟩ : ∃ m, gk = m + 1 := ⟨gk - 1, by have := HK.out; omega⟩
          have cX0wr : wr.cell? ⟨gX, 0, none⟩ = some (.int .i64 a) := (blk_cell BKX.out 0).trans rfl
          have fX0wr := blk_frozen BKX.out 0
          have cX1wr : wr.cell? ⟨gX, 1, none⟩ = some (.int .i64 b) := (blk_cell BKX.out 1).trans rfl
          have fX1wr := blk_frozen BKX.out 1
          have cY0wr : wr.cell? ⟨gY, 0, none⟩ = some (.int .i64 c) := (blk_cell BKY.out 0).trans rfl
          have fY0wr := blk_frozen BKY.out 0
          have cY1wr : wr.cell? ⟨gY, 1, none⟩ = some (.int .i64 d) := (blk_cell BKY.out 1).trans rfl
          have fY1wr := blk_frozen BKY.out 1
          go_wp2_with (first | (fail))
          refine (law06_Of.calls a b _).mono ?_
          rintro e v1 ⟨rfl, hb⟩
          have m0_ := Aside0.mk (below_step (HB.out) hb)
          have nX_ := Aside0.mk (blk_below BKX.out hb)
          have nY_ := Aside0.mk (blk_below BKY.out hb)
          clear BKX BKY
          have BKX := nX_
          have BKY := nY_
          clear nX_ nY_
          clear HB hb
          have HB := m0_
          clear m0_
          have cX0v1 : v1.cell? ⟨gX, 0, none⟩ = some (.int .i64 a) := (blk_cell BKX.out 0).trans rfl
          have fX0v1 := blk_frozen BKX.out 0
          have cX1v1 : v1.cell? ⟨gX, 1, none⟩ = some (.int .i64 b) := (blk_cell BKX.out 1).trans rfl
          have fX1v1 := blk_frozen BKX.out 1
          have cY0v1 : v1.cell? ⟨gY, 0, none⟩ = some (.int .i64 c) := (blk_cell BKY.out 0).trans rfl
          have fY0v1 := blk_frozen BKY.out 0
          have cY1v1 : v1.cell? ⟨gY, 1, none⟩ = some (.int .i64 d) := (blk_cell BKY.out 1).trans rfl
          have fY1v1 := blk_frozen BKY.out 1
          go_wp2_with (first | (fail))
          refine (reck_Neg.calls a b c d HN1.out _).mono ?_
          rintro e v2 ⟨rfl, hb⟩
          have m0_ := Aside0.mk (below_step (HB.out) hb)
          have nX_ := Aside0.mk (blk_below BKX.out hb)
          have nY_ := Aside0.mk (blk_below BKY.out hb)
          clear BKX BKY
          have BKX := nX_
          have BKY := nY_
          clear nX_ nY_
          clear HB hb
          have HB := m0_
          clear m0_
          have cX0v2 : v2.cell? ⟨gX, 0, none⟩ = some (.int .i64 a) := (blk_cell BKX.out 0).trans rfl
          have fX0v2 := blk_frozen BKX.out 0
          have cX1v2 : v2.cell? ⟨gX, 1, none⟩ = some (.int .i64 b) := (blk_cell BKX.out 1).trans rfl
          have fX1v2 := blk_frozen BKX.out 1
          have cY0v2 : v2.cell? ⟨gY, 0, none⟩ = some (.int .i64 c) := (blk_cell BKY.out 0).trans rfl
          have fY0v2 := blk_frozen BKY.out 0
          have cY1v2 : v2.cell? ⟨gY, 1, none⟩ = some (.int .i64 d) := (blk_cell BKY.out 1).trans rfl
          have fY1v2 := blk_frozen BKY.out 1
          go_wp2_with (first | (fail))
          have HR : RI w gX gY a b c d v2 := ⟨BKX.out, BKY.out, HB.out⟩
          have HRd := HR.drew
          clear BKX BKY HB
          go_region_held3 (fun w' => w'.cell? ⟨gX, 0, none⟩ = some (.int .i64 a) ∧ w'.cell? ⟨gX, 1, none⟩ = some (.int .i64 b) ∧ w'.cell? ⟨gY, 0, none⟩ = some (.int .i64 c) ∧ w'.cell? ⟨gY, 1, none⟩ = some (.int .i64 d) ∧ RI w gX gY a b c d w') (go_keep) (first | (go_at_call 14; refine (keep_calls (by assumption) (law06_Of.calls _ _ _)).mono ?_; rintro e w5 ⟨rfl, k0, k1, k2, k3, HR⟩) | (go_at_call 16; refine (keep_calls (by assumption) (reck_Sub.calls a b c d HN1.out HN2.out _)).mono ?_; rintro e w5 ⟨rfl, k0, k1, k2, k3, HR⟩))
          have BKX := Aside0.mk HR.x
          have BKY := Aside0.mk HR.y
          have HB := Aside0.mk HR.b
          clear k0 k1 k2 k3 HRd HR
          go_wp2_with (first | (fail))
          have Hout := doR_out 1 a b c d
          have Hs := reck_small Hout
          refine (agateref06_Do.calls1 a b c d _).mono ?_
          rintro e v6 ⟨rfl, hb⟩
          have m0_ := Aside0.mk (below_step (HB.out) hb)
          have nX_ := Aside0.mk (blk_below BKX.out hb)
          have nY_ := Aside0.mk (blk_below BKY.out hb)
          clear BKX BKY
          have BKX := nX_
          have BKY := nY_
          clear nX_ nY_
          clear HB hb
          have HB := m0_
          clear m0_
          have cX0v6 : v6.cell? ⟨gX, 0, none⟩ = some (.int .i64 a) := (blk_cell BKX.out 0).trans rfl
          have fX0v6 := blk_frozen BKX.out 0
          have cX1v6 : v6.cell? ⟨gX, 1, none⟩ = some (.int .i64 b) := (blk_cell BKX.out 1).trans rfl
          have fX1v6 := blk_frozen BKX.out 1
          have cY0v6 : v6.cell? ⟨gY, 0, none⟩ = some (.int .i64 c) := (blk_cell BKY.out 0).trans rfl
          have fY0v6 := blk_frozen BKY.out 0
          have cY1v6 : v6.cell? ⟨gY, 1, none⟩ = some (.int .i64 d) := (blk_cell BKY.out 1).trans rfl
          have fY1v6 := blk_frozen BKY.out 1
          generalize doR 1 a b c d = q at Hout Hs ⊢
          obtain ⟨q1, q2, q3⟩ := q
          dsimp only at Hout Hs ⊢
          have o1 := order_F q1 (by omega) (by omega)
          have o2 := order_F q2 (by omega) (by omega)
          go_wp2_with (first | ((with_reducible refine gate_dst (N := 14) rfl ?_); refine box_event ?hg (N := 14) ?hd (cs := #[.int .i64 0, .int .i64 0]) (t := 23) ?hr ?_; (case hd => rfl); (case hg => rfl); (case hr => first | (go_simp; done) | (go_simp; rfl)); intro gW hg wW hbox hb; have m0_ := Aside0.mk (below_step HB.out hb); have m1_ := Aside0.mk hbox; have m2_ := Aside0.mk (by rw [hg]; exact below_size HB.out : w.heap.size ≤ gW); have neXW : ¬ gX = gW := (by have := blk_lt BKX.out; omega); have neWX : ¬ gW = gX := fun e => neXW e.symm; have neYW : ¬ gY = gW := (by have := blk_lt BKY.out; omega); have neWY : ¬ gW = gY := fun e => neYW e.symm; have nX_ := Aside0.mk (blk_below BKX.out hb); have nY_ := Aside0.mk (blk_below BKY.out hb); clear BKX BKY; have BKX := nX_; have BKY := nY_; clear nX_ nY_; clear HB; have HB := m0_; have BKW := m1_; have GWW := m2_; clear m0_ m1_ m2_; clear hb hbox hg; have cX0wW : wW.cell? ⟨gX, 0, none⟩ = some (.int .i64 a) := (blk_cell BKX.out 0).trans rfl; have fX0wW := blk_frozen BKX.out 0; have cX1wW : wW.cell? ⟨gX, 1, none⟩ = some (.int .i64 b) := (blk_cell BKX.out 1).trans rfl; have fX1wW := blk_frozen BKX.out 1; have cY0wW : wW.cell? ⟨gY, 0, none⟩ = some (.int .i64 c) := (blk_cell BKY.out 0).trans rfl; have fY0wW := blk_frozen BKY.out 0; have cY1wW : wW.cell? ⟨gY, 1, none⟩ = some (.int .i64 d) := (blk_cell BKY.out 1).trans rfl; have fY1wW := blk_frozen BKY.out 1; have cW0wW : wW.cell? ⟨gW, 0, none⟩ = some (.int .i64 0) := (blk_cell BKW.out 0).trans rfl; have fW0wW := blk_frozen BKW.out 0; have cW1wW : wW.cell? ⟨gW, 1, none⟩ = some (.int .i64 0) := (blk_cell BKW.out 1).trans rfl; have fW1wW := blk_frozen BKW.out 1; have z0 : ((wW.setCell ⟨gW, 0, none⟩ (.int .i64 q1)).setCell ⟨gW, 1, none⟩ (.int .i64 q2)).cell? ⟨gW, 0, none⟩ = some (.int .i64 q1) := (blk_cell (blk_put (blk_put BKW.out 0 _ rfl) 1 _ rfl) 0).trans rfl; have z1 : ((wW.setCell ⟨gW, 0, none⟩ (.int .i64 q1)).setCell ⟨gW, 1, none⟩ (.int .i64 q2)).cell? ⟨gW, 1, none⟩ = some (.int .i64 q2) := (blk_cell (blk_put (blk_put BKW.out 0 _ rfl) 1 _ rfl) 1).trans rfl) | (fail))
          refine (law06_Of.calls q1 q2 _).mono ?_
          rintro e v7 ⟨rfl, hb⟩
          have m0_ := Aside0.mk (below_step (below_set (below_set HB.out GWW.out) GWW.out) hb)
          have nX_ := Aside0.mk (blk_below (blk_far (blk_far BKX.out neXW _) neXW _) hb)
          have nY_ := Aside0.mk (blk_below (blk_far (blk_far BKY.out neYW _) neYW _) hb)
          have nW_ := Aside0.mk (blk_below (blk_put (blk_put BKW.out 0 _ rfl) 1 _ rfl) hb)
          clear BKX BKY BKW
          have BKX := nX_
          have BKY := nY_
          have BKW := nW_
          clear nX_ nY_ nW_
          clear HB hb
          have HB := m0_
          clear m0_
          have cX0v7 : v7.cell? ⟨gX, 0, none⟩ = some (.int .i64 a) := (blk_cell BKX.out 0).trans rfl
          have fX0v7 := blk_frozen BKX.out 0
          have cX1v7 : v7.cell? ⟨gX, 1, none⟩ = some (.int .i64 b) := (blk_cell BKX.out 1).trans rfl
          have fX1v7 := blk_frozen BKX.out 1
          have cY0v7 : v7.cell? ⟨gY, 0, none⟩ = some (.int .i64 c) := (blk_cell BKY.out 0).trans rfl
          have fY0v7 := blk_frozen BKY.out 0
          have cY1v7 : v7.cell? ⟨gY, 1, none⟩ = some (.int .i64 d) := (blk_cell BKY.out 1).trans rfl
          have fY1v7 := blk_frozen BKY.out 1
          have cW0v7 : v7.cell? ⟨gW, 0, none⟩ = some (.int .i64 q1) := (blk_cell BKW.out 0).trans rfl
          have fW0v7 := blk_frozen BKW.out 0
          have cW1v7 : v7.cell? ⟨gW, 1, none⟩ = some (.int .i64 q2) := (blk_cell BKW.out 1).trans rfl
          have fW1v7 := blk_frozen BKW.out 1
          rcases Hout with ⟨h0, hm⟩ | h17
          · subst h0
            go_wp2_with (first | (fail))
            refine (reck_Put.calls q1 q2 hm _).mono ?_
            rintro e v8 ⟨rfl, hb⟩
            have m0_ := Aside0.mk (below_step (HB.out) hb)
            have nX_ := Aside0.mk (blk_below BKX.out hb)
            have nY_ := Aside0.mk (blk_below BKY.out hb)
            have nW_ := Aside0.mk (blk_below BKW.out hb)
            clear BKX BKY BKW
            have BKX := nX_
            have BKY := nY_
            have BKW := nW_
            clear nX_ nY_ nW_
            clear HB hb
            have HB := m0_
            clear m0_
            have cX0v8 : v8.cell? ⟨gX, 0, none⟩ = some (.int .i64 a) := (blk_cell BKX.out 0).trans rfl
            have fX0v8 := blk_frozen BKX.out 0
            have cX1v8 : v8.cell? ⟨gX, 1, none⟩ = some (.int .i64 b) := (blk_cell BKX.out 1).trans rfl
            have fX1v8 := blk_frozen BKX.out 1
            have cY0v8 : v8.cell? ⟨gY, 0, none⟩ = some (.int .i64 c) := (blk_cell BKY.out 0).trans rfl
            have fY0v8 := blk_frozen BKY.out 0
            have cY1v8 : v8.cell? ⟨gY, 1, none⟩ = some (.int .i64 d) := (blk_cell BKY.out 1).trans rfl
            have fY1v8 := blk_frozen BKY.out 1
            have cW0v8 : v8.cell? ⟨gW, 0, none⟩ = some (.int .i64 q1) := (blk_cell BKW.out 0).trans rfl
            have fW0v8 := blk_frozen BKW.out 0
            have cW1v8 : v8.cell? ⟨gW, 1, none⟩ = some (.int .i64 q2) := (blk_cell BKW.out 1).trans rfl
            have fW1v8 := blk_frozen BKW.out 1
            go_wp2_with (first | (fail))
            refine (agateref06_Put_s.calls q1 q2 _ _ _ (putR_yes q1 q2 hm)).mono ?_
            rintro e v9 ⟨rfl, hb⟩
            have m0_ := Aside0.mk (below_step (HB.out) hb)
            have nX_ := Aside0.mk (blk_below BKX.out hb)
            have nY_ := Aside0.mk (blk_below BKY.out hb)
            have nW_ := Aside0.mk (blk_below BKW.out hb)
            clear BKX BKY BKW
            have BKX := nX_
            have BKY := nY_
            have BKW := nW_
            clear nX_ nY_ nW_
            clear HB hb
            have HB := m0_
            clear m0_
            have cX0v9 : v9.cell? ⟨gX, 0, none⟩ = some (.int .i64 a) := (blk_cell BKX.out 0).trans rfl
            have fX0v9 := blk_frozen BKX.out 0
            have cX1v9 : v9.cell? ⟨gX, 1, none⟩ = some (.int .i64 b) := (blk_cell BKX.out 1).trans rfl
            have fX1v9 := blk_frozen BKX.out 1
            have cY0v9 : v9.cell? ⟨gY, 0, none⟩ = some (.int .i64 c) := (blk_cell BKY.out 0).trans rfl
            have fY0v9 := blk_frozen BKY.out 0
            have cY1v9 : v9.cell? ⟨gY, 1, none⟩ = some (.int .i64 d) := (blk_cell BKY.out 1).trans rfl
            have fY1v9 := blk_frozen BKY.out 1
            have cW0v9 : v9.cell? ⟨gW, 0, none⟩ = some (.int .i64 q1) := (blk_cell BKW.out 0).trans rfl
            have fW0v9 := blk_frozen BKW.out 0
            have cW1v9 : v9.cell? ⟨gW, 1, none⟩ = some (.int .i64 q2) := (blk_cell BKW.out 1).trans rfl
            have fW1v9 := blk_frozen BKW.out 1
            have HK2 := HK
            go_wp2_with (first | (fail))
            go_roundg kk
            case measure => have := HK.out; omega
            case rel => exact ⟨2, rfl, ⟨by have := HK.out; omega⟩, by omega, BKX, BKY, HB⟩
          · cases h17
            go_wp2_with (first | (fail))
            go_roundg kk
            case measure => have := HK.out; omega
            case rel => exact ⟨2, rfl, ⟨by have := HK.out; omega⟩, by omega, BKX, BKY, HB⟩
        · obtain ⟨kk, rfl⟩ : ∃ m, gk = m + 1 := ⟨gk - 1, by have := HK.out; omega⟩
          have cX0wr : wr.cell? ⟨gX, 0, none⟩ = some (.int .i64 a) := (blk_cell BKX.out 0).trans rfl
          have fX0wr := blk_frozen BKX.out 0
          have cX1wr : wr.cell? ⟨gX, 1, none⟩ = some (.int .i64 b) := (blk_cell BKX.out 1).trans rfl
          have fX1wr := blk_frozen BKX.out 1
          have cY0wr : wr.cell? ⟨gY, 0, none⟩ = some (.int .i64 c) := (blk_cell BKY.out 0).trans rfl
          have fY0wr := blk_frozen BKY.out 0
          have cY1wr : wr.cell? ⟨gY, 1, none⟩ = some (.int .i64 d) := (blk_cell BKY.out 1).trans rfl
          have fY1wr := blk_frozen BKY.out 1
          go_wp2_with (first | (fail))
          refine (law06_Of.calls a b _).mono ?_
          rintro e v1 ⟨rfl, hb⟩
          have m0_ := Aside0.mk (below_step (HB.out) hb)
          have nX_ := Aside0.mk (blk_below BKX.out hb)
          have nY_ := Aside0.mk (blk_below BKY.out hb)
          clear BKX BKY
          have BKX := nX_
          have BKY := nY_
          clear nX_ nY_
          clear HB hb
          have HB := m0_
          clear m0_
          have cX0v1 : v1.cell? ⟨gX, 0, none⟩ = some (.int .i64 a) := (blk_cell BKX.out 0).trans rfl
          have fX0v1 := blk_frozen BKX.out 0
          have cX1v1 : v1.cell? ⟨gX, 1, none⟩ = some (.int .i64 b) := (blk_cell BKX.out 1).trans rfl
          have fX1v1 := blk_frozen BKX.out 1
          have cY0v1 : v1.cell? ⟨gY, 0, none⟩ = some (.int .i64 c) := (blk_cell BKY.out 0).trans rfl
          have fY0v1 := blk_frozen BKY.out 0
          have cY1v1 : v1.cell? ⟨gY, 1, none⟩ = some (.int .i64 d) := (blk_cell BKY.out 1).trans rfl
          have fY1v1 := blk_frozen BKY.out 1
          go_wp2_with (first | (fail))
          refine (reck_Neg.calls a b c d HN1.out _).mono ?_
          rintro e v2 ⟨rfl, hb⟩
          have m0_ := Aside0.mk (below_step (HB.out) hb)
          have nX_ := Aside0.mk (blk_below BKX.out hb)
          have nY_ := Aside0.mk (blk_below BKY.out hb)
          clear BKX BKY
          have BKX := nX_
          have BKY := nY_
          clear nX_ nY_
          clear HB hb
          have HB := m0_
          clear m0_
          have cX0v2 : v2.cell? ⟨gX, 0, none⟩ = some (.int .i64 a) := (blk_cell BKX.out 0).trans rfl
          have fX0v2 := blk_frozen BKX.out 0
          have cX1v2 : v2.cell? ⟨gX, 1, none⟩ = some (.int .i64 b) := (blk_cell BKX.out 1).trans rfl
          have fX1v2 := blk_frozen BKX.out 1
          have cY0v2 : v2.cell? ⟨gY, 0, none⟩ = some (.int .i64 c) := (blk_cell BKY.out 0).trans rfl
          have fY0v2 := blk_frozen BKY.out 0
          have cY1v2 : v2.cell? ⟨gY, 1, none⟩ = some (.int .i64 d) := (blk_cell BKY.out 1).trans rfl
          have fY1v2 := blk_frozen BKY.out 1
          go_wp2_with (first | (fail))
          have HR : RI w gX gY a b c d v2 := ⟨BKX.out, BKY.out, HB.out⟩
          have HRd := HR.drew
          clear BKX BKY HB
          go_region_held3 (fun w' => w'.cell? ⟨gX, 0, none⟩ = some (.int .i64 a) ∧ w'.cell? ⟨gX, 1, none⟩ = some (.int .i64 b) ∧ w'.cell? ⟨gY, 0, none⟩ = some (.int .i64 c) ∧ w'.cell? ⟨gY, 1, none⟩ = some (.int .i64 d) ∧ RI w gX gY a b c d w') (go_keep) (first | (go_at_call 14; refine (keep_calls (by assumption) (law06_Of.calls _ _ _)).mono ?_; rintro e w5 ⟨rfl, k0, k1, k2, k3, HR⟩) | (go_at_call 17; refine (keep_calls (by assumption) (reck_Mul.calls a b c d HN1.out HN2.out _)).mono ?_; rintro e w5 ⟨rfl, k0, k1, k2, k3, HR⟩))
          have BKX := Aside0.mk HR.x
          have BKY := Aside0.mk HR.y
          have HB := Aside0.mk HR.b
          clear k0 k1 k2 k3 HRd HR
          go_wp2_with (first | (fail))
          have Hout := doR_out 2 a b c d
          have Hs := reck_small Hout
          refine (agateref06_Do.calls2 a b c d _).mono ?_
          rintro e v6 ⟨rfl, hb⟩
          have m0_ := Aside0.mk (below_step (HB.out) hb)
          have nX_ := Aside0.mk (blk_below BKX.out hb)
          have nY_ := Aside0.mk (blk_below BKY.out hb)
          clear BKX BKY
          have BKX := nX_
          have BKY := nY_
          clear nX_ nY_
          clear HB hb
          have HB := m0_
          clear m0_
          have cX0v6 : v6.cell? ⟨gX, 0, none⟩ = some (.int .i64 a) := (blk_cell BKX.out 0).trans rfl
          have fX0v6 := blk_frozen BKX.out 0
          have cX1v6 : v6.cell? ⟨gX, 1, none⟩ = some (.int .i64 b) := (blk_cell BKX.out 1).trans rfl
          have fX1v6 := blk_frozen BKX.out 1
          have cY0v6 : v6.cell? ⟨gY, 0, none⟩ = some (.int .i64 c) := (blk_cell BKY.out 0).trans rfl
          have fY0v6 := blk_frozen BKY.out 0
          have cY1v6 : v6.cell? ⟨gY, 1, none⟩ = some (.int .i64 d) := (blk_cell BKY.out 1).trans rfl
          have fY1v6 := blk_frozen BKY.out 1
          generalize doR 2 a b c d = q at Hout Hs ⊢
          obtain ⟨q1, q2, q3⟩ := q
          dsimp only at Hout Hs ⊢
          have o1 := order_F q1 (by omega) (by omega)
          have o2 := order_F q2 (by omega) (by omega)
          go_wp2_with (first | ((with_reducible refine gate_dst (N := 14) rfl ?_); refine box_event ?hg (N := 14) ?hd (cs := #[.int .i64 0, .int .i64 0]) (t := 23) ?hr ?_; (case hd => rfl); (case hg => rfl); (case hr => first | (go_simp; done) | (go_simp; rfl)); intro gW hg wW hbox hb; have m0_ := Aside0.mk (below_step HB.out hb); have m1_ := Aside0.mk hbox; have m2_ := Aside0.mk (by rw [hg]; exact below_size HB.out : w.heap.size ≤ gW); have neXW : ¬ gX = gW := (by have := blk_lt BKX.out; omega); have neWX : ¬ gW = gX := fun e => neXW e.symm; have neYW : ¬ gY = gW := (by have := blk_lt BKY.out; omega); have neWY : ¬ gW = gY := fun e => neYW e.symm; have nX_ := Aside0.mk (blk_below BKX.out hb); have nY_ := Aside0.mk (blk_below BKY.out hb); clear BKX BKY; have BKX := nX_; have BKY := nY_; clear nX_ nY_; clear HB; have HB := m0_; have BKW := m1_; have GWW := m2_; clear m0_ m1_ m2_; clear hb hbox hg; have cX0wW : wW.cell? ⟨gX, 0, none⟩ = some (.int .i64 a) := (blk_cell BKX.out 0).trans rfl; have fX0wW := blk_frozen BKX.out 0; have cX1wW : wW.cell? ⟨gX, 1, none⟩ = some (.int .i64 b) := (blk_cell BKX.out 1).trans rfl; have fX1wW := blk_frozen BKX.out 1; have cY0wW : wW.cell? ⟨gY, 0, none⟩ = some (.int .i64 c) := (blk_cell BKY.out 0).trans rfl; have fY0wW := blk_frozen BKY.out 0; have cY1wW : wW.cell? ⟨gY, 1, none⟩ = some (.int .i64 d) := (blk_cell BKY.out 1).trans rfl; have fY1wW := blk_frozen BKY.out 1; have cW0wW : wW.cell? ⟨gW, 0, none⟩ = some (.int .i64 0) := (blk_cell BKW.out 0).trans rfl; have fW0wW := blk_frozen BKW.out 0; have cW1wW : wW.cell? ⟨gW, 1, none⟩ = some (.int .i64 0) := (blk_cell BKW.out 1).trans rfl; have fW1wW := blk_frozen BKW.out 1; have z0 : ((wW.setCell ⟨gW, 0, none⟩ (.int .i64 q1)).setCell ⟨gW, 1, none⟩ (.int .i64 q2)).cell? ⟨gW, 0, none⟩ = some (.int .i64 q1) := (blk_cell (blk_put (blk_put BKW.out 0 _ rfl) 1 _ rfl) 0).trans rfl; have z1 : ((wW.setCell ⟨gW, 0, none⟩ (.int .i64 q1)).setCell ⟨gW, 1, none⟩ (.int .i64 q2)).cell? ⟨gW, 1, none⟩ = some (.int .i64 q2) := (blk_cell (blk_put (blk_put BKW.out 0 _ rfl) 1 _ rfl) 1).trans rfl) | (fail))
          refine (law06_Of.calls q1 q2 _).mono ?_
          rintro e v7 ⟨rfl, hb⟩
          have m0_ := Aside0.mk (below_step (below_set (below_set HB.out GWW.out) GWW.out) hb)
          have nX_ := Aside0.mk (blk_below (blk_far (blk_far BKX.out neXW _) neXW _) hb)
          have nY_ := Aside0.mk (blk_below (blk_far (blk_far BKY.out neYW _) neYW _) hb)
          have nW_ := Aside0.mk (blk_below (blk_put (blk_put BKW.out 0 _ rfl) 1 _ rfl) hb)
          clear BKX BKY BKW
          have BKX := nX_
          have BKY := nY_
          have BKW := nW_
          clear nX_ nY_ nW_
          clear HB hb
          have HB := m0_
          clear m0_
          have cX0v7 : v7.cell? ⟨gX, 0, none⟩ = some (.int .i64 a) := (blk_cell BKX.out 0).trans rfl
          have fX0v7 := blk_frozen BKX.out 0
          have cX1v7 : v7.cell? ⟨gX, 1, none⟩ = some (.int .i64 b) := (blk_cell BKX.out 1).trans rfl
          have fX1v7 := blk_frozen BKX.out 1
          have cY0v7 : v7.cell? ⟨gY, 0, none⟩ = some (.int .i64 c) := (blk_cell BKY.out 0).trans rfl
          have fY0v7 := blk_frozen BKY.out 0
          have cY1v7 : v7.cell? ⟨gY, 1, none⟩ = some (.int .i64 d) := (blk_cell BKY.out 1).trans rfl
          have fY1v7 := blk_frozen BKY.out 1
          have cW0v7 : v7.cell? ⟨gW, 0, none⟩ = some (.int .i64 q1) := (blk_cell BKW.out 0).trans rfl
          have fW0v7 := blk_frozen BKW.out 0
          have cW1v7 : v7.cell? ⟨gW, 1, none⟩ = some (.int .i64 q2) := (blk_cell BKW.out 1).trans rfl
          have fW1v7 := blk_frozen BKW.out 1
          rcases Hout with ⟨h0, hm⟩ | h17
          · subst h0
            go_wp2_with (first | (fail))
            refine (reck_Put.calls q1 q2 hm _).mono ?_
            rintro e v8 ⟨rfl, hb⟩
            have m0_ := Aside0.mk (below_step (HB.out) hb)
            have nX_ := Aside0.mk (blk_below BKX.out hb)
            have nY_ := Aside0.mk (blk_below BKY.out hb)
            have nW_ := Aside0.mk (blk_below BKW.out hb)
            clear BKX BKY BKW
            have BKX := nX_
            have BKY := nY_
            have BKW := nW_
            clear nX_ nY_ nW_
            clear HB hb
            have HB := m0_
            clear m0_
            have cX0v8 : v8.cell? ⟨gX, 0, none⟩ = some (.int .i64 a) := (blk_cell BKX.out 0).trans rfl
            have fX0v8 := blk_frozen BKX.out 0
            have cX1v8 : v8.cell? ⟨gX, 1, none⟩ = some (.int .i64 b) := (blk_cell BKX.out 1).trans rfl
            have fX1v8 := blk_frozen BKX.out 1
            have cY0v8 : v8.cell? ⟨gY, 0, none⟩ = some (.int .i64 c) := (blk_cell BKY.out 0).trans rfl
            have fY0v8 := blk_frozen BKY.out 0
            have cY1v8 : v8.cell? ⟨gY, 1, none⟩ = some (.int .i64 d) := (blk_cell BKY.out 1).trans rfl
            have fY1v8 := blk_frozen BKY.out 1
            have cW0v8 : v8.cell? ⟨gW, 0, none⟩ = some (.int .i64 q1) := (blk_cell BKW.out 0).trans rfl
            have fW0v8 := blk_frozen BKW.out 0
            have cW1v8 : v8.cell? ⟨gW, 1, none⟩ = some (.int .i64 q2) := (blk_cell BKW.out 1).trans rfl
            have fW1v8 := blk_frozen BKW.out 1
            go_wp2_with (first | (fail))
            refine (agateref06_Put_s.calls q1 q2 _ _ _ (putR_yes q1 q2 hm)).mono ?_
            rintro e v9 ⟨rfl, hb⟩
            have m0_ := Aside0.mk (below_step (HB.out) hb)
            have nX_ := Aside0.mk (blk_below BKX.out hb)
            have nY_ := Aside0.mk (blk_below BKY.out hb)
            have nW_ := Aside0.mk (blk_below BKW.out hb)
            clear BKX BKY BKW
            have BKX := nX_
            have BKY := nY_
            have BKW := nW_
            clear nX_ nY_ nW_
            clear HB hb
            have HB := m0_
            clear m0_
            have cX0v9 : v9.cell? ⟨gX, 0, none⟩ = some (.int .i64 a) := (blk_cell BKX.out 0).trans rfl
            have fX0v9 := blk_frozen BKX.out 0
            have cX1v9 : v9.cell? ⟨gX, 1, none⟩ = some (.int .i64 b) := (blk_cell BKX.out 1).trans rfl
            have fX1v9 := blk_frozen BKX.out 1
            have cY0v9 : v9.cell? ⟨gY, 0, none⟩ = some (.int .i64 c) := (blk_cell BKY.out 0).trans rfl
            have fY0v9 := blk_frozen BKY.out 0
            have cY1v9 : v9.cell? ⟨gY, 1, none⟩ = some (.int .i64 d) := (blk_cell BKY.out 1).trans rfl
            have fY1v9 := blk_frozen BKY.out 1
            have cW0v9 : v9.cell? ⟨gW, 0, none⟩ = some (.int .i64 q1) := (blk_cell BKW.out 0).trans rfl
            have fW0v9 := blk_frozen BKW.out 0
            have cW1v9 : v9.cell? ⟨gW, 1, none⟩ = some (.int .i64 q2) := (blk_cell BKW.out 1).trans rfl
            have fW1v9 := blk_frozen BKW.out 1
            have HK2 := HK
            go_wp2_with (first | (fail))
            go_roundg kk
            case measure => have := HK.out; omega
            case rel => exact ⟨3, rfl, ⟨by have := HK.out; omega⟩, by omega, BKX, BKY, HB⟩
          · cases h17
            go_wp2_with (first | (fail))
            go_roundg kk
            case measure => have := HK.out; omega
            case rel => exact ⟨3, rfl, ⟨by have := HK.out; omega⟩, by omega, BKX, BKY, HB⟩
        · obtain ⟨kk, rfl⟩ : ∃ m, gk = m + 1 := ⟨gk - 1, by have := HK.out; omega⟩
          have cX0wr : wr.cell? ⟨gX, 0, none⟩ = some (.int .i64 a) := (blk_cell BKX.out 0).trans rfl
          have fX0wr := blk_frozen BKX.out 0
          have cX1wr : wr.cell? ⟨gX, 1, none⟩ = some (.int .i64 b) := (blk_cell BKX.out 1).trans rfl
          have fX1wr := blk_frozen BKX.out 1
          have cY0wr : wr.cell? ⟨gY, 0, none⟩ = some (.int .i64 c) := (blk_cell BKY.out 0).trans rfl
          have fY0wr := blk_frozen BKY.out 0
          have cY1wr : wr.cell? ⟨gY, 1, none⟩ = some (.int .i64 d) := (blk_cell BKY.out 1).trans rfl
          have fY1wr := blk_frozen BKY.out 1
          go_wp2_with (first | (fail))
          refine (law06_Of.calls a b _).mono ?_
          rintro e v1 ⟨rfl, hb⟩
          have m0_ := Aside0.mk (below_step (HB.out) hb)
          have nX_ := Aside0.mk (blk_below BKX.out hb)
          have nY_ := Aside0.mk (blk_below BKY.out hb)
          clear BKX BKY
          have BKX := nX_
          have BKY := nY_
          clear nX_ nY_
          clear HB hb
          have HB := m0_
          clear m0_
          have cX0v1 : v1.cell? ⟨gX, 0, none⟩ = some (.int .i64 a) := (blk_cell BKX.out 0).trans rfl
          have fX0v1 := blk_frozen BKX.out 0
          have cX1v1 : v1.cell? ⟨gX, 1, none⟩ = some (.int .i64 b) := (blk_cell BKX.out 1).trans rfl
          have fX1v1 := blk_frozen BKX.out 1
          have cY0v1 : v1.cell? ⟨gY, 0, none⟩ = some (.int .i64 c) := (blk_cell BKY.out 0).trans rfl
          have fY0v1 := blk_frozen BKY.out 0
          have cY1v1 : v1.cell? ⟨gY, 1, none⟩ = some (.int .i64 d) := (blk_cell BKY.out 1).trans rfl
          have fY1v1 := blk_frozen BKY.out 1
          go_wp2_with (first | (fail))
          refine (reck_Neg.calls a b c d HN1.out _).mono ?_
          rintro e v2 ⟨rfl, hb⟩
          have m0_ := Aside0.mk (below_step (HB.out) hb)
          have nX_ := Aside0.mk (blk_below BKX.out hb)
          have nY_ := Aside0.mk (blk_below BKY.out hb)
          clear BKX BKY
          have BKX := nX_
          have BKY := nY_
          clear nX_ nY_
          clear HB hb
          have HB := m0_
          clear m0_
          have cX0v2 : v2.cell? ⟨gX, 0, none⟩ = some (.int .i64 a) := (blk_cell BKX.out 0).trans rfl
          have fX0v2 := blk_frozen BKX.out 0
          have cX1v2 : v2.cell? ⟨gX, 1, none⟩ = some (.int .i64 b) := (blk_cell BKX.out 1).trans rfl
          have fX1v2 := blk_frozen BKX.out 1
          have cY0v2 : v2.cell? ⟨gY, 0, none⟩ = some (.int .i64 c) := (blk_cell BKY.out 0).trans rfl
          have fY0v2 := blk_frozen BKY.out 0
          have cY1v2 : v2.cell? ⟨gY, 1, none⟩ = some (.int .i64 d) := (blk_cell BKY.out 1).trans rfl
          have fY1v2 := blk_frozen BKY.out 1
          go_wp2_with (first | (fail))
          go_wp2_with (first | (fail))
          go_wp2_with (first | (fail))
          have Hout := doR_out 3 a b c d
          have Hs := reck_small Hout
          refine (agateref06_Do.calls3 a b c d _).mono ?_
          rintro e v6 ⟨rfl, hb⟩
          have m0_ := Aside0.mk (below_step (HB.out) hb)
          have nX_ := Aside0.mk (blk_below BKX.out hb)
          have nY_ := Aside0.mk (blk_below BKY.out hb)
          clear BKX BKY
          have BKX := nX_
          have BKY := nY_
          clear nX_ nY_
          clear HB hb
          have HB := m0_
          clear m0_
          have cX0v6 : v6.cell? ⟨gX, 0, none⟩ = some (.int .i64 a) := (blk_cell BKX.out 0).trans rfl
          have fX0v6 := blk_frozen BKX.out 0
          have cX1v6 : v6.cell? ⟨gX, 1, none⟩ = some (.int .i64 b) := (blk_cell BKX.out 1).trans rfl
          have fX1v6 := blk_frozen BKX.out 1
          have cY0v6 : v6.cell? ⟨gY, 0, none⟩ = some (.int .i64 c) := (blk_cell BKY.out 0).trans rfl
          have fY0v6 := blk_frozen BKY.out 0
          have cY1v6 : v6.cell? ⟨gY, 1, none⟩ = some (.int .i64 d) := (blk_cell BKY.out 1).trans rfl
          have fY1v6 := blk_frozen BKY.out 1
          generalize doR 3 a b c d = q at Hout Hs ⊢
          obtain ⟨q1, q2, q3⟩ := q
          dsimp only at Hout Hs ⊢
          have o1 := order_F q1 (by omega) (by omega)
          have o2 := order_F q2 (by omega) (by omega)
          go_wp2_with (first | ((with_reducible refine gate_dst (N := 14) rfl ?_); refine box_event ?hg (N := 14) ?hd (cs := #[.int .i64 0, .int .i64 0]) (t := 23) ?hr ?_; (case hd => rfl); (case hg => rfl); (case hr => first | (go_simp; done) | (go_simp; rfl)); intro gW hg wW hbox hb; have m0_ := Aside0.mk (below_step HB.out hb); have m1_ := Aside0.mk hbox; have m2_ := Aside0.mk (by rw [hg]; exact below_size HB.out : w.heap.size ≤ gW); have neXW : ¬ gX = gW := (by have := blk_lt BKX.out; omega); have neWX : ¬ gW = gX := fun e => neXW e.symm; have neYW : ¬ gY = gW := (by have := blk_lt BKY.out; omega); have neWY : ¬ gW = gY := fun e => neYW e.symm; have nX_ := Aside0.mk (blk_below BKX.out hb); have nY_ := Aside0.mk (blk_below BKY.out hb); clear BKX BKY; have BKX := nX_; have BKY := nY_; clear nX_ nY_; clear HB; have HB := m0_; have BKW := m1_; have GWW := m2_; clear m0_ m1_ m2_; clear hb hbox hg; have cX0wW : wW.cell? ⟨gX, 0, none⟩ = some (.int .i64 a) := (blk_cell BKX.out 0).trans rfl; have fX0wW := blk_frozen BKX.out 0; have cX1wW : wW.cell? ⟨gX, 1, none⟩ = some (.int .i64 b) := (blk_cell BKX.out 1).trans rfl; have fX1wW := blk_frozen BKX.out 1; have cY0wW : wW.cell? ⟨gY, 0, none⟩ = some (.int .i64 c) := (blk_cell BKY.out 0).trans rfl; have fY0wW := blk_frozen BKY.out 0; have cY1wW : wW.cell? ⟨gY, 1, none⟩ = some (.int .i64 d) := (blk_cell BKY.out 1).trans rfl; have fY1wW := blk_frozen BKY.out 1; have cW0wW : wW.cell? ⟨gW, 0, none⟩ = some (.int .i64 0) := (blk_cell BKW.out 0).trans rfl; have fW0wW := blk_frozen BKW.out 0; have cW1wW : wW.cell? ⟨gW, 1, none⟩ = some (.int .i64 0) := (blk_cell BKW.out 1).trans rfl; have fW1wW := blk_frozen BKW.out 1; have z0 : ((wW.setCell ⟨gW, 0, none⟩ (.int .i64 q1)).setCell ⟨gW, 1, none⟩ (.int .i64 q2)).cell? ⟨gW, 0, none⟩ = some (.int .i64 q1) := (blk_cell (blk_put (blk_put BKW.out 0 _ rfl) 1 _ rfl) 0).trans rfl; have z1 : ((wW.setCell ⟨gW, 0, none⟩ (.int .i64 q1)).setCell ⟨gW, 1, none⟩ (.int .i64 q2)).cell? ⟨gW, 1, none⟩ = some (.int .i64 q2) := (blk_cell (blk_put (blk_put BKW.out 0 _ rfl) 1 _ rfl) 1).trans rfl) | (fail))
          refine (law06_Of.calls q1 q2 _).mono ?_
          rintro e v7 ⟨rfl, hb⟩
          have m0_ := Aside0.mk (below_step (below_set (below_set HB.out GWW.out) GWW.out) hb)
          have nX_ := Aside0.mk (blk_below (blk_far (blk_far BKX.out neXW _) neXW _) hb)
          have nY_ := Aside0.mk (blk_below (blk_far (blk_far BKY.out neYW _) neYW _) hb)
          have nW_ := Aside0.mk (blk_below (blk_put (blk_put BKW.out 0 _ rfl) 1 _ rfl) hb)
          clear BKX BKY BKW
          have BKX := nX_
          have BKY := nY_
          have BKW := nW_
          clear nX_ nY_ nW_
          clear HB hb
          have HB := m0_
          clear m0_
          have cX0v7 : v7.cell? ⟨gX, 0, none⟩ = some (.int .i64 a) := (blk_cell BKX.out 0).trans rfl
          have fX0v7 := blk_frozen BKX.out 0
          have cX1v7 : v7.cell? ⟨gX, 1, none⟩ = some (.int .i64 b) := (blk_cell BKX.out 1).trans rfl
          have fX1v7 := blk_frozen BKX.out 1
          have cY0v7 : v7.cell? ⟨gY, 0, none⟩ = some (.int .i64 c) := (blk_cell BKY.out 0).trans rfl
          have fY0v7 := blk_frozen BKY.out 0
          have cY1v7 : v7.cell? ⟨gY, 1, none⟩ = some (.int .i64 d) := (blk_cell BKY.out 1).trans rfl
          have fY1v7 := blk_frozen BKY.out 1
          have cW0v7 : v7.cell? ⟨gW, 0, none⟩ = some (.int .i64 q1) := (blk_cell BKW.out 0).trans rfl
          have fW0v7 := blk_frozen BKW.out 0
          have cW1v7 : v7.cell? ⟨gW, 1, none⟩ = some (.int .i64 q2) := (blk_cell BKW.out 1).trans rfl
          have fW1v7 := blk_frozen BKW.out 1
          rcases Hout with ⟨h0, hm⟩ | h17
          · subst h0
            go_wp2_with (first | (fail))
            refine (reck_Put.calls q1 q2 hm _).mono ?_
            rintro e v8 ⟨rfl, hb⟩
            have m0_ := Aside0.mk (below_step (HB.out) hb)
            have nX_ := Aside0.mk (blk_below BKX.out hb)
            have nY_ := Aside0.mk (blk_below BKY.out hb)
            have nW_ := Aside0.mk (blk_below BKW.out hb)
            clear BKX BKY BKW
            have BKX := nX_
            have BKY := nY_
            have BKW := nW_
            clear nX_ nY_ nW_
            clear HB hb
            have HB := m0_
            clear m0_
            have cX0v8 : v8.cell? ⟨gX, 0, none⟩ = some (.int .i64 a) := (blk_cell BKX.out 0).trans rfl
            have fX0v8 := blk_frozen BKX.out 0
            have cX1v8 : v8.cell? ⟨gX, 1, none⟩ = some (.int .i64 b) := (blk_cell BKX.out 1).trans rfl
            have fX1v8 := blk_frozen BKX.out 1
            have cY0v8 : v8.cell? ⟨gY, 0, none⟩ = some (.int .i64 c) := (blk_cell BKY.out 0).trans rfl
            have fY0v8 := blk_frozen BKY.out 0
            have cY1v8 : v8.cell? ⟨gY, 1, none⟩ = some (.int .i64 d) := (blk_cell BKY.out 1).trans rfl
            have fY1v8 := blk_frozen BKY.out 1
            have cW0v8 : v8.cell? ⟨gW, 0, none⟩ = some (.int .i64 q1) := (blk_cell BKW.out 0).trans rfl
            have fW0v8 := blk_frozen BKW.out 0
            have cW1v8 : v8.cell? ⟨gW, 1, none⟩ = some (.int .i64 q2) := (blk_cell BKW.out 1).trans rfl
            have fW1v8 := blk_frozen BKW.out 1
            go_wp2_with (first | (fail))
            refine (agateref06_Put_s.calls q1 q2 _ _ _ (putR_yes q1 q2 hm)).mono ?_
            rintro e v9 ⟨rfl, hb⟩
            have m0_ := Aside0.mk (below_step (HB.out) hb)
            have nX_ := Aside0.mk (blk_below BKX.out hb)
            have nY_ := Aside0.mk (blk_below BKY.out hb)
            have nW_ := Aside0.mk (blk_below BKW.out hb)
            clear BKX BKY BKW
            have BKX := nX_
            have BKY := nY_
            have BKW := nW_
            clear nX_ nY_ nW_
            clear HB hb
            have HB := m0_
            clear m0_
            have cX0v9 : v9.cell? ⟨gX, 0, none⟩ = some (.int .i64 a) := (blk_cell BKX.out 0).trans rfl
            have fX0v9 := blk_frozen BKX.out 0
            have cX1v9 : v9.cell? ⟨gX, 1, none⟩ = some (.int .i64 b) := (blk_cell BKX.out 1).trans rfl
            have fX1v9 := blk_frozen BKX.out 1
            have cY0v9 : v9.cell? ⟨gY, 0, none⟩ = some (.int .i64 c) := (blk_cell BKY.out 0).trans rfl
            have fY0v9 := blk_frozen BKY.out 0
            have cY1v9 : v9.cell? ⟨gY, 1, none⟩ = some (.int .i64 d) := (blk_cell BKY.out 1).trans rfl
            have fY1v9 := blk_frozen BKY.out 1
            have cW0v9 : v9.cell? ⟨gW, 0, none⟩ = some (.int .i64 q1) := (blk_cell BKW.out 0).trans rfl
            have fW0v9 := blk_frozen BKW.out 0
            have cW1v9 : v9.cell? ⟨gW, 1, none⟩ = some (.int .i64 q2) := (blk_cell BKW.out 1).trans rfl
            have fW1v9 := blk_frozen BKW.out 1
            have HK2 := HK
            go_wp2_with (first | (fail))
            go_roundg kk
            case measure => have := HK.out; omega
            case rel => exact ⟨4, rfl, ⟨by have := HK.out; omega⟩, by omega, BKX, BKY, HB⟩
          · cases h17
            go_wp2_with (first | (fail))
            go_roundg kk
            case measure => have := HK.out; omega
            case rel => exact ⟨4, rfl, ⟨by have := HK.out; omega⟩, by omega, BKX, BKY, HB⟩
        · have hz : True := trivial
          go_wp2_with (first | (fail))
          refine (agatelaw06_Awake.calls true _ rfl).mono ?_
          rintro e wE ⟨rfl, hb⟩
          have HB2 := Aside0.mk (below_step HB.out hb)
          clear HB hb
          have HB := HB2
          go_wp2_with (first | (fail))
          go_ret
          exact ⟨rfl, HB.out⟩

def agatelaw06_GaussReckons.Pure : Prop := ∀ (x0 : Int) (x1 : Int) (x2 : Int) (x3 : Int), (fun a => (Lit.int .i64 a).wf = true) x0 → (fun a => (Lit.int .i64 a).wf = true) x1 → (fun a => (Lit.int .i64 a).wf = true) x2 → (fun a => (Lit.int .i64 a).wf = true) x3 → agatelaw06_GaussReckons.f x0 x1 x2 x3 = some true

end Go.Proofs.Ytpojamikfcmnoaa.X
