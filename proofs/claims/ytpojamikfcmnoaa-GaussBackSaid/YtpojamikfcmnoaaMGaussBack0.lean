import Derived.Test.YtpojamikfcmnoaaProg
import Derived.Below
import Derived.Deep.Draws
import Derived.Deep.AppendLies
import Derived.Maps.AppendAt
import Derived.OwnWalk
import Derived.Laws.BytesArg
import Derived.Laws.MakeOwn
import Derived.Laws.OwnMore
import Derived.Deep.OwnRows
import Derived.Tactics
import Derived.Lib.ConvBytes
import Derived.Laws.Slices
import Derived.WalkKit
import Derived.KernelRfl
import Derived.RowKit3
import Derived.Deep.LoopGhost
import Derived.Deep.QuietTactic
import Derived.BigQuiet
import Derived.WideLaws
import Derived.Deep.DeepCutAuto
import Derived.Deep.CutBlock
import Derived.Deep.RegionHeld3
import Derived.Laws.Rows
import Derived.Lib.AppendStr
import Derived.ArgAppend
import Derived.Laws.IdiomCopy
import Derived.OrdersHeld
import Derived.Laws.BitsLemmas
import Derived.RowKit
import Derived.Test.YtpojamikfcmnoaaWWords
import Derived.Test.YtpojamikfcmnoaaWLast
import Derived.Test.YtpojamikfcmnoaaWTab
import Derived.Test.YtpojamikfcmnoaaWFour
import Derived.Test.YtpojamikfcmnoaaWQPut
import Derived.Test.YtpojamikfcmnoaaWApart
import Derived.Test.YtpojamikfcmnoaaWArr
import Derived.Test.YtpojamikfcmnoaaWZeros
import Derived.Test.YtpojamikfcmnoaaWFoot
import Derived.Test.YtpojamikfcmnoaaWKept
import Derived.Test.YtpojamikfcmnoaaWShare
import Derived.Test.YtpojamikfcmnoaaWN
import Derived.Test.YtpojamikfcmnoaaWFootNe
import Derived.Test.YtpojamikfcmnoaaWAt
import Derived.Test.YtpojamikfcmnoaaWEqStruct
import Derived.Test.YtpojamikfcmnoaaWRepsOne
import Derived.Test.YtpojamikfcmnoaaWInv
import Derived.Test.YtpojamikfcmnoaaWInvWords
import Derived.Test.YtpojamikfcmnoaaWGuard
import Derived.Test.YtpojamikfcmnoaaWNEv
import Derived.Test.YtpojamikfcmnoaaWMore
import Derived.Laws.FloatBits
-- by xprint.py, a program of this session, over the kit's print.py
namespace Go.Proofs.Ytpojamikfcmnoaa.X
open Go.RowKit Go.Proofs.YtpojamikfcmnoaaW.PrintWords Go.Proofs.YtpojamikfcmnoaaW.PrintLast Go.Proofs.YtpojamikfcmnoaaW.PrintMore
attribute [local go_sem] max2_int min2_int max_two min_two max_three min_three max_four min_four   -- for this text's walks alone
set_option linter.unusedVariables false
set_option linter.unusedSimpArgs false



def errW : Option Int → Value
  | none => .nilIface
  | some c => .iface 0 (.int .i64 c)
theorem errW_none : errW none = .nilIface := rfl
theorem errW_some (c : Int) : errW (some c) = .iface 0 (.int .i64 c) := rfl

theorem info2 : (Try.prog.info? 2).map (fun i => (i.zero, i.size, i.bytes)) = some (some (.int .i64 0), 1, 8) := by kernel_rfl
theorem info5 : (Try.prog.info? 5).map (fun i => (i.zero, i.size, i.bytes)) = some (some (.int .u8 0), 1, 1) := by kernel_rfl
theorem info23 : (Try.prog.info? 23).map (fun i => (i.zero, i.size, i.bytes)) = some (some (.agg #[(.int .i64 0), (.int .i64 0)]), 2, 16) := by kernel_rfl
theorem info39 : (Try.prog.info? 39).map (fun i => (i.zero, i.size, i.bytes)) = some (some (.slice none 0 0), 1, 24) := by kernel_rfl
-- the values' own types
def rd_L2 (xs : List (List Int)) (i : Int) : (List Int) := xs.getD i.toNat ([] : List Int)
theorem at_L2 {w : World} {A : Option Addr} {n : Nat} {xs : List (List Int)} (h : Kd.C (Kd.slice 2 (Kd.int .i64)) w A n xs) (i : Int) (h0 : 0 ≤ i) (h1 : i < n) : ∃ ad A0 c0, A = some ad ∧ w.cell? (ad.add i.toNat) = some (.slice A0 (rd_L2 xs i).length c0) ∧ (rd_L2 xs i).length ≤ c0 ∧ (Kd.int .i64).C w A0 (rd_L2 xs i).length (rd_L2 xs i) := by
  obtain ⟨ad, c, e, _, hK, hc0⟩ := Kd.C_get h ([] : List Int) i h0 h1
  have hc : ∀ j u, c[j]? = some u → w.cell? (ad.add (i.toNat * 1 + j)) = some u := hc0
  obtain ⟨A0, c0, rfl, l0, g0⟩ := hK
  exact ⟨ad, A0, c0, e, by have hq := hc 0 _ rfl; rwa [Nat.mul_one, Nat.add_zero] at hq, l0, g0⟩

end Go.Proofs.Ytpojamikfcmnoaa.X
-- by xprint.py, a program of this session, over the kit's print.py
namespace Go.Proofs.Ytpojamikfcmnoaa.X
open Go.RowKit Go.Proofs.YtpojamikfcmnoaaW.PrintWords Go.Proofs.YtpojamikfcmnoaaW.PrintLast Go.Proofs.YtpojamikfcmnoaaW.PrintMore
attribute [local go_sem] max2_int min2_int max_two min_two max_three min_three max_four min_four   -- for this text's walks alone
set_option linter.unusedVariables false
set_option linter.unusedSimpArgs false

/-! Floats as whole numbers of least units: plain Lean over Ieee -/
theorem log2_mul_pow (m j : Nat) (h : m ≠ 0) : (m * 2 ^ j).log2 = m.log2 + j := by
  have h1 : m * 2 ^ j ≠ 0 := Nat.mul_ne_zero h (Nat.pos_iff_ne_zero.1 (Nat.two_pow_pos j))
  rw [Nat.log2_eq_iff h1, Nat.pow_add, show m.log2 + j + 1 = (m.log2 + 1) + j by omega, Nat.pow_add]
  have := (Nat.log2_eq_iff h).1 rfl
  exact ⟨Nat.mul_le_mul_right _ this.1, (Nat.mul_lt_mul_right (Nat.two_pow_pos j)).2 this.2⟩
theorem cut_nought (way : Ieee.Toward) (s : Bool) (n : Nat) : way.cut s n 0 = n := by
  unfold Ieee.Toward.cut
  have e : 1 <<< min 0 (n.log2 + 2) = 1 := by rw [Nat.zero_min]; rfl
  simp only [e, Nat.div_one, Nat.mod_one]
  cases way <;> simp
theorem cut_even (s : Bool) (n j d : Nat) (hn : n ≠ 0) : Ieee.Toward.even.cut s (n * 2 ^ j) (d + j) = Ieee.Toward.even.cut s n d := by
  have hj : 0 < 2 ^ j := Nat.two_pow_pos j
  unfold Ieee.Toward.cut
  rw [log2_mul_pow n j hn, show min (d + j) (n.log2 + j + 2) = min d (n.log2 + 2) + j by omega, Nat.one_shiftLeft, Nat.one_shiftLeft, Nat.pow_add]
  generalize 2 ^ min d (n.log2 + 2) = g
  simp only [Nat.mul_div_mul_right _ _ hj, Nat.mul_mod_mul_right]
  congr 2
  have e1 : (g * 2 ^ j < 2 * (n % g * 2 ^ j)) ↔ (g < 2 * (n % g)) := by
    rw [← Nat.mul_assoc]; exact Nat.mul_lt_mul_right hj
  have e2 : (g * 2 ^ j = 2 * (n % g * 2 ^ j)) ↔ (g = 2 * (n % g)) := by
    rw [← Nat.mul_assoc]; exact ⟨fun h => Nat.eq_of_mul_eq_mul_right hj h, fun h => by rw [← h]⟩
  rw [decide_eq_decide.2 e1]
  congr 2
  rw [Bool.eq_iff_iff, beq_iff_eq, beq_iff_eq]; exact e2
theorem cut_back (s : Bool) (n j : Nat) (hn : n ≠ 0) : Ieee.Toward.even.cut s (n * 2 ^ j) j = n := by
  have := cut_even s n j 0 hn
  rw [Nat.zero_add, cut_nought] at this; exact this
/-- the nearest word hangs on the value alone -/
theorem nearest_scale (f : Ieee.Format) (s : Bool) (m j : Nat) (p : Int) : f.nearest s (m * 2 ^ j) p = f.nearest s m (p + j) := by
  by_cases hm : m = 0
  · subst hm; rw [Nat.zero_mul]; unfold Ieee.Format.nearest; rw [if_pos rfl, if_pos rfl]
  have hm' : m * 2 ^ j ≠ 0 := Nat.mul_ne_zero hm (Nat.pos_iff_ne_zero.1 (Nat.two_pow_pos j))
  unfold Ieee.Format.nearest
  rw [if_neg hm, if_neg hm', log2_mul_pow m j hm, show p + ((m.log2 + j : Nat) : Int) = p + j + (m.log2 : Int) by omega]
  generalize max (p + j + (m.log2 : Int) - f.fractionBits) f.leastPlace = last
  have key : Ieee.Toward.even.cut s ((m * 2 ^ j) <<< (p - last).toNat) (last - p).toNat = Ieee.Toward.even.cut s (m <<< (p + j - last).toNat) (last - (p + j)).toNat := by
    rw [Nat.shiftLeft_eq, Nat.shiftLeft_eq]
    by_cases h1 : last ≤ p
    · rw [show (last - p).toNat = 0 by omega, show (last - (p + j)).toNat = 0 by omega, cut_nought, cut_nought, Nat.mul_assoc, ← Nat.pow_add]
      congr 2; omega
    · by_cases h2 : p + j ≤ last
      · rw [show (p - last).toNat = 0 by omega, show (p + j - last).toNat = 0 by omega, Nat.pow_zero, Nat.mul_one, Nat.mul_one, show (last - p).toNat = (last - (p + j)).toNat + j by omega, cut_even s m j _ hm]
      · rw [show (p - last).toNat = 0 by omega, show (last - (p + j)).toNat = 0 by omega, Nat.pow_zero, Nat.mul_one, cut_nought]
        have e : m * 2 ^ j = (m * 2 ^ (p + j - last).toNat) * 2 ^ (last - p).toNat := by
          rw [Nat.mul_assoc, ← Nat.pow_add]; congr 2; omega
        rw [e, cut_back]
        exact Nat.mul_ne_zero hm (Nat.pos_iff_ne_zero.1 (Nat.two_pow_pos _))
  simp only [key]
/-- a word that stands for the number of sign s and of V least units -/
def Num (f : Ieee.Format) (b : Nat) (s : Bool) (V : Nat) : Prop := ∃ m p, f.read b = .number s m p ∧ f.leastPlace ≤ p ∧ m * 2 ^ (p - f.leastPlace).toNat = V
theorem nearest_value (f : Ieee.Format) (s : Bool) (m k : Nat) (p q : Int) (hp : f.leastPlace ≤ p) (hq : f.leastPlace ≤ q) (h : m * 2 ^ (p - f.leastPlace).toNat = k * 2 ^ (q - f.leastPlace).toNat) : f.nearest s m p = f.nearest s k q := by
  by_cases hpq : p ≤ q
  · have e : m = k * 2 ^ (q - p).toNat := by
      refine Nat.eq_of_mul_eq_mul_right (Nat.two_pow_pos (p - f.leastPlace).toNat) ?_
      rw [h, Nat.mul_assoc, ← Nat.pow_add]; congr 2; omega
    rw [e, nearest_scale]; congr 1; omega
  · have e : k = m * 2 ^ (p - q).toNat := by
      refine Nat.eq_of_mul_eq_mul_right (Nat.two_pow_pos (q - f.leastPlace).toNat) ?_
      rw [← h, Nat.mul_assoc, ← Nat.pow_add]; congr 2; omega
    rw [e, nearest_scale]; congr 1; omega
theorem read_word (f : Ieee.Format) (s : Bool) (r : Nat) (h : r < f.signWeight) : (f.word s r / f.signWeight % 2 == 1) = s ∧ f.word s r % f.signWeight = r := by
  have hw : 0 < f.signWeight := Nat.two_pow_pos _
  unfold Ieee.Format.word
  cases s
  · rw [if_neg (by simp), Nat.div_eq_of_lt h, Nat.mod_eq_of_lt h]; exact ⟨rfl, rfl⟩
  · rw [if_pos rfl, Nat.add_div_left _ hw, Nat.div_eq_of_lt h, Nat.add_mod_left, Nat.mod_eq_of_lt h]; exact ⟨rfl, rfl⟩
theorem word_zero (f : Ieee.Format) (s : Bool) (p : Int) : f.nearest s 0 p = f.word s 0 := by unfold Ieee.Format.nearest; rw [if_pos rfl]
theorem num_zero (f : Ieee.Format) (s : Bool) : Num f (f.word s 0) s 0 := by
  obtain ⟨h1, h2⟩ := read_word f s 0 (Nat.two_pow_pos _)
  refine ⟨0, f.leastPlace, ?_, Int.le_refl _, Nat.zero_mul _⟩
  unfold Ieee.Format.read
  rw [h1, h2]
  exact if_pos (Nat.two_pow_pos _)
/-- a number of few digits is written as it is -/
theorem num_nearest (f : Ieee.Format) (s : Bool) (m : Nat) (p : Int) (hp : f.leastPlace ≤ p) (hm : m < 2 ^ (f.fractionBits + 1)) (ht : (p + m.log2 - f.fractionBits - f.leastPlace).toNat + 3 ≤ 2 ^ f.exponentBits) :
    Num f (f.nearest s m p) s (m * 2 ^ (p - f.leastPlace).toNat) := by
  by_cases h0 : m = 0
  · subst h0; rw [word_zero, Nat.zero_mul]; exact num_zero f s
  have hl := (Nat.log2_eq_iff h0).1 rfl
  have hlf : m.log2 ≤ f.fractionBits := by
    have : 2 ^ m.log2 < 2 ^ (f.fractionBits + 1) := Nat.lt_of_le_of_lt hl.1 hm
    have := (Nat.pow_lt_pow_iff_right (by decide : 1 < 2)).1 this
    omega
  unfold Ieee.Format.nearest
  rw [if_neg h0]
  have hlast : max (p + (m.log2 : Int) - f.fractionBits) f.leastPlace ≤ p := by omega
  generalize hL : max (p + (m.log2 : Int) - f.fractionBits) f.leastPlace = last at hlast ⊢
  have hll : f.leastPlace ≤ last := by omega
  simp only [show (last - p).toNat = 0 by omega, cut_nought, Nat.shiftLeft_eq]
  have hB : f.binade = 2 ^ f.fractionBits := rfl
  have hK2 : m * 2 ^ (p - last).toNat < 2 * f.binade := by
    have h1 : m * 2 ^ (p - last).toNat < 2 ^ (m.log2 + 1) * 2 ^ (p - last).toNat := (Nat.mul_lt_mul_right (Nat.two_pow_pos _)).2 hl.2
    rw [← Nat.pow_add] at h1
    have h2 : 2 ^ (m.log2 + 1 + (p - last).toNat) ≤ 2 ^ (f.fractionBits + 1) := Nat.pow_le_pow_right (by decide) (by omega)
    rw [Nat.pow_succ] at h2
    rw [hB]; omega
  have hK1 : f.leastPlace < last → f.binade ≤ m * 2 ^ (p - last).toNat := by
    intro h
    have h1 : 2 ^ m.log2 * 2 ^ (p - last).toNat ≤ m * 2 ^ (p - last).toNat := Nat.mul_le_mul_right _ hl.1
    rw [← Nat.pow_add, show m.log2 + (p - last).toNat = f.fractionBits by omega] at h1
    exact h1
  have hV : m * 2 ^ (p - f.leastPlace).toNat = (m * 2 ^ (p - last).toNat) * 2 ^ (last - f.leastPlace).toNat := by
    rw [Nat.mul_assoc, ← Nat.pow_add]; congr 2; omega
  rw [hV]
  have hq : (last - f.leastPlace).toNat + 3 ≤ 2 ^ f.exponentBits := by omega
  generalize hKe : m * 2 ^ (p - last).toNat = K at *
  generalize hqe : (last - f.leastPlace).toNat = q at *
  have hBp : 0 < f.binade := Nat.two_pow_pos _
  have hr : q * f.binade + K < f.infRung := by
    unfold Ieee.Format.infRung
    have h1 : (q + 2) * f.binade ≤ (2 ^ f.exponentBits - 1) * f.binade := Nat.mul_le_mul_right _ (by omega)
    rw [Nat.add_mul] at h1; omega
  rw [Nat.min_eq_left (Nat.le_of_lt hr)]
  have hsw := f.infRung_lt
  obtain ⟨r1, r2⟩ := read_word f s (q * f.binade + K) (by omega)
  unfold Num Ieee.Format.read
  rw [r1, r2]
  by_cases hqz : q = 0
  · subst hqz
    rw [Nat.zero_mul, Nat.zero_add] at hr ⊢
    by_cases hs : K < f.binade
    · exact ⟨K, f.leastPlace, if_pos hs, Int.le_refl _, by rw [Int.sub_self]; rfl⟩
    · refine ⟨f.binade + K % f.binade, f.leastPlace + (K / f.binade - 1 : Nat), ?_, by omega, ?_⟩
      · show (if K < f.binade then _ else if K < f.infRung then _ else _) = _
        rw [if_neg hs, if_pos hr]
      · have hd : K / f.binade = 1 := by
          rw [Nat.div_eq_iff hBp]; omega
        have := Nat.div_add_mod K f.binade
        rw [hd, Nat.mul_one] at this
        rw [hd, this, show (f.leastPlace + ((1 - 1 : Nat) : Int) - f.leastPlace).toNat = 0 by omega]
  · have hK := hK1 (by omega)
    have hd : (q * f.binade + K) / f.binade = q + 1 := by
      rw [Nat.mul_comm, Nat.mul_add_div hBp]
      have : K / f.binade = 1 := by rw [Nat.div_eq_iff hBp]; omega
      omega
    have hm' : f.binade + (q * f.binade + K) % f.binade = K := by
      rw [Nat.mul_comm, Nat.mul_add_mod]
      have h1 : K / f.binade = 1 := by rw [Nat.div_eq_iff hBp]; omega
      have := Nat.div_add_mod K f.binade
      rw [h1, Nat.mul_one] at this; exact this
    refine ⟨f.binade + (q * f.binade + K) % f.binade, f.leastPlace + ((q * f.binade + K) / f.binade - 1 : Nat), ?_, by omega, ?_⟩
    · show (if q * f.binade + K < f.binade then _ else if q * f.binade + K < f.infRung then _ else _) = _
      have : f.binade ≤ q * f.binade := Nat.le_mul_of_pos_left _ (by omega)
      rw [if_neg (by omega), if_pos hr]
    · rw [hm', hd, show (f.leastPlace + ((q + 1 - 1 : Nat) : Int) - f.leastPlace).toNat = q by omega]

def sgn (s : Bool) (V : Nat) : Int := if s then -(V : Int) else (V : Int)
theorem sgn_mul (s : Bool) (a k : Nat) : sgn s (a * k) = sgn s a * (k : Int) := by
  unfold sgn; cases s <;> simp [Int.neg_mul]
theorem signed_sgn (s : Bool) (m a : Nat) : Ieee.signed s m a = sgn s (m * 2 ^ a) := by
  unfold Ieee.signed sgn; rw [Nat.shiftLeft_eq]
theorem sgn_abs (s : Bool) (V : Nat) : (sgn s V).natAbs = V := by unfold sgn; cases s <;> simp
theorem sgn_not (s : Bool) (V : Nat) : sgn (!s) V = - sgn s V := by unfold sgn; cases s <;> simp
theorem compare_scale (a b : Int) (k : Nat) (hk : 0 < k) : compare (a * (k : Int)) (b * (k : Int)) = compare a b := by
  have hk' : (0 : Int) < (k : Int) := by omega
  show compareOfLessAndEq _ _ = compareOfLessAndEq _ _
  unfold compareOfLessAndEq
  by_cases h1 : a < b
  · rw [if_pos h1, if_pos (Int.mul_lt_mul_of_pos_right h1 hk')]
  · rw [if_neg h1, if_neg (fun g => h1 (Int.lt_of_mul_lt_mul_right g (Int.le_of_lt hk')))]
    by_cases h2 : a = b
    · rw [if_pos h2, if_pos (by rw [h2])]
    · rw [if_neg h2, if_neg (fun g => h2 (Int.eq_of_mul_eq_mul_right (by omega) g))]
theorem num_order {f : Ieee.Format} {x y : Nat} {s t : Bool} {V W : Nat} (hx : Num f x s V) (hy : Num f y t W) : f.order x y = some (compare (sgn s V) (sgn t W)) := by
  obtain ⟨m, i, e1, hi, rfl⟩ := hx
  obtain ⟨n, j, e2, hj, rfl⟩ := hy
  unfold Ieee.Format.order
  rw [e1, e2]
  show some (compare (Ieee.signed s m (i - min i j).toNat) (Ieee.signed t n (j - min i j).toNat)) = _
  rw [signed_sgn, signed_sgn, ← compare_scale _ _ (2 ^ (min i j - f.leastPlace).toNat) (Nat.two_pow_pos _), ← sgn_mul, ← sgn_mul, Nat.mul_assoc, Nat.mul_assoc, ← Nat.pow_add, ← Nat.pow_add]
  rw [show (i - min i j).toNat + (min i j - f.leastPlace).toNat = (i - f.leastPlace).toNat by omega, show (j - min i j).toNat + (min i j - f.leastPlace).toNat = (j - f.leastPlace).toNat by omega]
def sumSign (s : Bool) (V : Nat) (t : Bool) (W : Nat) : Bool := if sgn s V + sgn t W = 0 then s && t else decide (sgn s V + sgn t W < 0)
theorem datum_sum (f : Ieee.Format) (s t : Bool) (m n : Nat) (i j : Int) (hi : f.leastPlace ≤ i) (hj : f.leastPlace ≤ j) :
    ∃ k p, (Ieee.Datum.number s m i).sum (.number t n j) = some (.number (sumSign s (m * 2 ^ (i - f.leastPlace).toNat) t (n * 2 ^ (j - f.leastPlace).toNat)) k p) ∧ f.leastPlace ≤ p ∧ k * 2 ^ (p - f.leastPlace).toNat = (sgn s (m * 2 ^ (i - f.leastPlace).toNat) + sgn t (n * 2 ^ (j - f.leastPlace).toNat)).natAbs := by
  have e1 : sgn s (m * 2 ^ (i - f.leastPlace).toNat) = sgn s (m * 2 ^ (i - min i j).toNat) * ((2 ^ (min i j - f.leastPlace).toNat : Nat) : Int) := by
    rw [← sgn_mul, Nat.mul_assoc, ← Nat.pow_add]; congr 3; omega
  have e2 : sgn t (n * 2 ^ (j - f.leastPlace).toNat) = sgn t (n * 2 ^ (j - min i j).toNat) * ((2 ^ (min i j - f.leastPlace).toNat : Nat) : Int) := by
    rw [← sgn_mul, Nat.mul_assoc, ← Nat.pow_add]; congr 3; omega
  have hk : 0 < ((2 ^ (min i j - f.leastPlace).toNat : Nat) : Int) := by have := Nat.two_pow_pos (min i j - f.leastPlace).toNat; omega
  refine ⟨(sgn s (m * 2 ^ (i - min i j).toNat) + sgn t (n * 2 ^ (j - min i j).toNat)).natAbs, min i j, ?_, by omega, ?_⟩
  · show some (Ieee.Datum.number (if Ieee.signed s m (i - min i j).toNat + Ieee.signed t n (j - min i j).toNat = 0 then s && t else decide (Ieee.signed s m (i - min i j).toNat + Ieee.signed t n (j - min i j).toNat < 0)) (Ieee.signed s m (i - min i j).toNat + Ieee.signed t n (j - min i j).toNat).natAbs (min i j)) = _
    rw [signed_sgn, signed_sgn]
    unfold sumSign
    rw [e1, e2, ← Int.add_mul]
    generalize sgn s (m * 2 ^ (i - min i j).toNat) + sgn t (n * 2 ^ (j - min i j).toNat) = T
    generalize ((2 ^ (min i j - f.leastPlace).toNat : Nat) : Int) = k at hk
    by_cases hT : T = 0
    · rw [if_pos hT, if_pos (by rw [hT, Int.zero_mul])]
    · rw [if_neg hT, if_neg (fun g => by rcases Int.mul_eq_zero.1 g with g | g; exact hT g; omega)]
      congr 2
      rw [decide_eq_decide]
      exact ⟨fun g => Int.mul_neg_of_neg_of_pos g hk, fun g => Int.lt_of_mul_lt_mul_right (by rw [Int.zero_mul]; exact g) (Int.le_of_lt hk)⟩
  · rw [e1, e2, ← Int.add_mul, Int.natAbs_mul, Int.natAbs_natCast]
theorem num_add {f : Ieee.Format} {x y : Nat} {s t : Bool} {V W : Nat} (hx : Num f x s V) (hy : Num f y t W) :
    ∃ k p, f.add x y = some (f.nearest (sumSign s V t W) k p) ∧ f.leastPlace ≤ p ∧ k * 2 ^ (p - f.leastPlace).toNat = (sgn s V + sgn t W).natAbs := by
  obtain ⟨m, i, e1, hi, rfl⟩ := hx
  obtain ⟨n, j, e2, hj, rfl⟩ := hy
  obtain ⟨k, p, h1, h2, h3⟩ := datum_sum f s t m n i j hi hj
  refine ⟨k, p, ?_, h2, h3⟩
  unfold Ieee.Format.add
  rw [e1, e2, h1]; rfl
theorem num_sub {f : Ieee.Format} {x y : Nat} {s t : Bool} {V W : Nat} (hx : Num f x s V) (hy : Num f y t W) :
    ∃ k p, f.sub x y = some (f.nearest (sumSign s V (!t) W) k p) ∧ f.leastPlace ≤ p ∧ k * 2 ^ (p - f.leastPlace).toNat = (sgn s V + sgn (!t) W).natAbs := by
  obtain ⟨m, i, e1, hi, rfl⟩ := hx
  obtain ⟨n, j, e2, hj, rfl⟩ := hy
  obtain ⟨k, p, h1, h2, h3⟩ := datum_sum f s (!t) m n i j hi hj
  refine ⟨k, p, ?_, h2, h3⟩
  unfold Ieee.Format.sub
  rw [e1, e2]
  show Option.map f.write ((Ieee.Datum.number s m i).sum (Ieee.Datum.number (!t) n j)) = _
  rw [h1]; rfl
theorem read_small {f : Ieee.Format} {b : Nat} {s : Bool} {m : Nat} {p : Int} (h : f.read b = .number s m p) : m < 2 * f.binade ∧ f.leastPlace ≤ p := by
  have hB : 0 < f.binade := Nat.two_pow_pos _
  unfold Ieee.Format.read at h
  dsimp only at h
  split at h
  · cases h; rename_i hr; exact ⟨by omega, Int.le_refl _⟩
  · split at h
    · cases h
      have := Nat.mod_lt (b % f.signWeight) hB
      exact ⟨by omega, by omega⟩
    · split at h <;> cases h
theorem num_of_read {f : Ieee.Format} {b : Nat} {s : Bool} {m : Nat} {p : Int} (h : f.read b = .number s m p) : Num f b s (m * 2 ^ (p - f.leastPlace).toNat) := ⟨m, p, h, (read_small h).2, rfl⟩
/-! doubles -/
theorem dl : Ieee.double.leastPlace = -1074 := by decide
theorem sl : Ieee.single.leastPlace = -149 := by decide
def Ubig : Nat := 2 ^ 1074
theorem Ubig_eq : Ubig = 2 ^ 1074 := by unfold Ubig; rfl
/-- the word of a whole number -/
def dI (s : Bool) (k : Nat) : Nat := Ieee.double.nearest s k 0
def IntF (x : Nat) (s : Bool) (k : Nat) : Prop := Num Ieee.double x s (k * Ubig)
theorem dI_int (s : Bool) (k : Nat) (hk : k < 9007199254740992) : IntF (dI s k) s k := by
  have := num_nearest Ieee.double s k 0 (by rw [dl]; decide) (by show k < 2 ^ 53; exact hk) (by
    rw [dl]
    have hl : k.log2 ≤ 52 := by
      by_cases h0 : k = 0
      · subst h0; decide
      · have := (Nat.log2_lt h0).2 (show k < 2 ^ 53 from hk); omega
    show ((0 : Int) + (k.log2 : Int) - ((52 : Nat) : Int) - (-1074)).toNat + 3 ≤ 2 ^ 11
    omega)
  rw [dl] at this
  rw [show ((0 : Int) - (-1074)).toNat = 1074 from rfl, ← Ubig_eq] at this
  exact this
theorem dI_of {s : Bool} {m k : Nat} {p : Int} (hp : -1074 ≤ p) (h : m * 2 ^ (p + 1074).toNat = k * Ubig) : Ieee.double.nearest s m p = dI s k :=
  nearest_value Ieee.double s m k p 0 (by rw [dl]; exact hp) (by rw [dl]; decide) (by rw [dl, Int.sub_neg, h, show ((0 : Int) - (-1074)).toNat = 1074 from rfl, ← Ubig_eq])
theorem sgn_U (s : Bool) (a : Nat) : sgn s (a * Ubig) = sgn s a * ((Ubig : Nat) : Int) := sgn_mul s a _
theorem U_pos : (0 : Int) < ((Ubig : Nat) : Int) := by rw [Ubig_eq]; exact Int.natCast_pos.2 (Nat.two_pow_pos 1074)
theorem sumSign_U (s t : Bool) (a b : Nat) : sumSign s (a * Ubig) t (b * Ubig) = sumSign s a t b := by
  unfold sumSign
  rw [sgn_U, sgn_U, ← Int.add_mul]
  have hU := U_pos
  generalize ((Ubig : Nat) : Int) = U at hU
  generalize sgn s a + sgn t b = T
  by_cases hT : T = 0
  · rw [if_pos hT, if_pos (by rw [hT, Int.zero_mul])]
  · rw [if_neg hT, if_neg (fun g => by rcases Int.mul_eq_zero.1 g with g | g; exact hT g; omega), decide_eq_decide]
    exact ⟨fun g => Int.lt_of_mul_lt_mul_right (by rw [Int.zero_mul]; exact g) (Int.le_of_lt hU), fun g => Int.mul_neg_of_neg_of_pos g hU⟩
theorem add_int {x y : Nat} {s t : Bool} {a b : Nat} (hx : IntF x s a) (hy : IntF y t b) : Ieee.double.add x y = some (dI (sumSign s a t b) (sgn s a + sgn t b).natAbs) := by
  obtain ⟨k, p, h1, h2, h3⟩ := num_add hx hy
  rw [sumSign_U] at h1
  rw [dl] at h2 h3
  rw [h1, dI_of h2]
  rw [Int.sub_neg, sgn_U, sgn_U, ← Int.add_mul, Int.natAbs_mul, Int.natAbs_natCast] at h3
  exact h3
theorem sub_int {x y : Nat} {s t : Bool} {a b : Nat} (hx : IntF x s a) (hy : IntF y t b) : Ieee.double.sub x y = some (dI (sumSign s a (!t) b) (sgn s a - sgn t b).natAbs) := by
  obtain ⟨k, p, h1, h2, h3⟩ := num_sub hx hy
  rw [sumSign_U] at h1
  rw [dl] at h2 h3
  rw [h1, dI_of h2]
  rw [Int.sub_neg, sgn_U, sgn_U, ← Int.add_mul, Int.natAbs_mul, Int.natAbs_natCast, sgn_not, ← Int.sub_eq_add_neg] at h3
  exact h3
theorem int_place {x : Nat} {s : Bool} {a : Nat} (h : IntF x s a) : ∃ m p, Ieee.double.read x = .number s m p ∧ ((a = 0 ∧ m = 0) ∨ (a ≠ 0 ∧ -52 ≤ p)) ∧ -1074 ≤ p ∧ m * 2 ^ (p + 1074).toNat = a * Ubig := by
  obtain ⟨m, p, h1, h2, h3⟩ := h
  have hm := (read_small h1).1
  rw [dl] at h2 h3
  rw [Int.sub_neg] at h3
  refine ⟨m, p, h1, ?_, h2, h3⟩
  by_cases ha : a = 0
  · refine Or.inl ⟨ha, ?_⟩
    rw [ha, Nat.zero_mul] at h3
    rcases Nat.mul_eq_zero.1 h3 with g | g
    · exact g
    · exact absurd g (Nat.pos_iff_ne_zero.1 (Nat.two_pow_pos _))
  · refine Or.inr ⟨ha, ?_⟩
    by_cases hp : -52 ≤ p
    · exact hp
    · exfalso
      have e : Ubig = 2 ^ (-p).toNat * 2 ^ (p + 1074).toNat := by rw [← Nat.pow_add, Ubig_eq]; congr 1; omega
      rw [e, ← Nat.mul_assoc] at h3
      have h4 := Nat.eq_of_mul_eq_mul_right (Nat.two_pow_pos _) h3
      have h5 : 2 ^ 53 ≤ 2 ^ (-p).toNat := Nat.pow_le_pow_right (by decide) (by omega)
      have h6 : 2 ^ (-p).toNat ≤ a * 2 ^ (-p).toNat := Nat.le_mul_of_pos_left _ (by omega)
      have h7 : 2 * Ieee.double.binade = 2 ^ 53 := by decide
      omega
theorem pow_pair (a b c d : Nat) (h : a + b = c + d) : 2 ^ a * 2 ^ b = 2 ^ c * 2 ^ d := by rw [← Nat.pow_add, ← Nat.pow_add, h]
theorem mul_read {x y : Nat} {s t : Bool} {a b : Nat} (hx : IntF x s a) (hy : IntF y t b) : ∃ m p, Ieee.double.mul x y = some (Ieee.double.nearest (s ^^ t) m p) ∧ ((m = 0 ∧ a * b = 0) ∨ (-1074 ≤ p ∧ m * 2 ^ (p + 1074).toNat = (a * b) * Ubig)) := by
  obtain ⟨m, i, h1, h2, h3, h4⟩ := int_place hx
  obtain ⟨n, j, g1, g2, g3, g4⟩ := int_place hy
  refine ⟨m * n, i + j, ?_, ?_⟩
  · unfold Ieee.Format.mul; rw [h1, g1]; rfl
  · rcases h2 with ⟨ha, hm⟩ | ⟨ha, hi⟩
    · left; rw [ha, hm, Nat.zero_mul, Nat.zero_mul]; exact ⟨rfl, rfl⟩
    · rcases g2 with ⟨hb, hn⟩ | ⟨hb, hj⟩
      · left; rw [hb, hn, Nat.mul_zero, Nat.mul_zero]; exact ⟨rfl, rfl⟩
      · right
        refine ⟨by omega, ?_⟩
        refine Nat.eq_of_mul_eq_mul_right (by rw [Ubig_eq]; exact Nat.two_pow_pos 1074 : 0 < Ubig) ?_
        have ep : ∀ E U : Nat, E = 1074 → U = 2 ^ E → 2 ^ (i + j + 1074).toNat * U = 2 ^ (i + 1074).toNat * 2 ^ (j + 1074).toNat := by
          intro E U hE hU
          rw [hU]
          exact pow_pair _ _ _ _ (by omega)
        have e : (m * n * 2 ^ (i + j + 1074).toNat) * Ubig = (m * 2 ^ (i + 1074).toNat) * (n * 2 ^ (j + 1074).toNat) := by
          rw [Nat.mul_assoc, ep 1074 Ubig rfl Ubig_eq, Nat.mul_mul_mul_comm]
        rw [e, h4, g4, Nat.mul_mul_mul_comm, Nat.mul_assoc (a * b)]
theorem mul_int {x y : Nat} {s t : Bool} {a b : Nat} (hx : IntF x s a) (hy : IntF y t b) : Ieee.double.mul x y = some (dI (s ^^ t) (a * b)) := by
  obtain ⟨m, p, h1, h2⟩ := mul_read hx hy
  rw [h1]
  rcases h2 with ⟨hm, hab⟩ | ⟨hp, h⟩
  · rw [hm, hab, word_zero]; unfold dI; rw [word_zero]
  · rw [dI_of hp h]

theorem Ubig_pos : 0 < Ubig := by rw [Ubig_eq]; exact Nat.two_pow_pos 1074
theorem cut_zero (s : Bool) (n d : Nat) : Ieee.Toward.zero.cut s n d = n / 2 ^ d := by
  unfold Ieee.Toward.cut
  show n / 1 <<< min d (n.log2 + 2) + 0 = _
  rw [Nat.add_zero, Nat.one_shiftLeft]
  by_cases h : d ≤ n.log2 + 2
  · rw [Nat.min_eq_left h]
  · rw [Nat.min_eq_right (by omega)]
    have h1 : n < 2 ^ (n.log2 + 2) := by
      by_cases h0 : n = 0
      · subst h0; exact Nat.two_pow_pos _
      · have := ((Nat.log2_eq_iff h0).1 rfl).2
        exact Nat.lt_of_lt_of_le this (Nat.pow_le_pow_right (by decide) (by omega))
    have h2 : n < 2 ^ d := Nat.lt_of_lt_of_le h1 (Nat.pow_le_pow_right (by decide) (by omega))
    rw [Nat.div_eq_of_lt h1, Nat.div_eq_of_lt h2]
def truncB (x : Nat) : Nat := Ieee.double.write ((Ieee.double.read x).integral .zero)
def signB (x : Nat) : Bool := decide (x % 18446744073709551616 ≥ 9223372036854775808)
def partE (x : Nat) : Bool :=
  (Ieee.double.order x 13920626448202203136 == some .gt || Ieee.double.order x 13920626448202203136 == some .eq) &&
  ((Ieee.double.order x 4697254411347427328 == some .lt || Ieee.double.order x 4697254411347427328 == some .eq) &&
  (Ieee.double.order x (truncB x) == some .eq && !(Ieee.double.order x 0 == some .eq && signB x)))
theorem cN : IntF 13920626448202203136 true 1048576 := by
  have h := dI_int true 1048576 (by decide)
  rwa [show dI true 1048576 = 13920626448202203136 by decide +kernel] at h
theorem cP : IntF 4697254411347427328 false 1048576 := by
  have h := dI_int false 1048576 (by decide)
  rwa [show dI false 1048576 = 4697254411347427328 by decide +kernel] at h
theorem cZ : IntF 0 false 0 := by
  have h := dI_int false 0 (by decide)
  rwa [show dI false 0 = 0 by decide +kernel] at h
theorem trunc_num {x : Nat} {s : Bool} {V : Nat} (h : Num Ieee.double x s V) : truncB x = dI s (V / Ubig) := by
  obtain ⟨m, p, h1, h2, rfl⟩ := h
  unfold truncB
  rw [h1]
  show Ieee.double.nearest s (Ieee.Toward.zero.cut s (m <<< p.toNat) (-p).toNat) 0 = _
  rw [cut_zero, Nat.shiftLeft_eq, dl, Int.sub_neg]
  rw [dl] at h2
  unfold dI
  congr 1
  by_cases hp : 0 ≤ p
  · rw [show (-p).toNat = 0 by omega, Nat.pow_zero, Nat.div_one, show (p + 1074).toNat = p.toNat + 1074 by omega, Nat.pow_add, ← Ubig_eq, ← Nat.mul_assoc, Nat.mul_div_cancel _ Ubig_pos]
  · have e : Ubig = 2 ^ (-p).toNat * 2 ^ (p + 1074).toNat := by
      rw [← Nat.pow_add, Ubig_eq, show (-p).toNat + (p + 1074).toNat = 1074 by omega]
    rw [e, Nat.mul_div_mul_right _ _ (Nat.two_pow_pos _), show p.toNat = 0 by omega, Nat.pow_zero, Nat.mul_one]
theorem sign_num {x : Nat} {s : Bool} {V : Nat} (hx : x < 18446744073709551616) (h : Num Ieee.double x s V) : signB x = s := by
  obtain ⟨m, p, h1, _, _⟩ := h
  have h2 : (x / Ieee.double.signWeight % 2 == 1) = s := by
    unfold Ieee.Format.read at h1
    dsimp only at h1
    split at h1
    · cases h1; rfl
    · split at h1
      · cases h1; rfl
      · split at h1 <;> cases h1
  have hw : Ieee.double.signWeight = 9223372036854775808 := by decide
  rw [hw] at h2
  unfold signB
  rw [← h2, Nat.mod_eq_of_lt hx, Bool.eq_iff_iff, decide_eq_true_iff, beq_iff_eq]
  omega
theorem cmp_gt (a b : Int) : (some (compare a b) == some Ordering.gt || some (compare a b) == some Ordering.eq) = decide (b ≤ a) := by
  show (some (compareOfLessAndEq a b) == some Ordering.gt || some (compareOfLessAndEq a b) == some Ordering.eq) = _
  unfold compareOfLessAndEq
  by_cases h : a < b
  · rw [if_pos h, decide_eq_false (by omega)]; rfl
  · rw [if_neg h, decide_eq_true (by omega)]
    split <;> rfl
theorem cmp_lt (a b : Int) : (some (compare a b) == some Ordering.lt || some (compare a b) == some Ordering.eq) = decide (a ≤ b) := by
  show (some (compareOfLessAndEq a b) == some Ordering.lt || some (compareOfLessAndEq a b) == some Ordering.eq) = _
  unfold compareOfLessAndEq
  by_cases h : a < b
  · rw [if_pos h, decide_eq_true (by omega)]; rfl
  · rw [if_neg h]
    by_cases h2 : a = b
    · rw [if_pos h2, decide_eq_true (by omega)]; rfl
    · rw [if_neg h2, decide_eq_false (by omega)]; rfl
theorem cmp_eq (a b : Int) : (some (compare a b) == some Ordering.eq) = decide (a = b) := by
  show (some (compareOfLessAndEq a b) == some Ordering.eq) = _
  unfold compareOfLessAndEq
  by_cases h : a < b
  · rw [if_pos h, decide_eq_false (by omega)]; rfl
  · rw [if_neg h]
    by_cases h2 : a = b
    · rw [if_pos h2, decide_eq_true h2]; rfl
    · rw [if_neg h2, decide_eq_false h2]; rfl
theorem order_inf {x y : Nat} {s t : Bool} {W : Nat} (hx : Ieee.double.read x = .infinity s) (hy : Num Ieee.double y t W) : Ieee.double.order x y = some (if s then .lt else .gt) := by
  obtain ⟨m, p, h1, _, _⟩ := hy
  unfold Ieee.Format.order
  rw [hx, h1]; rfl
theorem order_nan {x y : Nat} {s : Bool} {n : Nat} (hx : Ieee.double.read x = .nan s n) : Ieee.double.order x y = none := by
  unfold Ieee.Format.order
  rw [hx]; rfl
theorem sgn_inj (s : Bool) (V W : Nat) : sgn s V = sgn s W ↔ V = W := by unfold sgn; cases s <;> simp <;> omega
theorem sgn_le (s : Bool) (V K : Nat) : (sgn true K ≤ sgn s V ∧ sgn s V ≤ sgn false K) ↔ V ≤ K := by
  unfold sgn; cases s <;> simp <;> omega
theorem part_num {x : Nat} {s : Bool} {V : Nat} (hx : x < 18446744073709551616) (h : Num Ieee.double x s V) : partE x = (decide (V ≤ 1048576 * Ubig) && (decide (V / Ubig * Ubig = V) && (decide (V ≠ 0) || !s))) := by
  unfold partE
  rw [num_order h cN, num_order h cP, num_order h cZ, cmp_gt, cmp_lt, sign_num hx h]
  have hU := Ubig_pos
  by_cases hV : V ≤ 1048576 * Ubig
  · have hle := (sgn_le s V (1048576 * Ubig)).2 hV
    have ht : IntF (truncB x) s (V / Ubig) := by
      rw [trunc_num h]
      refine dI_int s _ ?_
      have : V / Ubig ≤ 1048576 := by rw [Nat.mul_comm] at hV; exact Nat.div_le_of_le_mul hV
      omega
    rw [num_order h ht, cmp_eq, cmp_eq, decide_eq_true hle.1, decide_eq_true hle.2, decide_eq_true hV, Bool.true_and, Bool.true_and, Bool.true_and]
    have e1 : (sgn s V = sgn s (V / Ubig * Ubig)) ↔ V / Ubig * Ubig = V := (sgn_inj s _ _).trans eq_comm
    have e2 : (sgn s V = sgn false (0 * Ubig)) ↔ V = 0 := by unfold sgn; cases s <;> simp <;> omega
    rw [decide_eq_decide.2 e1, decide_eq_decide.2 e2]
    by_cases h0 : V = 0
    · rw [decide_eq_true h0, decide_eq_false (fun g : V ≠ 0 => g h0), Bool.true_and, Bool.false_or]
    · rw [decide_eq_false h0, decide_eq_true (show V ≠ 0 from h0), Bool.false_and, Bool.true_or]; rfl
  · have hle : ¬ (sgn true (1048576 * Ubig) ≤ sgn s V ∧ sgn s V ≤ sgn false (1048576 * Ubig)) := fun g => hV ((sgn_le s V (1048576 * Ubig)).1 g)
    rw [decide_eq_false hV, Bool.false_and]
    by_cases g : sgn true (1048576 * Ubig) ≤ sgn s V
    · rw [decide_eq_true g, decide_eq_false (fun g2 => hle ⟨g, g2⟩)]; rfl
    · rw [decide_eq_false g]; rfl
theorem part_int {x : Nat} {s : Bool} {k : Nat} (hx : x < 18446744073709551616) (h : IntF x s k) : partE x = (decide (k ≤ 1048576) && (decide (k ≠ 0) || !s)) := by
  have hU := Ubig_pos
  rw [part_num hx h, Nat.mul_div_cancel _ hU]
  have e1 : k * Ubig ≤ 1048576 * Ubig ↔ k ≤ 1048576 := Nat.mul_le_mul_right_iff hU
  have e2 : k * Ubig ≠ 0 ↔ k ≠ 0 := ⟨fun g e => g (by rw [e, Nat.zero_mul]), fun g => Nat.mul_ne_zero g (by omega)⟩
  rw [decide_eq_decide.2 e1, decide_eq_decide.2 e2, decide_eq_true rfl, Bool.true_and]
theorem part_iff {x : Nat} (hx : x < 18446744073709551616) : partE x = true ↔ ∃ s k, IntF x s k ∧ k ≤ 1048576 ∧ (k = 0 → s = false) := by
  constructor
  · intro h
    cases hr : Ieee.double.read x with
    | nan s n => unfold partE at h; rw [order_nan hr] at h; cases h
    | infinity s =>
      unfold partE at h
      rw [order_inf hr cN, order_inf hr cP] at h
      cases s <;> cases h
    | number s m p =>
      have hn := num_of_read hr
      rw [part_num hx hn] at h
      simp only [Bool.and_eq_true, Bool.or_eq_true, decide_eq_true_eq, Bool.not_eq_true'] at h
      obtain ⟨h1, h2, h3⟩ := h
      refine ⟨s, _, (by unfold IntF; rw [h2]; exact hn), ?_, ?_⟩
      · exact Nat.div_le_of_le_mul (Nat.le_trans h1 (Nat.le_of_eq (Nat.mul_comm _ _)))
      · intro h0
        rw [h0, Nat.zero_mul] at h2
        rcases h3 with h3 | h3
        · exact absurd h2.symm h3
        · exact h3
  · rintro ⟨s, k, h, hk, h0⟩
    rw [part_int hx h, decide_eq_true hk, Bool.true_and]
    by_cases g : k = 0
    · rw [h0 g]; simp
    · rw [decide_eq_true g]; rfl

end Go.Proofs.Ytpojamikfcmnoaa.X
