import Derived.Test.YtpojamikfcmnoaaMGaussBack0
import Derived.Laws.BitsAllLaws
import Derived.WalkLawsBesides
import Derived.Laws.Externs
-- by xprint.py, a program of this session, over the kit's print.py
namespace Go.Proofs.Ytpojamikfcmnoaa.X
open Go.RowKit Go.Proofs.YtpojamikfcmnoaaW.PrintWords Go.Proofs.YtpojamikfcmnoaaW.PrintLast Go.Proofs.YtpojamikfcmnoaaW.PrintMore
attribute [local go_sem] max2_int min2_int max_two min_two max_three min_three max_four min_four   -- for this text's walks alone
set_option linter.unusedVariables false
set_option linter.unusedSimpArgs false

/-! The least writing of a number, and how a number is read: plain Lean, no program in sight. -/
/-- how many bytes the least writing of a number has -/
def vSize (v : Nat) : Nat := if v < 128 then 1 else vSize (v / 128) + 1
  decreasing_by omega
theorem vSize_lt {v : Nat} (h : v < 128) : vSize v = 1 := by rw [vSize, if_pos h]
theorem vSize_ge {v : Nat} (h : ¬ v < 128) : vSize v = vSize (v / 128) + 1 := by rw [vSize, if_neg h]
/-- a string's bytes as numbers -/
def ns (s : ByteArray) : List Nat := s.data.toList.map UInt8.toNat
theorem ns_length (s : ByteArray) : (ns s).length = s.size := by simp [ns]
theorem ns_lt (s : ByteArray) : ∀ c ∈ ns s, c < 256 := by
  intro c hc
  simp only [ns, List.mem_map] at hc
  obtain ⟨x, _, rfl⟩ := hc
  exact x.toNat_lt
theorem ns_get (s : ByteArray) (i : Nat) (h : i < s.size) : (ns s)[i]'(by rw [ns_length]; exact h) = (s[i]'h).toNat := by simp [ns]; rfl
theorem ns_drop (s : ByteArray) (i : Nat) (h : i < s.size) : (ns s).drop i = (s[i]'h).toNat :: (ns s).drop (i + 1) := by
  rw [List.drop_eq_getElem_cons (by rw [ns_length]; exact h), ns_get s i h]
theorem ns_drop_end (s : ByteArray) (i : Nat) (h : s.size ≤ i) : (ns s).drop i = [] := by
  rw [List.drop_eq_nil_iff, ns_length]; exact h
theorem bt_ns (s : ByteArray) (i : Nat) (h : i < s.size) : bt s i = ((s[i]'h).toNat : Int) := by simp [bt, h]
/-- the number with which a text begins (behind `n` bytes that told `v`): number, bytes, code -/
def readS : List Nat → Nat → Nat → Nat × Nat × Nat
  | [], _, _ => (0, 0, 1)
  | c :: l, n, v => if n = 9 ∧ 1 < c then (0, 0, 2) else if c < 128 then (v + c * 128 ^ n, n + 1, 0) else readS l (n + 1) (v + (c % 128) * 128 ^ n)
def vRead (s : ByteArray) : Nat × Nat × Nat := readS (ns s) 0 0
/-- the least writing of a number -/
def vPut (v : Nat) : List Nat := if v < 128 then [v] else (v % 128 + 128) :: vPut (v / 128)
  decreasing_by omega
theorem vPut_lt {v : Nat} (h : v < 128) : vPut v = [v] := by rw [vPut, if_pos h]
theorem vPut_ge {v : Nat} (h : ¬ v < 128) : vPut v = (v % 128 + 128) :: vPut (v / 128) := by rw [vPut, if_neg h]
theorem pow128 (n : Nat) : 128 ^ n = 2 ^ (7 * n) := by
  rw [Nat.pow_mul]
theorem u64_wrap (x : Int) : IntKind.u64.wrap x = x % 18446744073709551616 := by simp [IntKind.wrap, IntKind.bits, IntKind.signed]
theorem or_step (v c n : Nat) (hv : v < 128 ^ n) (hn : n ≤ 9) (h9 : n = 9 → c ≤ 1) :
    Go.bits .or .u64 (v : Int) (IntKind.u64.wrap ((c : Int) % 128 * 2 ^ (7 * n))) = ((v + c % 128 * 128 ^ n : Nat) : Int) := by
  have e : (c : Int) % 128 * 2 ^ (7 * n) = ((c % 128 * 2 ^ (7 * n) : Nat) : Int) := by simp
  have hp : c % 128 * 2 ^ (7 * n) < 18446744073709551616 := by
    rcases Nat.lt_or_ge n 9 with h | h
    · have h1 : 2 ^ (7 * n) ≤ 2 ^ 56 := Nat.pow_le_pow_right (by decide) (by omega)
      have h2 : c % 128 * 2 ^ (7 * n) ≤ 127 * 2 ^ 56 := Nat.mul_le_mul (by omega) h1
      omega
    · obtain rfl : n = 9 := by omega
      have := h9 rfl
      have h2 : c % 128 * 2 ^ (7 * 9) ≤ 1 * 2 ^ 63 := Nat.mul_le_mul (by omega) (by decide)
      omega
  have hw : IntKind.u64.wrap ((c : Int) % 128 * 2 ^ (7 * n)) = ((c % 128 * 2 ^ (7 * n) : Nat) : Int) := by
    rw [e, u64_wrap]; omega
  have hv2 : v < 2 ^ (7 * n) := by rw [← pow128]; exact hv
  have hv3 : v < 18446744073709551616 := by
    have : 2 ^ (7 * n) ≤ 2 ^ 63 := Nat.pow_le_pow_right (by decide) (by omega)
    omega
  rw [hw, u64_or_nat _ _ hv3 hp, Nat.or_comm, Nat.mul_comm, ← Nat.two_pow_add_eq_or_of_lt hv2, pow128, Nat.mul_comm, Nat.add_comm]
theorem readS_cons {c n v : Nat} {l : List Nat} (h9 : n = 9 → c ≤ 1) : readS (c :: l) n v = if c < 128 then (v + c * 128 ^ n, n + 1, 0) else readS l (n + 1) (v + (c % 128) * 128 ^ n) := by
  rw [readS, if_neg (by omega)]
/-- the least writing, as a string -/
def vStr (v : Nat) : ByteArray := strOfNums ((vPut v).map Int.ofNat)
theorem vPut_length (v : Nat) : (vPut v).length = vSize v := by
  induction v using Nat.strongRecOn with
  | _ v ih =>
    by_cases h : v < 128
    · rw [vPut_lt h, vSize_lt h]; rfl
    · rw [vPut_ge h, vSize_ge h, List.length_cons, ih (v / 128) (by omega)]
theorem vSize_le (m : Nat) (k : Nat) (h : m < 128 ^ (k + 1)) : vSize m ≤ k + 1 := by
  induction k generalizing m with
  | zero => rw [vSize_lt (by simpa using h)]; omega
  | succ k ih =>
    by_cases h1 : m < 128
    · rw [vSize_lt h1]; omega
    · rw [vSize_ge h1]
      have := ih (m / 128) (by rw [Nat.div_lt_iff_lt_mul (by decide)]; rw [Nat.pow_succ] at h; omega)
      omega
theorem vSize_pos (m : Nat) : 1 ≤ vSize m := by rw [vSize]; split <;> omega
theorem vSize_10 (m : Nat) (h : m < 18446744073709551616) : vSize m ≤ 10 := vSize_le m 9 (show m < 1180591620717411303424 by omega)
theorem ev_none {α : Type} {r : α} {p : Prop} (h : (none : Option α) = some r) : p := by cases h

end Go.Proofs.Ytpojamikfcmnoaa.X
-- by xprint.py, a program of this session, over the kit's print.py
namespace Go.Proofs.Ytpojamikfcmnoaa.X
open Go.RowKit Go.Proofs.YtpojamikfcmnoaaW.PrintWords Go.Proofs.YtpojamikfcmnoaaW.PrintLast Go.Proofs.YtpojamikfcmnoaaW.PrintMore
attribute [local go_sem] max2_int min2_int max_two min_two max_three min_three max_four min_four   -- for this text's walks alone
set_option linter.unusedVariables false
set_option linter.unusedSimpArgs false

theorem wf_u64 {a : Int} (h : (Lit.int .u64 a).wf = true) : 0 ≤ a ∧ a < 18446744073709551616 := by
  have e1 : IntKind.u64.min = 0 := by decide
  have e2 : IntKind.u64.max = 18446744073709551615 := by decide
  simp only [Lit.wf, Bool.and_eq_true, decide_eq_true_eq, e1, e2] at h; omega
theorem wf_i64 {a : Int} (h : (Lit.int .i64 a).wf = true) : -9223372036854775808 ≤ a ∧ a < 9223372036854775808 := by
  have e1 : IntKind.i64.min = -9223372036854775808 := by decide
  have e2 : IntKind.i64.max = 9223372036854775807 := by decide
  simp only [Lit.wf, Bool.and_eq_true, decide_eq_true_eq, e1, e2] at h; omega
theorem wf_u8 {a : Int} (h : (Lit.int .u8 a).wf = true) : 0 ≤ a ∧ a < 256 := by
  have e1 : IntKind.u8.min = 0 := by decide
  have e2 : IntKind.u8.max = 255 := by decide
  simp only [Lit.wf, Bool.and_eq_true, decide_eq_true_eq, e1, e2] at h; omega
theorem wrap64_id {x : Int} (h0 : -9223372036854775808 ≤ x) (h1 : x < 9223372036854775808) : wrap64 x = x := by unfold wrap64; omega
theorem u64_id {x : Int} (h0 : 0 ≤ x) (h1 : x < 18446744073709551616) : IntKind.u64.wrap x = x := by rw [u64_wrap]; omega

end Go.Proofs.Ytpojamikfcmnoaa.X
-- by xprint.py, a program of this session, over the kit's print.py
namespace Go.Proofs.Ytpojamikfcmnoaa.X
open Go.RowKit Go.Proofs.YtpojamikfcmnoaaW.PrintWords Go.Proofs.YtpojamikfcmnoaaW.PrintLast Go.Proofs.YtpojamikfcmnoaaW.PrintMore
attribute [local go_sem] max2_int min2_int max_two min_two max_three min_three max_four min_four   -- for this text's walks alone
set_option linter.unusedVariables false
set_option linter.unusedSimpArgs false

theorem archTrunc_run (x : Nat) (h : (Ieee.double.read x).isNaN = false) (w : World) : (callFunc 93 #[.float .f64 x]).run Try.prog w = .ok (.value (.float .f64 (truncB x))) w := by
  rw [run_callFunc_extern Try.func93 (by kernel_rfl) (by kernel_rfl) (by kernel_rfl) (e := Extern.MathFloor.toIntegral "math.archTrunc" .zero) (by kernel_rfl)]
  have e : (Extern.MathFloor.toIntegral "math.archTrunc" .zero #[.float .f64 x]).run Try.prog w = .ok (.float .f64 (truncB x)) w := by
    show (match FloatKind.f64.decode x with
      | .nan s t =>
        if FloatKind.f64.format.quiet t = t then pure (Value.float .f64 x) else do
        let kept ← choose (.extern "math.Floor,Ceil,Trunc,RoundToEven.signallingNaN kept" 2)
        pure (Value.float .f64 (if kept == 1 then x else FloatKind.f64.encode (.nan s (FloatKind.f64.format.quiet t))))
      | d => pure (Value.float .f64 (FloatKind.f64.encode (d.integral .zero)))).run Try.prog w = _
    unfold truncB
    have hd : FloatKind.f64.decode x = Ieee.double.read x := rfl
    rw [hd]
    cases hr : Ieee.double.read x with
    | nan s n => rw [hr] at h; cases h
    | infinity s => rfl
    | number s m p => rfl
  rw [e]; rfl
theorem float64bits_run (x : Nat) (w : World) : (callFunc 95 #[.float .f64 x]).run Try.prog w = .ok (.value (.int .u64 (x : Int))) w := by
  rw [run_callFunc_extern Try.func95 (by kernel_rfl) (by kernel_rfl) (by kernel_rfl) (e := Extern.MathFloatBits.float64bits) (by kernel_rfl)]
  rfl
theorem math_Trunc.calls (x : Nat) (h : (Ieee.double.read x).isNaN = false) (w : World) :
    Calls Try.prog 90 #[.float .f64 x] w fun e w' => e = .returned (.float .f64 (truncB x)) ∧ w' = w := by
  have hd := archTrunc_run x h
  clear h
  go_enter Try.func90, Try.ntmps90
  go_wp2
  go_ret
  exact ⟨rfl, rfl⟩
theorem signB_i64 (x : Nat) : decide (wrap64 (x : Int) < 0) = signB x := by
  unfold signB
  unfold wrap64
  rw [decide_eq_decide]
  omega
theorem math_Signbit.calls (x : Nat) (w : World) :
    Calls Try.prog 91 #[.float .f64 x] w fun e w' => e = .returned (.bool (signB x)) ∧ w' = w := by
  have hd := float64bits_run x
  have hs := signB_i64 x
  go_enter Try.func91, Try.ntmps91
  go_wp2
  go_ret
  exact ⟨by rw [← hs]; rfl, rfl⟩

theorem gauss_part.calls (x : Nat) (w : World) :
    Calls Try.prog 83 #[.float .f64 x] w fun e w' => e = .returned (.bool (partE x)) ∧ w' = w := by
  have hu : partE x = ((Ieee.double.order x 13920626448202203136 == some .gt || Ieee.double.order x 13920626448202203136 == some .eq) && ((Ieee.double.order x 4697254411347427328 == some .lt || Ieee.double.order x 4697254411347427328 == some .eq) && (Ieee.double.order x (truncB x) == some .eq && !(Ieee.double.order x 0 == some .eq && signB x)))) := rfl
  cases h1 : (FloatKind.f64.format.order x 13920626448202203136 == some .gt || FloatKind.f64.format.order x 13920626448202203136 == some .eq) with
  | false =>
    rw [show (Ieee.double.order x 13920626448202203136 == some .gt || Ieee.double.order x 13920626448202203136 == some .eq) = false from h1, Bool.false_and] at hu
    have hf := Aside0.mk hu
    clear hu
    go_enter Try.func83, Try.ntmps83
    go_wp2
    go_ret
    exact ⟨by rw [hf.out]; rfl, rfl⟩
  | true =>
    rw [show (Ieee.double.order x 13920626448202203136 == some .gt || Ieee.double.order x 13920626448202203136 == some .eq) = true from h1, Bool.true_and] at hu
    cases h2 : (FloatKind.f64.format.order x 4697254411347427328 == some .lt || FloatKind.f64.format.order x 4697254411347427328 == some .eq) with
    | false =>
      rw [show (Ieee.double.order x 4697254411347427328 == some .lt || Ieee.double.order x 4697254411347427328 == some .eq) = false from h2, Bool.false_and] at hu
      have hf := Aside0.mk hu
      clear hu
      go_enter Try.func83, Try.ntmps83
      go_wp2
      go_ret
      exact ⟨by rw [hf.out]; rfl, rfl⟩
    | true =>
      rw [show (Ieee.double.order x 4697254411347427328 == some .lt || Ieee.double.order x 4697254411347427328 == some .eq) = true from h2, Bool.true_and] at hu
      have hn : (Ieee.double.read x).isNaN = false := by
        cases hr : Ieee.double.read x with
        | nan s n =>
          have h3 : FloatKind.f64.format.order x 13920626448202203136 = none := order_nan hr
          rw [h3] at h1; cases h1
        | infinity s => rfl
        | number s m p => rfl
      cases h3 : (FloatKind.f64.format.order x (truncB x) == some .eq) with
      | false =>
        rw [show (Ieee.double.order x (truncB x) == some .eq) = false from h3, Bool.false_and] at hu
        have hf := Aside0.mk hu
        clear hu
        go_enter Try.func83, Try.ntmps83
        go_wp2_with (first | (fail))
        refine (math_Trunc.calls x hn _).mono ?_
        rintro e w8 ⟨rfl, rfl⟩
        go_wp2_with (first | (fail))
        go_ret
        exact ⟨by rw [hf.out]; rfl, rfl⟩
      | true =>
        rw [show (Ieee.double.order x (truncB x) == some .eq) = true from h3, Bool.true_and] at hu
        cases h4 : (FloatKind.f64.format.order x 0 == some .eq) with
        | false =>
          rw [show (Ieee.double.order x 0 == some .eq) = false from h4, Bool.false_and, Bool.not_false] at hu
          have hf := Aside0.mk hu
          clear hu
          go_enter Try.func83, Try.ntmps83
          go_wp2_with (first | (fail))
          refine (math_Trunc.calls x hn _).mono ?_
          rintro e w8 ⟨rfl, rfl⟩
          go_wp2_with (first | (fail))
          go_ret
          exact ⟨by rw [hf.out]; rfl, rfl⟩
        | true =>
          rw [show (Ieee.double.order x 0 == some .eq) = true from h4, Bool.true_and] at hu
          have hf := Aside0.mk hu
          clear hu
          go_enter Try.func83, Try.ntmps83
          go_wp2_with (first | (fail))
          refine (math_Trunc.calls x hn _).mono ?_
          rintro e w8 ⟨rfl, rfl⟩
          go_wp2_with (first | (fail))
          refine (math_Signbit.calls x _).mono ?_
          rintro e w9 ⟨rfl, rfl⟩
          go_wp2_with (first | (fail))
          go_ret
          exact ⟨by rw [hf.out]; rfl, rfl⟩
def mayE (l : List (Nat × Nat)) : Bool := l.all fun z => partE z.1 && partE z.2
theorem mayE_snoc (l : List (Nat × Nat)) (i : Nat) (h : i < l.length) : mayE (l.take (i + 1)) = (mayE (l.take i) && (partE (l.getD i (0, 0)).1 && partE (l.getD i (0, 0)).2)) := by
  unfold mayE
  rw [List.take_succ_eq_append_getElem h, List.all_append]
  simp [List.getD_eq_getElem?_getD, h]
theorem mayE_false (l : List (Nat × Nat)) (i : Nat) (h : i < l.length) (g : (partE (l.getD i (0, 0)).1 && partE (l.getD i (0, 0)).2) = false) : mayE l = false := by
  unfold mayE
  rw [List.all_eq_false]
  refine ⟨l[i], List.getElem_mem h, ?_⟩
  have e : l.getD i (0, 0) = l[i] := by simp [List.getD_eq_getElem?_getD, h]
  rw [e] at g; rw [g]; exact Bool.false_ne_true
set_option maxHeartbeats 8000000 in
theorem gauss_may.calls (a : Addr) (c : Nat) (l : List (Nat × Nat)) (w : World) (hc : l.length ≤ c) (hb : l.length ≤ 100) (hr : ∀ i, i < l.length → w.cell? (a.add i) = some (.complex .f64 (l.getD i (0, 0)).1 (l.getD i (0, 0)).2)) :
    Calls Try.prog 55 #[.slice (some a) l.length c] w fun e w' => e = .returned (.bool (mayE l)) ∧ w' = w := by
  have HR := Aside0.mk hr
  have HB := Aside0.mk hb
  clear hr hb
  go_enter Try.func55, Try.ntmps55
  go_wp2
  go_loopg [7] l.length (fun kq v7 w' => ∃ i : Nat, v7 = .int .i64 i ∧ Aside0 (i + kq = l.length) ∧ i ≤ l.length ∧ Aside0 (w' = w) ∧ Aside0 (mayE (l.take i) = true))
  case atStart => exact ⟨0, rfl, ⟨by omega⟩, Nat.zero_le _, ⟨rfl⟩, ⟨by rw [List.take_zero]; rfl⟩⟩
  case round =>
    obtain ⟨i, rfl, HK, hi, ⟨hw⟩, HM⟩ := hrel
    subst hw
    by_cases hlt : i < l.length
    · have hlt' : decide ((i : Int) < (l.length : Int)) = true := by simpa using hlt
      obtain ⟨k1, rfl⟩ : ∃ m, gk = m + 1 := ⟨gk - 1, by have := HK.out; omega⟩
      have Hw : Aside0 (wrap64 ((i : Int) + 1) = (i : Int) + 1) := ⟨by have := HB.out; exact wrap64_id (by omega) (by omega)⟩
      have hx := HR.out i hlt
      have p1 : (0 ≤ (i : Int)) = True := eq_true (Int.natCast_nonneg i)
      have q1 : ((i : Int) < (l.length : Int)) = True := eq_true (by omega)
      have hs := mayE_snoc l i hlt
      have hf := mayE_false l i hlt
      generalize hg1 : (l.getD i (0, 0)).1 = g1 at *
      generalize hg2 : (l.getD i (0, 0)).2 = g2 at *
      have HX := Aside0.mk hs
      have HF := Aside0.mk hf
      clear hs hf hg1 hg2
      go_wp2_with (first | (fail))
      refine (gauss_part.calls g1 _).mono ?_
      rintro e w8 ⟨rfl, rfl⟩
      cases hp1 : partE g1 with
      | false =>
        go_wp2_with (first | (fail))
        go_ret
        exact ⟨by rw [HF.out (by rw [hp1]; rfl)]; rfl, rfl⟩
      | true =>
        go_wp2_with (first | (fail))
        refine (gauss_part.calls g2 _).mono ?_
        rintro e w8 ⟨rfl, rfl⟩
        cases hp2 : partE g2 with
        | false =>
          go_wp2_with (first | (fail))
          go_ret
          exact ⟨by rw [HF.out (by rw [hp1, hp2]; rfl)]; rfl, rfl⟩
        | true =>
          go_wp2_with (first | (fail))
          go_roundg k1
          case measure => have := HK.out; omega
          case rel => exact ⟨i + 1, by rw [Hw.out]; rfl, ⟨by have := HK.out; omega⟩, by omega, ⟨rfl⟩, ⟨by rw [HX.out, HM.out, hp1, hp2]; rfl⟩⟩
    · have hlt' : decide ((i : Int) < (l.length : Int)) = false := by simpa using hlt
      have Hi : Aside0 (l.take i = l) := ⟨List.take_of_length_le (by omega)⟩
      go_wp2_with (first | (fail))
      go_ret
      exact ⟨by rw [← HM.out, Hi.out]; rfl, rfl⟩
theorem gauss_clean.calls (re im cr ci : Nat) (h1 : floatBits .add .f64 re 0 = some cr) (h2 : floatBits .add .f64 im 0 = some ci) (w : World) :
    Calls Try.prog 82 #[.complex .f64 re im] w fun e w' => e = .returned (.complex .f64 cr ci) ∧ w' = w := by
  have r1 := fun w => run_float_arith (P := Try.prog) w .add 47 .f64 re 0 cr h1
  have r2 := fun w => run_float_arith (P := Try.prog) w .add 47 .f64 im 0 ci h2
  clear h1 h2
  go_enter Try.func82, Try.ntmps82
  go_wp2
  go_ret
  exact ⟨rfl, rfl⟩
def doneS (cr ci : Nat) (l : List (Nat × Nat)) : Nat × Nat × Int := if mayE l && (partE cr && partE ci) then (cr, ci, 0) else (0, 0, 17)
theorem cells_one (w : World) (x y : Nat) (t : TypeId) : ∀ i, i < [(x, y)].length → (w.alloc (.cells #[.complex .f64 x y] t)).cell? ((⟨w.heap.size, 0, none⟩ : Addr).add i) = some (.complex .f64 ([(x, y)].getD i (0, 0)).1 ([(x, y)].getD i (0, 0)).2) := by
  intro i hi
  obtain rfl : i = 0 := by simpa using hi
  simp [Addr.add]
theorem cells_two (w : World) (x y u v : Nat) (t : TypeId) : ∀ i, i < [(x, y), (u, v)].length → (w.alloc (.cells #[.complex .f64 x y, .complex .f64 u v] t)).cell? ((⟨w.heap.size, 0, none⟩ : Addr).add i) = some (.complex .f64 ([(x, y), (u, v)].getD i (0, 0)).1 ([(x, y), (u, v)].getD i (0, 0)).2) := by
  intro i hi
  have : i = 0 ∨ i = 1 := by simp at hi; omega
  rcases this with rfl | rfl <;> simp [Addr.add]
set_option maxHeartbeats 8000000 in
theorem gauss_done.calls (re im cr ci : Nat) (h1 : floatBits .add .f64 re 0 = some cr) (h2 : floatBits .add .f64 im 0 = some ci) (a : Addr) (c : Nat) (l : List (Nat × Nat)) (w : World) (hc : l.length ≤ c) (hb : l.length ≤ 100) (hr : ∀ i, i < l.length → w.cell? (a.add i) = some (.complex .f64 (l.getD i (0, 0)).1 (l.getD i (0, 0)).2)) :
    Calls Try.prog 54 #[.complex .f64 re im, .slice (some a) l.length c] w fun e w' => e = .returned (.tuple #[.complex .f64 (doneS cr ci l).1 (doneS cr ci l).2.1, .int .i64 (doneS cr ci l).2.2]) ∧ Below w.heap.size w w' := by
  have HR := Aside0.mk hr
  have HB := Aside0.mk hb
  have HC := Aside0.mk hc
  have H1 := Aside0.mk h1
  have H2 := Aside0.mk h2
  clear hr hb hc h1 h2
  go_enter Try.func54, Try.ntmps54
  go_wp2_with (first | (fail))
  refine (gauss_clean.calls re im cr ci H1.out H2.out _).mono ?_
  rintro e w8 ⟨rfl, rfl⟩
  go_wp2_with (first | (fail))
  refine (gauss_may.calls a c l _ HC.out HB.out HR.out).mono ?_
  rintro e w8 ⟨rfl, rfl⟩
  cases hm : mayE l with
  | false =>
    go_wp2_with (first | (fail))
    go_ret2
    exact ⟨by unfold doneS; rw [hm]; rfl, Below.refl _ _⟩
  | true =>
    go_wp2_with (first | (fail))
    have Hz := Aside0.mk (cells_one w8 cr ci 26)
    refine (gauss_may.calls ⟨w8.heap.size, 0, none⟩ 1 [(cr, ci)] _ (Nat.le_refl _) (by simp) Hz.out).mono ?_
    rintro e w9 ⟨rfl, rfl⟩
    have hz : mayE [(cr, ci)] = (partE cr && partE ci) := by unfold mayE; simp
    rw [hz]
    cases hp : (partE cr && partE ci) with
    | false =>
      go_wp2_with (first | (fail))
      go_ret2
      exact ⟨by unfold doneS; rw [hm, hp]; rfl, below_alloc (Below.refl _ _) _⟩
    | true =>
      go_wp2_with (first | (fail))
      go_ret2
      exact ⟨by unfold doneS; rw [hm, hp]; rfl, below_alloc (Below.refl _ _) _⟩
theorem gauss_Add.calls (a b c d re im cr ci : Nat) (h1 : floatBits .add .f64 a c = some re) (h2 : floatBits .add .f64 b d = some im) (h3 : floatBits .add .f64 re 0 = some cr) (h4 : floatBits .add .f64 im 0 = some ci) (w : World) :
    Calls Try.prog 15 #[.complex .f64 a b, .complex .f64 c d] w fun e w' => e = .returned (.tuple #[.complex .f64 (doneS cr ci [(a, b), (c, d)]).1 (doneS cr ci [(a, b), (c, d)]).2.1, .int .i64 (doneS cr ci [(a, b), (c, d)]).2.2]) ∧ Below w.heap.size w w' := by
  have r1 := fun w => run_complex_sum (P := Try.prog) w .add (Or.inl rfl) 26 .f64 a b c d re im (by unfold cSumBits; rw [h1, h2]; rfl)
  have H3 := Aside0.mk h3
  have H4 := Aside0.mk h4
  clear h1 h2 h3 h4
  go_enter Try.func15, Try.ntmps15
  go_wp2_with (first | (fail))
  have Hz := Aside0.mk (cells_two w a b c d 26)
  refine (gauss_done.calls re im cr ci H3.out H4.out ⟨w.heap.size, 0, none⟩ 2 [(a, b), (c, d)] _ (Nat.le_refl _) (by simp) Hz.out).mono ?_
  rintro e w9 ⟨rfl, hb⟩
  have HB := Aside0.mk (below_step (below_alloc (Below.refl w.heap.size w) _) hb)
  clear hb
  go_wp2_with (first | (fail))
  go_ret2
  exact ⟨rfl, HB.out⟩
theorem gauss_Sub.calls (a b c d re im cr ci : Nat) (h1 : floatBits .sub .f64 a c = some re) (h2 : floatBits .sub .f64 b d = some im) (h3 : floatBits .add .f64 re 0 = some cr) (h4 : floatBits .add .f64 im 0 = some ci) (w : World) :
    Calls Try.prog 16 #[.complex .f64 a b, .complex .f64 c d] w fun e w' => e = .returned (.tuple #[.complex .f64 (doneS cr ci [(a, b), (c, d)]).1 (doneS cr ci [(a, b), (c, d)]).2.1, .int .i64 (doneS cr ci [(a, b), (c, d)]).2.2]) ∧ Below w.heap.size w w' := by
  have r1 := fun w => run_complex_sum (P := Try.prog) w .sub (Or.inr rfl) 26 .f64 a b c d re im (by unfold cSumBits; rw [h1, h2]; rfl)
  have H3 := Aside0.mk h3
  have H4 := Aside0.mk h4
  clear h1 h2 h3 h4
  go_enter Try.func16, Try.ntmps16
  go_wp2_with (first | (fail))
  have Hz := Aside0.mk (cells_two w a b c d 26)
  refine (gauss_done.calls re im cr ci H3.out H4.out ⟨w.heap.size, 0, none⟩ 2 [(a, b), (c, d)] _ (Nat.le_refl _) (by simp) Hz.out).mono ?_
  rintro e w9 ⟨rfl, hb⟩
  have HB := Aside0.mk (below_step (below_alloc (Below.refl w.heap.size w) _) hb)
  clear hb
  go_wp2_with (first | (fail))
  go_ret2
  exact ⟨rfl, HB.out⟩
theorem gauss_Mul.calls (a b c d re im cr ci : Nat) (h1 : cMulBits a b c d = some (re, im)) (h3 : floatBits .add .f64 re 0 = some cr) (h4 : floatBits .add .f64 im 0 = some ci) (w : World) :
    Calls Try.prog 17 #[.complex .f64 a b, .complex .f64 c d] w fun e w' => e = .returned (.tuple #[.complex .f64 (doneS cr ci [(a, b), (c, d)]).1 (doneS cr ci [(a, b), (c, d)]).2.1, .int .i64 (doneS cr ci [(a, b), (c, d)]).2.2]) ∧ Below w.heap.size w w' := by
  have r1 := fun w => run_complex_mul (P := Try.prog) w 26 a b c d re im h1
  have H3 := Aside0.mk h3
  have H4 := Aside0.mk h4
  clear h1 h3 h4
  go_enter Try.func17, Try.ntmps17
  go_wp2_with (first | (fail))
  have Hz := Aside0.mk (cells_two w a b c d 26)
  refine (gauss_done.calls re im cr ci H3.out H4.out ⟨w.heap.size, 0, none⟩ 2 [(a, b), (c, d)] _ (Nat.le_refl _) (by simp) Hz.out).mono ?_
  rintro e w9 ⟨rfl, hb⟩
  have HB := Aside0.mk (below_step (below_alloc (Below.refl w.heap.size w) _) hb)
  clear hb
  go_wp2_with (first | (fail))
  go_ret2
  exact ⟨rfl, HB.out⟩
theorem gauss_Neg.calls (a b cr ci : Nat) (h3 : floatBits .add .f64 (Op.negFloat .f64 a) 0 = some cr) (h4 : floatBits .add .f64 (Op.negFloat .f64 b) 0 = some ci) (w : World) :
    Calls Try.prog 13 #[.complex .f64 a b] w fun e w' => e = .returned (.tuple #[.complex .f64 (doneS cr ci [(a, b)]).1 (doneS cr ci [(a, b)]).2.1, .int .i64 (doneS cr ci [(a, b)]).2.2]) ∧ Below w.heap.size w w' := by
  have r1 : ∀ w, (Op.unary .neg (.complex .f64 a b)).run Try.prog w = .ok (.complex .f64 (Op.negFloat .f64 a) (Op.negFloat .f64 b)) w := fun w => rfl
  have H3 := Aside0.mk h3
  have H4 := Aside0.mk h4
  clear h3 h4
  go_enter Try.func13, Try.ntmps13
  go_wp2_with (first | (fail))
  have Hz := Aside0.mk (cells_one w a b 26)
  refine (gauss_done.calls _ _ cr ci H3.out H4.out ⟨w.heap.size, 0, none⟩ 1 [(a, b)] _ (Nat.le_refl _) (by simp) Hz.out).mono ?_
  rintro e w9 ⟨rfl, hb⟩
  have HB := Aside0.mk (below_step (below_alloc (Below.refl w.heap.size w) _) hb)
  clear hb
  go_wp2_with (first | (fail))
  go_ret2
  exact ⟨rfl, HB.out⟩
theorem law06_Of.calls (a b : Int) (w : World) :
    Calls Try.prog 14 #[.agg #[.int .i64 a, .int .i64 b]] w fun e w' => e = .returned (.complex .f64 (floatOfInt .f64 a) (floatOfInt .f64 b)) ∧ Below w.heap.size w w' := by
  go_enter Try.func14, Try.ntmps14
  go_wp2
  go_ret
  exact ⟨rfl, below_alloc (Below.refl _ _) _⟩

theorem float32bits_run (x : Nat) (w : World) : (callFunc 84 #[.float .f32 x]).run Try.prog w = .ok (.value (.int .u32 (x : Int))) w := by
  rw [run_callFunc_extern Try.func84 (by kernel_rfl) (by kernel_rfl) (by kernel_rfl) (e := Extern.MathFloatBits.float32bits) (by kernel_rfl)]
  rfl
theorem float32frombits_run (v : Int) (w : World) : (callFunc 60 #[.int .u32 v]).run Try.prog w = .ok (.value (.float .f32 v.toNat)) w := by
  rw [run_callFunc_extern Try.func60 (by kernel_rfl) (by kernel_rfl) (by kernel_rfl) (e := Extern.MathFloatBits.float32frombits) (by kernel_rfl)]
  rfl
theorem four_string (a b c d : Int) (W : World) : (convert 109 9 (.slice (some ⟨W.heap.size, 0, none⟩) 4 4)).run Try.prog (W.alloc (Obj.cells #[.int .u8 a, .int .u8 b, .int .u8 c, .int .u8 d] 5)) = .ok (.string (strOfNums [a, b, c, d])) (W.alloc (Obj.cells #[.int .u8 a, .int .u8 b, .int .u8 c, .int .u8 d] 5)) := by
  refine string_of_reads Try.underlying109 Try.underlying5 Try.underlying9 ⟨rfl, by decide, fun _ => ⟨_, rfl, ?_⟩⟩
  intro j hj
  have : j = 0 ∨ j = 1 ∨ j = 2 ∨ j = 3 := by omega
  rcases this with rfl | rfl | rfl | rfl <;> simp [Addr.add]
def laidV (v : Nat) : ByteArray := strOfNums [(v : Int) % 256, (v : Int) / 256 % 256, (v : Int) / 65536 % 256, (v : Int) / 16777216 % 256]
theorem laidV_size (v : Nat) : (laidV v).size = 4 := strOfNums_size _
set_option maxHeartbeats 8000000 in
set_option maxRecDepth 100000 in
theorem gauss_laid.calls (x v : Nat) (h1 : floatToFloatBits .f64 x .f32 = some v) (w : World) :
    Calls Try.prog 56 #[.float .f64 x] w fun e w' => e = .returned (.string (laidV v)) ∧ Below w.heap.size w w' := by
  have r1 := fun w => run_convert_float_float (P := Try.prog) w 47 96 .f64 .f32 x v (by rw [Try.underlying47]; rfl) Try.underlying96 h1
  have r2 := float32bits_run v
  have r3 := four_string ((v : Int) % 256) ((v : Int) / 256 % 256) ((v : Int) / 65536 % 256) ((v : Int) / 16777216 % 256)
  clear h1
  go_enter Try.func56, Try.ntmps56
  go_wp2
  go_ret
  exact ⟨rfl, below_alloc (Below.refl _ _) _⟩
set_option maxHeartbeats 8000000 in
theorem gauss_Put.calls (re im v u : Nat) (hm : mayE [(re, im)] = true) (h1 : floatToFloatBits .f64 re .f32 = some v) (h2 : floatToFloatBits .f64 im .f32 = some u) (w : World) :
    Calls Try.prog 19 #[.complex .f64 re im] w fun e w' => e = .returned (.tuple #[.string (laidV v ++ laidV u), .int .i64 0]) ∧ Below w.heap.size w w' := by
  have H1 := Aside0.mk h1
  have H2 := Aside0.mk h2
  have HM := Aside0.mk hm
  have s1 := laidV_size v
  have s2 := laidV_size u
  clear h1 h2 hm
  go_enter Try.func19, Try.ntmps19
  go_wp2_with (first | (fail))
  have Hz := Aside0.mk (cells_one w re im 26)
  refine (gauss_may.calls ⟨w.heap.size, 0, none⟩ 1 [(re, im)] _ (Nat.le_refl _) (by simp) Hz.out).mono ?_
  rintro e w9 ⟨rfl, rfl⟩
  rw [HM.out]
  have HB := Aside0.mk (below_alloc (Below.refl w.heap.size w) (Obj.cells #[.complex .f64 re im] 26))
  go_wp2_with (first | (fail))
  refine (gauss_laid.calls re v H1.out _).mono ?_
  rintro e w9 ⟨rfl, hb⟩
  have n0_ := Aside0.mk (below_step HB.out hb)
  clear HB hb
  have HB := n0_
  clear n0_
  go_wp2_with (first | (fail))
  refine (gauss_laid.calls im u H2.out _).mono ?_
  rintro e w10 ⟨rfl, hb⟩
  have n0_ := Aside0.mk (below_step HB.out hb)
  clear HB hb
  have HB := n0_
  clear n0_
  have hz : ¬ (9223372036854775807 < (laidV v).size + (laidV u).size) := by omega
  have hz2 : (9223372036854775807 < (laidV v).size + (laidV u).size) = False := eq_false hz
  go_wp2_with (first | (fail))
  go_ret2
  exact ⟨rfl, HB.out⟩
theorem gauss_Put.refused (re im : Nat) (hm : mayE [(re, im)] = false) (w : World) :
    Calls Try.prog 19 #[.complex .f64 re im] w fun e w' => e = .returned (.tuple #[.string ⟨#[]⟩, .int .i64 17]) ∧ Below w.heap.size w w' := by
  have HM := Aside0.mk hm
  clear hm
  go_enter Try.func19, Try.ntmps19
  go_wp2_with (first | (fail))
  have Hz := Aside0.mk (cells_one w re im 26)
  refine (gauss_may.calls ⟨w.heap.size, 0, none⟩ 1 [(re, im)] _ (Nat.le_refl _) (by simp) Hz.out).mono ?_
  rintro e w9 ⟨rfl, rfl⟩
  rw [HM.out]
  have HB := Aside0.mk (below_alloc (Below.refl w.heap.size w) (Obj.cells #[.complex .f64 re im] 26))
  go_wp2_with (first | (fail))
  go_ret2
  exact ⟨rfl, HB.out⟩

end Go.Proofs.Ytpojamikfcmnoaa.X
