import Derived.Test.YtdemgfbolcmcdaaMOpsAll3
import Derived.Laws.BitsAllLaws
import Derived.WalkLawsBesides
import Derived.Laws.Externs
namespace Go.Proofs.Ytdemgfbolcmcdaa.X
open Go.RowKit Go.Proofs.YtdemgfbolcmcdaaW.PrintWords Go.Proofs.YtdemgfbolcmcdaaW.PrintLast Go.Proofs.YtdemgfbolcmcdaaW.PrintMore
attribute [local go_sem] max2_int min2_int max_two min_two max_three min_three max_four min_four
set_option linter.unusedVariables false
set_option linter.unusedSimpArgs false
def ns (s : ByteArray) : List Nat := s.data.toList.map UInt8.toNat
theorem ns_length (s : ByteArray) : (ns s).length = s.size := by simp [ns]
theorem ns_get (s : ByteArray) (i : Nat) (h : i < s.size) : (ns s)[i]'(by rw [ns_length]; exact h) = (s[i]'h).toNat := by simp [ns]; rfl
theorem ns_drop (s : ByteArray) (i : Nat) (h : i < s.size) : (ns s).drop i = (s[i]'h).toNat :: (ns s).drop (i + 1) := by
  rw [List.drop_eq_getElem_cons (by rw [ns_length]; exact h), ns_get s i h]
theorem ns_drop_end (s : ByteArray) (i : Nat) (h : s.size ≤ i) : (ns s).drop i = [] := by
  rw [List.drop_eq_nil_iff, ns_length]; exact h
theorem bt_ns (s : ByteArray) (i : Nat) (h : i < s.size) : bt s i = ((s[i]'h).toNat : Int) := by simp [bt, h]
end Go.Proofs.Ytdemgfbolcmcdaa.X
namespace Go.Proofs.Ytdemgfbolcmcdaa.X
open Go.RowKit Go.Proofs.YtdemgfbolcmcdaaW.PrintWords Go.Proofs.YtdemgfbolcmcdaaW.PrintLast Go.Proofs.YtdemgfbolcmcdaaW.PrintMore
attribute [local go_sem] max2_int min2_int max_two min_two max_three min_three max_four min_four
set_option linter.unusedVariables false
set_option linter.unusedSimpArgs false
theorem wrap64_id {x : Int} (h0 : -9223372036854775808 ≤ x) (h1 : x < 9223372036854775808) : wrap64 x = x := by unfold wrap64; omega
end Go.Proofs.Ytdemgfbolcmcdaa.X
namespace Go.Proofs.Ytdemgfbolcmcdaa.X
open Go.RowKit Go.Proofs.YtdemgfbolcmcdaaW.PrintWords Go.Proofs.YtdemgfbolcmcdaaW.PrintLast Go.Proofs.YtdemgfbolcmcdaaW.PrintMore
attribute [local go_sem] max2_int min2_int max_two min_two max_three min_three max_four min_four
set_option linter.unusedVariables false
set_option linter.unusedSimpArgs false
theorem archTrunc_run (x : Nat) (h : (Ieee.double.read x).isNaN = false) (w : World) : (callFunc 100 #[.float .f64 x]).run Try.prog w = .ok (.value (.float .f64 (truncB x))) w := by
  rw [run_callFunc_extern Try.func100 (by kernel_rfl) (by kernel_rfl) (by kernel_rfl) (e := Extern.MathFloor.toIntegral "math.archTrunc" .zero) (by kernel_rfl)]
  have e : (Extern.MathFloor.toIntegral "math.archTrunc" .zero #[.float .f64 x]).run Try.prog w = .ok (.float .f64 (truncB x)) w := by
    show (match FloatKind.f64.decode x with
      | .nan s t =>
        if FloatKind.f64.format.quiet t = t then pure (Value.float .f64 x) else do
        let kept ← choose (.extern "math.Floor,Ceil,Trunc,RoundToEven.signallingNaN kept" 2)
        pure (Value.float .f64 (if kept == 1 then x else FloatKind.f64.encode (.nan s (FloatKind.f64.format.quiet t))))
      | d => pure (Value.float .f64 (FloatKind.f64.encode (d.integral .zero)))).run Try.prog w = _
    unfold truncB
    have hd : FloatKind.f64.decode x = Ieee.double.read x := rfl
    rw [hd]
    cases hr : Ieee.double.read x with
    | nan s n => rw [hr] at h; cases h
    | infinity s => rfl
    | number s m p => rfl
  rw [e]; rfl
theorem float64bits_run (x : Nat) (w : World) : (callFunc 102 #[.float .f64 x]).run Try.prog w = .ok (.value (.int .u64 (x : Int))) w := by
  rw [run_callFunc_extern Try.func102 (by kernel_rfl) (by kernel_rfl) (by kernel_rfl) (e := Extern.MathFloatBits.float64bits) (by kernel_rfl)]
  rfl
theorem math_Trunc.calls (x : Nat) (h : (Ieee.double.read x).isNaN = false) (w : World) :
    Calls Try.prog 98 #[.float .f64 x] w fun e w' => e = .returned (.float .f64 (truncB x)) ∧ w' = w := by
  have hd := archTrunc_run x h
  clear h
  go_enter Try.func98, Try.ntmps98
  go_wp2
  go_ret
  exact ⟨rfl, rfl⟩
theorem signB_i64 (x : Nat) : decide (wrap64 (x : Int) < 0) = signB x := by
  unfold signB
  unfold wrap64
  rw [decide_eq_decide]
  omega
theorem math_Signbit.calls (x : Nat) (w : World) :
    Calls Try.prog 99 #[.float .f64 x] w fun e w' => e = .returned (.bool (signB x)) ∧ w' = w := by
  have hd := float64bits_run x
  have hs := signB_i64 x
  go_enter Try.func99, Try.ntmps99
  go_wp2
  go_ret
  exact ⟨by rw [← hs]; rfl, rfl⟩
theorem gauss_part.calls (x : Nat) (w : World) :
    Calls Try.prog 97 #[.float .f64 x] w fun e w' => e = .returned (.bool (partE x)) ∧ w' = w := by
  have hu : partE x = ((Ieee.double.order x 13920626448202203136 == some .gt || Ieee.double.order x 13920626448202203136 == some .eq) && ((Ieee.double.order x 4697254411347427328 == some .lt || Ieee.double.order x 4697254411347427328 == some .eq) && (Ieee.double.order x (truncB x) == some .eq && !(Ieee.double.order x 0 == some .eq && signB x)))) := rfl
  cases h1 : (FloatKind.f64.format.order x 13920626448202203136 == some .gt || FloatKind.f64.format.order x 13920626448202203136 == some .eq) with
  | false =>
    rw [show (Ieee.double.order x 13920626448202203136 == some .gt || Ieee.double.order x 13920626448202203136 == some .eq) = false from h1, Bool.false_and] at hu
    have hf := Aside0.mk hu
    clear hu
    go_enter Try.func97, Try.ntmps97
    go_wp2
    go_ret
    exact ⟨by rw [hf.out]; rfl, rfl⟩
  | true =>
    rw [show (Ieee.double.order x 13920626448202203136 == some .gt || Ieee.double.order x 13920626448202203136 == some .eq) = true from h1, Bool.true_and] at hu
    cases h2 : (FloatKind.f64.format.order x 4697254411347427328 == some .lt || FloatKind.f64.format.order x 4697254411347427328 == some .eq) with
    | false =>
      rw [show (Ieee.double.order x 4697254411347427328 == some .lt || Ieee.double.order x 4697254411347427328 == some .eq) = false from h2, Bool.false_and] at hu
      have hf := Aside0.mk hu
      clear hu
      go_enter Try.func97, Try.ntmps97
      go_wp2
      go_ret
      exact ⟨by rw [hf.out]; rfl, rfl⟩
    | true =>
      rw [show (Ieee.double.order x 4697254411347427328 == some .lt || Ieee.double.order x 4697254411347427328 == some .eq) = true from h2, Bool.true_and] at hu
      have hn : (Ieee.double.read x).isNaN = false := by
        cases hr : Ieee.double.read x with
        | nan s n =>
          have h3 : FloatKind.f64.format.order x 13920626448202203136 = none := order_nan hr
          rw [h3] at h1; cases h1
        | infinity s => rfl
        | number s m p => rfl
      cases h3 : (FloatKind.f64.format.order x (truncB x) == some .eq) with
      | false =>
        rw [show (Ieee.double.order x (truncB x) == some .eq) = false from h3, Bool.false_and] at hu
        have hf := Aside0.mk hu
        clear hu
        go_enter Try.func97, Try.ntmps97
        go_wp2_with (first | (fail))
        refine (math_Trunc.calls x hn _).mono ?_
        rintro e w8 ⟨rfl, rfl⟩
        go_wp2_with (first | (fail))
        go_ret
        exact ⟨by rw [hf.out]; rfl, rfl⟩
      | true =>
        rw [show (Ieee.double.order x (truncB x) == some .eq) = true from h3, Bool.true_and] at hu
        cases h4 : (FloatKind.f64.format.order x 0 == some .eq) with
        | false =>
          rw [show (Ieee.double.order x 0 == some .eq) = false from h4, Bool.false_and, Bool.not_false] at hu
          have hf := Aside0.mk hu
          clear hu
          go_enter Try.func97, Try.ntmps97
          go_wp2_with (first | (fail))
          refine (math_Trunc.calls x hn _).mono ?_
          rintro e w8 ⟨rfl, rfl⟩
          go_wp2_with (first | (fail))
          go_ret
          exact ⟨by rw [hf.out]; rfl, rfl⟩
        | true =>
          rw [show (Ieee.double.order x 0 == some .eq) = true from h4, Bool.true_and] at hu
          have hf := Aside0.mk hu
          clear hu
          go_enter Try.func97, Try.ntmps97
          go_wp2_with (first | (fail))
          refine (math_Trunc.calls x hn _).mono ?_
          rintro e w8 ⟨rfl, rfl⟩
          go_wp2_with (first | (fail))
          refine (math_Signbit.calls x _).mono ?_
          rintro e w9 ⟨rfl, rfl⟩
          go_wp2_with (first | (fail))
          go_ret
          exact ⟨by rw [hf.out]; rfl, rfl⟩
def mayE (l : List (Nat × Nat)) : Bool := l.all fun z => partE z.1 && partE z.2
theorem mayE_snoc (l : List (Nat × Nat)) (i : Nat) (h : i < l.length) : mayE (l.take (i + 1)) = (mayE (l.take i) && (partE (l.getD i (0, 0)).1 && partE (l.getD i (0, 0)).2)) := by
  unfold mayE
  rw [List.take_succ_eq_append_getElem h, List.all_append]
  simp [List.getD_eq_getElem?_getD, h]
theorem mayE_false (l : List (Nat × Nat)) (i : Nat) (h : i < l.length) (g : (partE (l.getD i (0, 0)).1 && partE (l.getD i (0, 0)).2) = false) : mayE l = false := by
  unfold mayE
  rw [List.all_eq_false]
  refine ⟨l[i], List.getElem_mem h, ?_⟩
  have e : l.getD i (0, 0) = l[i] := by simp [List.getD_eq_getElem?_getD, h]
  rw [e] at g; rw [g]; exact Bool.false_ne_true
set_option maxHeartbeats 8000000 in
theorem gauss_may.calls (a : Addr) (c : Nat) (l : List (Nat × Nat)) (w : World) (hc : l.length ≤ c) (hb : l.length ≤ 100) (hr : ∀ i, i < l.length → w.cell? (a.add i) = some (.complex .f64 (l.getD i (0, 0)).1 (l.getD i (0, 0)).2)) :
    Calls Try.prog 93 #[.slice (some a) l.length c] w fun e w' => e = .returned (.bool (mayE l)) ∧ w' = w := by
  have HR := Aside0.mk hr
  have HB := Aside0.mk hb
  clear hr hb
  go_enter Try.func93, Try.ntmps93
  go_wp2
  go_loopg [7] l.length (fun kq v7 w' => ∃ i : Nat, v7 = .int .i64 i ∧ Aside0 (i + kq = l.length) ∧ i ≤ l.length ∧ Aside0 (w' = w) ∧ Aside0 (mayE (l.take i) = true))
  case atStart => exact ⟨0, rfl, ⟨by omega⟩, Nat.zero_le _, ⟨rfl⟩, ⟨by rw [List.take_zero]; rfl⟩⟩
  case round =>
    obtain ⟨i, rfl, HK, hi, ⟨hw⟩, HM⟩ := hrel
    subst hw
    by_cases hlt : i < l.length
    · have hlt' : decide ((i : Int) < (l.length : Int)) = true := by simpa using hlt
      obtain ⟨k1, rfl⟩ : ∃ m, gk = m + 1 := ⟨gk - 1, by have := HK.out; omega⟩
      have Hw : Aside0 (wrap64 ((i : Int) + 1) = (i : Int) + 1) := ⟨by have := HB.out; exact wrap64_id (by omega) (by omega)⟩
      have hx := HR.out i hlt
      have p1 : (0 ≤ (i : Int)) = True := eq_true (Int.natCast_nonneg i)
      have q1 : ((i : Int) < (l.length : Int)) = True := eq_true (by omega)
      have hs := mayE_snoc l i hlt
      have hf := mayE_false l i hlt
      generalize hg1 : (l.getD i (0, 0)).1 = g1 at *
      generalize hg2 : (l.getD i (0, 0)).2 = g2 at *
      have HX := Aside0.mk hs
      have HF := Aside0.mk hf
      clear hs hf hg1 hg2
      go_wp2_with (first | (fail))
      refine (gauss_part.calls g1 _).mono ?_
      rintro e w8 ⟨rfl, rfl⟩
      cases hp1 : partE g1 with
      | false =>
        go_wp2_with (first | (fail))
        go_ret
        exact ⟨by rw [HF.out (by rw [hp1]; rfl)]; rfl, rfl⟩
      | true =>
        go_wp2_with (first | (fail))
        refine (gauss_part.calls g2 _).mono ?_
        rintro e w8 ⟨rfl, rfl⟩
        cases hp2 : partE g2 with
        | false =>
          go_wp2_with (first | (fail))
          go_ret
          exact ⟨by rw [HF.out (by rw [hp1, hp2]; rfl)]; rfl, rfl⟩
        | true =>
          go_wp2_with (first | (fail))
          go_roundg k1
          case measure => have := HK.out; omega
          case rel => exact ⟨i + 1, by rw [Hw.out]; rfl, ⟨by have := HK.out; omega⟩, by omega, ⟨rfl⟩, ⟨by rw [HX.out, HM.out, hp1, hp2]; rfl⟩⟩
    · have hlt' : decide ((i : Int) < (l.length : Int)) = false := by simpa using hlt
      have Hi : Aside0 (l.take i = l) := ⟨List.take_of_length_le (by omega)⟩
      go_wp2_with (first | (fail))
      go_ret
      exact ⟨by rw [← HM.out, Hi.out]; rfl, rfl⟩
theorem gauss_clean.calls (re im cr ci : Nat) (h1 : floatBits .add .f64 re 0 = some cr) (h2 : floatBits .add .f64 im 0 = some ci) (w : World) :
    Calls Try.prog 92 #[.complex .f64 re im] w fun e w' => e = .returned (.complex .f64 cr ci) ∧ w' = w := by
  have r1 := fun w => run_float_arith (P := Try.prog) w .add 171 .f64 re 0 cr h1
  have r2 := fun w => run_float_arith (P := Try.prog) w .add 171 .f64 im 0 ci h2
  clear h1 h2
  go_enter Try.func92, Try.ntmps92
  go_wp2
  go_ret
  exact ⟨rfl, rfl⟩
def doneS (cr ci : Nat) (l : List (Nat × Nat)) : Nat × Nat × Int := if mayE l && (partE cr && partE ci) then (cr, ci, 0) else (0, 0, 17)
theorem cells_one (w : World) (x y : Nat) (t : TypeId) : ∀ i, i < [(x, y)].length → (w.alloc (.cells #[.complex .f64 x y] t)).cell? ((⟨w.heap.size, 0, none⟩ : Addr).add i) = some (.complex .f64 ([(x, y)].getD i (0, 0)).1 ([(x, y)].getD i (0, 0)).2) := by
  intro i hi
  obtain rfl : i = 0 := by simpa using hi
  simp [Addr.add]
theorem cells_two (w : World) (x y u v : Nat) (t : TypeId) : ∀ i, i < [(x, y), (u, v)].length → (w.alloc (.cells #[.complex .f64 x y, .complex .f64 u v] t)).cell? ((⟨w.heap.size, 0, none⟩ : Addr).add i) = some (.complex .f64 ([(x, y), (u, v)].getD i (0, 0)).1 ([(x, y), (u, v)].getD i (0, 0)).2) := by
  intro i hi
  have : i = 0 ∨ i = 1 := by simp at hi; omega
  rcases this with rfl | rfl <;> simp [Addr.add]
set_option maxHeartbeats 8000000 in
theorem gauss_done.calls (re im cr ci : Nat) (h1 : floatBits .add .f64 re 0 = some cr) (h2 : floatBits .add .f64 im 0 = some ci) (a : Addr) (c : Nat) (l : List (Nat × Nat)) (w : World) (hc : l.length ≤ c) (hb : l.length ≤ 100) (hr : ∀ i, i < l.length → w.cell? (a.add i) = some (.complex .f64 (l.getD i (0, 0)).1 (l.getD i (0, 0)).2)) :
    Calls Try.prog 89 #[.complex .f64 re im, .slice (some a) l.length c] w fun e w' => e = .returned (.tuple #[.complex .f64 (doneS cr ci l).1 (doneS cr ci l).2.1, .int .i64 (doneS cr ci l).2.2]) ∧ Below w.heap.size w w' := by
  have HR := Aside0.mk hr
  have HB := Aside0.mk hb
  have HC := Aside0.mk hc
  have H1 := Aside0.mk h1
  have H2 := Aside0.mk h2
  clear hr hb hc h1 h2
  go_enter Try.func89, Try.ntmps89
  go_wp2_with (first | (fail))
  refine (gauss_clean.calls re im cr ci H1.out H2.out _).mono ?_
  rintro e w8 ⟨rfl, rfl⟩
  go_wp2_with (first | (fail))
  refine (gauss_may.calls a c l _ HC.out HB.out HR.out).mono ?_
  rintro e w8 ⟨rfl, rfl⟩
  cases hm : mayE l with
  | false =>
    go_wp2_with (first | (fail))
    go_ret2
    exact ⟨by unfold doneS; rw [hm]; rfl, Below.refl _ _⟩
  | true =>
    go_wp2_with (first | (fail))
    have Hz := Aside0.mk (cells_one w8 cr ci 141)
    refine (gauss_may.calls ⟨w8.heap.size, 0, none⟩ 1 [(cr, ci)] _ (Nat.le_refl _) (by simp) Hz.out).mono ?_
    rintro e w9 ⟨rfl, rfl⟩
    have hz : mayE [(cr, ci)] = (partE cr && partE ci) := by unfold mayE; simp
    rw [hz]
    cases hp : (partE cr && partE ci) with
    | false =>
      go_wp2_with (first | (fail))
      go_ret2
      exact ⟨by unfold doneS; rw [hm, hp]; rfl, below_alloc (Below.refl _ _) _⟩
    | true =>
      go_wp2_with (first | (fail))
      go_ret2
      exact ⟨by unfold doneS; rw [hm, hp]; rfl, below_alloc (Below.refl _ _) _⟩
theorem gauss_Mul.calls (a b c d re im cr ci : Nat) (h1 : cMulBits a b c d = some (re, im)) (h3 : floatBits .add .f64 re 0 = some cr) (h4 : floatBits .add .f64 im 0 = some ci) (w : World) :
    Calls Try.prog 80 #[.complex .f64 a b, .complex .f64 c d] w fun e w' => e = .returned (.tuple #[.complex .f64 (doneS cr ci [(a, b), (c, d)]).1 (doneS cr ci [(a, b), (c, d)]).2.1, .int .i64 (doneS cr ci [(a, b), (c, d)]).2.2]) ∧ Below w.heap.size w w' := by
  have r1 := fun w => run_complex_mul (P := Try.prog) w 141 a b c d re im h1
  have H3 := Aside0.mk h3
  have H4 := Aside0.mk h4
  clear h1 h3 h4
  go_enter Try.func80, Try.ntmps80
  go_wp2_with (first | (fail))
  have Hz := Aside0.mk (cells_two w a b c d 141)
  refine (gauss_done.calls re im cr ci H3.out H4.out ⟨w.heap.size, 0, none⟩ 2 [(a, b), (c, d)] _ (Nat.le_refl _) (by simp) Hz.out).mono ?_
  rintro e w9 ⟨rfl, hb⟩
  have HB := Aside0.mk (below_step (below_alloc (Below.refl w.heap.size w) _) hb)
  clear hb
  go_wp2_with (first | (fail))
  go_ret2
  exact ⟨rfl, HB.out⟩
theorem float32frombits_run (v : Int) (w : World) : (callFunc 94 #[.int .u32 v]).run Try.prog w = .ok (.value (.float .f32 v.toNat)) w := by
  rw [run_callFunc_extern Try.func94 (by kernel_rfl) (by kernel_rfl) (by kernel_rfl) (e := Extern.MathFloatBits.float32frombits) (by kernel_rfl)]
  rfl
end Go.Proofs.Ytdemgfbolcmcdaa.X
namespace Go.Proofs.Ytdemgfbolcmcdaa.X
open Go.RowKit Go.Proofs.YtdemgfbolcmcdaaW.PrintWords Go.Proofs.YtdemgfbolcmcdaaW.PrintLast Go.Proofs.YtdemgfbolcmcdaaW.PrintMore
attribute [local go_sem] max2_int min2_int max_two min_two max_three min_three max_four min_four
set_option linter.unusedVariables false
set_option linter.unusedSimpArgs false
def agatelaw06_Awake.f : Option Bool := some true
theorem awake06_mul : cMulBits 4607182418800017408 4611686018427387904 4613937818241073152 4616189618054758400 = some (13840687554816376832, 4621819117588971520) := by decide +kernel
theorem awake06_re : floatBits .add .f64 13840687554816376832 0 = some 13840687554816376832 := by decide +kernel
theorem awake06_im : floatBits .add .f64 4621819117588971520 0 = some 4621819117588971520 := by decide +kernel
theorem awake06_done : doneS 13840687554816376832 4621819117588971520 [(4607182418800017408, 4611686018427387904), (4613937818241073152, 4616189618054758400)] = (13840687554816376832, 4621819117588971520, 0) := by decide +kernel
theorem awake06_eq1 : (FloatKind.f64.format.order 13840687554816376832 13840687554816376832 == some .eq) = true := by decide +kernel
theorem awake06_eq2 : (FloatKind.f64.format.order 4621819117588971520 4621819117588971520 == some .eq) = true := by decide +kernel
theorem agatelaw06_Awake.calls (r : Bool) (w : World) (h : agatelaw06_Awake.f = some r) :
    Calls Try.prog 70 #[] w fun e w' => e = .returned (.bool r) ∧ Below w.heap.size w w' := by
  obtain rfl := Option.some.inj h
  have q1 := awake06_eq1
  have q2 := awake06_eq2
  go_enter Try.func70, Try.ntmps70
  go_wp2_with (first | (fail))
  refine (gauss_Mul.calls _ _ _ _ _ _ _ _ awake06_mul awake06_re awake06_im _).mono ?_
  rintro e w9 ⟨rfl, hb⟩
  rw [awake06_done]
  have HB := Aside0.mk hb
  clear hb
  go_wp2_with (first | (fail))
  go_ret
  exact ⟨rfl, HB.out⟩
end Go.Proofs.Ytdemgfbolcmcdaa.X
namespace Go.Proofs.Ytdemgfbolcmcdaa.X
open Go.RowKit Go.Proofs.YtdemgfbolcmcdaaW.PrintWords Go.Proofs.YtdemgfbolcmcdaaW.PrintLast Go.Proofs.YtdemgfbolcmcdaaW.PrintMore
attribute [local go_sem] max2_int min2_int max_two min_two max_three min_three max_four min_four
set_option linter.unusedVariables false
set_option linter.unusedSimpArgs false
def kind_Kind_Size.f (a0 : Int) : Option Int := some (sizeK a0)
theorem kind_Kind_Size.calls (a0 : Int) (r : Int) (w : World) (h : kind_Kind_Size.f a0 = some r) :
    Calls Try.prog 76 #[.int .i64 a0] w fun e w' => e = .returned (.int .i64 r) ∧ Below w.heap.size w w' := by
  obtain rfl := Option.some.inj h
  exact kind_Size.calls a0 w
end Go.Proofs.Ytdemgfbolcmcdaa.X
namespace Go.Proofs.Ytdemgfbolcmcdaa.X
open Go.RowKit Go.Proofs.YtdemgfbolcmcdaaW.PrintWords Go.Proofs.YtdemgfbolcmcdaaW.PrintLast Go.Proofs.YtdemgfbolcmcdaaW.PrintMore
attribute [local go_sem] max2_int min2_int max_two min_two max_three min_three max_four min_four
set_option linter.unusedVariables false
set_option linter.unusedSimpArgs false
theorem bkA {p q : Prop} (h : Aside0 p) (f : p → q := by intro h_; (with_reducible repeat (first | refine blk_drewN ?_ _ | refine blk_drew ?_ | refine blk_alloc ?_ _)); exact h_) : q := f h.out
theorem hbA {p q : Prop} (h : Aside0 p) (f : p → q := by intro h_; repeat (first | (with_reducible first | exact h_ | apply below_alloc | apply pw_below_drewN | apply below_drew1 | refine below_set ?_ (Aside0.out (by assumption))) | exact h_)) : q := f h.out
theorem krA {p q : Prop} (h : Aside0 p) (f : p → q := by intro h_; (with_reducible repeat (first | apply Kd.R_alloc | apply Kd.R_drewN | apply Kd.R_drew)); exact h_) : q := f h.out
theorem bcA {w : World} {g t : Nat} {cs : Array Value} {v : Value} (h : Aside0 (w.heap[g]? = some (Obj.cells cs t (0, 0)))) (i : Nat) (e : cs[i]? = some v := by rfl) : w.cell? ⟨g, i, none⟩ = some v := (blk_cell h.out i).trans e
end Go.Proofs.Ytdemgfbolcmcdaa.X
namespace Go.Proofs.Ytdemgfbolcmcdaa.X
open Go.RowKit Go.Proofs.YtdemgfbolcmcdaaW.PrintWords Go.Proofs.YtdemgfbolcmcdaaW.PrintLast Go.Proofs.YtdemgfbolcmcdaaW.PrintMore
attribute [local go_sem] max2_int min2_int max_two min_two max_three min_three max_four min_four
set_option linter.unusedVariables false
set_option linter.unusedSimpArgs false
def tensor_Tensor_Elem.f (a0_0 : ByteArray) (a0_1 : Int) (l0_2 : List Int) (a0_3 : ByteArray) (a1 : Int) : Option (ByteArray) := (kind_Kind_Size.f a0_1).bind fun t102 => (if t102 = 0 then (some (⟨#[]⟩ : ByteArray)) else (if a1 < 0 then (some (⟨#[]⟩ : ByteArray)) else (if a1 ≥ (wrap64 ((a0_3.size : Int) / t102)) then (some (⟨#[]⟩ : ByteArray)) else (if 0 ≤ (wrap64 (a1 * t102)) then (if (wrap64 (a1 * t102)) ≤ (wrap64 ((wrap64 (a1 * t102)) + t102)) then (if (wrap64 ((wrap64 (a1 * t102)) + t102)) ≤ (a0_3.size : Int) then (some (a0_3.extract ((wrap64 (a1 * t102)) : Int).toNat ((wrap64 ((wrap64 (a1 * t102)) + t102)) : Int).toNat)) else (none)) else (none)) else (none)))))
set_option maxHeartbeats 8000000 in
set_option maxRecDepth 100000 in
theorem tensor_Tensor_Elem.calls (a0_0 : ByteArray) (a0_1 : Int) (A0_2 : Option Addr) (c0_2 : Nat) (l0_2 : List Int) (a0_3 : ByteArray) (a1 : Int) (r : ByteArray) (w : World) (hr0_2 : Kd.C (Kd.int .i64) w A0_2 l0_2.length l0_2) (hc0_2 : l0_2.length ≤ c0_2) (h : tensor_Tensor_Elem.f a0_0 a0_1 l0_2 a0_3 a1 = some r) :
  Calls Try.prog 84 #[.agg #[.string a0_0, .int .i64 a0_1, .slice A0_2 l0_2.length c0_2, .string a0_3], .int .i64 a1] w fun e w' => e = .returned (.string r) ∧ Below w.heap.size w w' := by
 have hu51 := Try.underlying51
 have HR0_2 := Aside0.mk hr0_2
 have HC0_2 := Aside0.mk hc0_2
 clear hr0_2 hc0_2
 have HB := Aside0.mk (Below.refl w.heap.size w)
 have H : ((kind_Kind_Size.f a0_1).bind fun t102 => (if t102 = 0 then (some (⟨#[]⟩ : ByteArray)) else (if a1 < 0 then (some (⟨#[]⟩ : ByteArray)) else (if a1 ≥ (wrap64 ((a0_3.size : Int) / t102)) then (some (⟨#[]⟩ : ByteArray)) else (if 0 ≤ (wrap64 (a1 * t102)) then (if (wrap64 (a1 * t102)) ≤ (wrap64 ((wrap64 (a1 * t102)) + t102)) then (if (wrap64 ((wrap64 (a1 * t102)) + t102)) ≤ (a0_3.size : Int) then (some (a0_3.extract ((wrap64 (a1 * t102)) : Int).toNat ((wrap64 ((wrap64 (a1 * t102)) + t102)) : Int).toNat)) else (none)) else (none)) else (none)))))) = some r := h
 clear h
 replace H := Option.bind_eq_some_iff.mp H
 obtain ⟨t102, A30, H⟩ := H
 replace H : (if t102 = 0 then (some (⟨#[]⟩ : ByteArray)) else (if a1 < 0 then (some (⟨#[]⟩ : ByteArray)) else (if a1 ≥ (wrap64 ((a0_3.size : Int) / t102)) then (some (⟨#[]⟩ : ByteArray)) else (if 0 ≤ (wrap64 (a1 * t102)) then (if (wrap64 (a1 * t102)) ≤ (wrap64 ((wrap64 (a1 * t102)) + t102)) then (if (wrap64 ((wrap64 (a1 * t102)) + t102)) ≤ (a0_3.size : Int) then (some (a0_3.extract ((wrap64 (a1 * t102)) : Int).toNat ((wrap64 ((wrap64 (a1 * t102)) + t102)) : Int).toNat)) else (none)) else (none)) else (none))))) = some r := H
 have A3 := Aside0.mk A30
 clear A30
 by_cases c4 : t102 = 0
 ·
  rw [if_pos c4] at H
  have c4b0 : (t102 == 0) = true := beq_iff_eq.mpr c4
  have c4b1 : (t102 != 0) = false := bne_eq_false_iff_eq.mpr c4
  clear c4
  obtain rfl := Option.some.inj H
  go_enter Try.func84, Try.ntmps84
  go_wp2_with (first | ((with_reducible refine gate_dst (N := 2) rfl ?_); (try (refine gate_guard (by rfl) ?_; dsimp only)); refine box_event ?hg (N := 2) ?hd (cs := #[.string a0_0, .int .i64 a0_1, .slice A0_2 l0_2.length c0_2, .string a0_3]) (t := 51) ?hr ?_; (case hd => rfl); (case hg => rfl); (case hr => first | (go_simp; done) | (go_simp; rfl)); intro gb101 hg w5 hbox hb; have n0_ := Aside0.mk (below_step (hbA HB) hb); have n1_ := Aside0.mk (hbox); have n2_ := Aside0.mk ((by rw [hg]; exact (below_size (hbA HB)) : w.heap.size ≤ gb101)); have n3_ := Aside0.mk ((by rw [hg]; exact (below_size (hbA HB)) : w.heap.size ≤ gb101)); clear HB; have HB := n0_; have BK101 := n1_; have GW101 := n2_; have GE101 := n3_; clear n0_ n1_ n2_ n3_; clear hb hbox hg; have hcz6_0 : w5.cell? ⟨gb101, 0, none⟩ = some (.string a0_0) := bcA BK101 0; have hcz6_1 : w5.cell? ⟨gb101, 1, none⟩ = some (.int .i64 a0_1) := bcA BK101 1; have hcz6_2 : w5.cell? ⟨gb101, 2, none⟩ = some (.slice A0_2 l0_2.length c0_2) := bcA BK101 2; have hcz6_3 : w5.cell? ⟨gb101, 3, none⟩ = some (.string a0_3) := bcA BK101 3; have hfz6_0 := blk_frozen BK101.out 0; have hfz6_1 := blk_frozen BK101.out 1; have hfz6_2 := blk_frozen BK101.out 2; have hfz6_3 := blk_frozen BK101.out 3) | ((with_reducible refine gate_callee (f := 76) rfl ?_); refine goesL_ (some 8) rfl rfl Try.func76 (by kernel_rfl) rfl #[.int .i64 a0_1] rfl (by (try simp only [List.map_toArray, List.map_cons, List.map_nil]); first | done | rfl | (simp only [List.length_drop, List.length_take]; rfl)) ?_; (with_reducible refine (kind_Kind_Size.calls a0_1 t102 _ A3.out).mono ?_); rintro e w7 ⟨rfl, hb⟩; refine ⟨_, rfl, ?_⟩; have n0_ := Aside0.mk (blk_below (g := gb101) (bkA BK101) hb); have n1_ := Aside0.mk (below_step (hbA HB) hb); clear BK101; clear HB; have BK101 := n0_; have HB := n1_; clear n0_ n1_; (try clear hb); (try clear hb2); (try clear hk); (try clear hi)))
  go_ret
  exact ⟨by first | rfl | (simp [errW_none, errW_some] <;> rfl) | (simp [*, errW_none, errW_some] <;> rfl), hbA HB⟩
 ·
  rw [if_neg c4] at H
  have c4b0 : (t102 == 0) = false := beq_eq_false_iff_ne.mpr c4
  have c4b1 : (t102 != 0) = true := bne_iff_ne.mpr c4
  by_cases c8 : a1 < 0
  ·
   rw [if_pos c8] at H
   have c8b0 : decide (a1 < 0) = true := decide_eq_true c8
   clear c8
   obtain rfl := Option.some.inj H
   go_enter Try.func84, Try.ntmps84
   go_wp2_with (first | ((with_reducible refine gate_dst (N := 2) rfl ?_); (try (refine gate_guard (by rfl) ?_; dsimp only)); refine box_event ?hg (N := 2) ?hd (cs := #[.string a0_0, .int .i64 a0_1, .slice A0_2 l0_2.length c0_2, .string a0_3]) (t := 51) ?hr ?_; (case hd => rfl); (case hg => rfl); (case hr => first | (go_simp; done) | (go_simp; rfl)); intro gb101 hg w9 hbox hb; have n0_ := Aside0.mk (below_step (hbA HB) hb); have n1_ := Aside0.mk (hbox); have n2_ := Aside0.mk ((by rw [hg]; exact (below_size (hbA HB)) : w.heap.size ≤ gb101)); have n3_ := Aside0.mk ((by rw [hg]; exact (below_size (hbA HB)) : w.heap.size ≤ gb101)); clear HB; have HB := n0_; have BK101 := n1_; have GW101 := n2_; have GE101 := n3_; clear n0_ n1_ n2_ n3_; clear hb hbox hg; have hcz10_0 : w9.cell? ⟨gb101, 0, none⟩ = some (.string a0_0) := bcA BK101 0; have hcz10_1 : w9.cell? ⟨gb101, 1, none⟩ = some (.int .i64 a0_1) := bcA BK101 1; have hcz10_2 : w9.cell? ⟨gb101, 2, none⟩ = some (.slice A0_2 l0_2.length c0_2) := bcA BK101 2; have hcz10_3 : w9.cell? ⟨gb101, 3, none⟩ = some (.string a0_3) := bcA BK101 3; have hfz10_0 := blk_frozen BK101.out 0; have hfz10_1 := blk_frozen BK101.out 1; have hfz10_2 := blk_frozen BK101.out 2; have hfz10_3 := blk_frozen BK101.out 3) | ((with_reducible refine gate_callee (f := 76) rfl ?_); refine goesL_ (some 8) rfl rfl Try.func76 (by kernel_rfl) rfl #[.int .i64 a0_1] rfl (by (try simp only [List.map_toArray, List.map_cons, List.map_nil]); first | done | rfl | (simp only [List.length_drop, List.length_take]; rfl)) ?_; (with_reducible refine (kind_Kind_Size.calls a0_1 t102 _ A3.out).mono ?_); rintro e w11 ⟨rfl, hb⟩; refine ⟨_, rfl, ?_⟩; have n0_ := Aside0.mk (blk_below (g := gb101) (bkA BK101) hb); have n1_ := Aside0.mk (below_step (hbA HB) hb); clear BK101; clear HB; have BK101 := n0_; have HB := n1_; clear n0_ n1_; (try clear hb); (try clear hb2); (try clear hk); (try clear hi)))
   go_ret
   exact ⟨by first | rfl | (simp [errW_none, errW_some] <;> rfl) | (simp [*, errW_none, errW_some] <;> rfl), hbA HB⟩
  ·
   rw [if_neg c8] at H
   have c8b0 : decide (a1 < 0) = false := decide_eq_false c8
   clear c8
   by_cases c12 : a1 ≥ (wrap64 ((a0_3.size : Int) / t102))
   ·
    rw [if_pos c12] at H
    have c12b0 : decide ((wrap64 ((a0_3.size : Int) / t102)) ≤ a1) = true := decide_eq_true c12
    clear c12
    obtain rfl := Option.some.inj H
    go_enter Try.func84, Try.ntmps84
    go_wp2_with (first | ((with_reducible refine gate_dst (N := 2) rfl ?_); (try (refine gate_guard (by rfl) ?_; dsimp only)); refine box_event ?hg (N := 2) ?hd (cs := #[.string a0_0, .int .i64 a0_1, .slice A0_2 l0_2.length c0_2, .string a0_3]) (t := 51) ?hr ?_; (case hd => rfl); (case hg => rfl); (case hr => first | (go_simp; done) | (go_simp; rfl)); intro gb101 hg w13 hbox hb; have n0_ := Aside0.mk (below_step (hbA HB) hb); have n1_ := Aside0.mk (hbox); have n2_ := Aside0.mk ((by rw [hg]; exact (below_size (hbA HB)) : w.heap.size ≤ gb101)); have n3_ := Aside0.mk ((by rw [hg]; exact (below_size (hbA HB)) : w.heap.size ≤ gb101)); clear HB; have HB := n0_; have BK101 := n1_; have GW101 := n2_; have GE101 := n3_; clear n0_ n1_ n2_ n3_; clear hb hbox hg; have hcz14_0 : w13.cell? ⟨gb101, 0, none⟩ = some (.string a0_0) := bcA BK101 0; have hcz14_1 : w13.cell? ⟨gb101, 1, none⟩ = some (.int .i64 a0_1) := bcA BK101 1; have hcz14_2 : w13.cell? ⟨gb101, 2, none⟩ = some (.slice A0_2 l0_2.length c0_2) := bcA BK101 2; have hcz14_3 : w13.cell? ⟨gb101, 3, none⟩ = some (.string a0_3) := bcA BK101 3; have hfz14_0 := blk_frozen BK101.out 0; have hfz14_1 := blk_frozen BK101.out 1; have hfz14_2 := blk_frozen BK101.out 2; have hfz14_3 := blk_frozen BK101.out 3) | ((with_reducible refine gate_callee (f := 76) rfl ?_); refine goesL_ (some 8) rfl rfl Try.func76 (by kernel_rfl) rfl #[.int .i64 a0_1] rfl (by (try simp only [List.map_toArray, List.map_cons, List.map_nil]); first | done | rfl | (simp only [List.length_drop, List.length_take]; rfl)) ?_; (with_reducible refine (kind_Kind_Size.calls a0_1 t102 _ A3.out).mono ?_); rintro e w15 ⟨rfl, hb⟩; refine ⟨_, rfl, ?_⟩; have n0_ := Aside0.mk (blk_below (g := gb101) (bkA BK101) hb); have n1_ := Aside0.mk (below_step (hbA HB) hb); clear BK101; clear HB; have BK101 := n0_; have HB := n1_; clear n0_ n1_; (try clear hb); (try clear hb2); (try clear hk); (try clear hi); have hcz16_0 : w15.cell? ⟨gb101, 0, none⟩ = some (.string a0_0) := bcA BK101 0; have hcz16_1 : w15.cell? ⟨gb101, 1, none⟩ = some (.int .i64 a0_1) := bcA BK101 1; have hcz16_2 : w15.cell? ⟨gb101, 2, none⟩ = some (.slice A0_2 l0_2.length c0_2) := bcA BK101 2; have hcz16_3 : w15.cell? ⟨gb101, 3, none⟩ = some (.string a0_3) := bcA BK101 3; have hfz16_0 := blk_frozen BK101.out 0; have hfz16_1 := blk_frozen BK101.out 1; have hfz16_2 := blk_frozen BK101.out 2; have hfz16_3 := blk_frozen BK101.out 3))
    go_ret
    exact ⟨by first | rfl | (simp [errW_none, errW_some] <;> rfl) | (simp [*, errW_none, errW_some] <;> rfl), hbA HB⟩
   ·
    rw [if_neg c12] at H
    have c12b0 : decide ((wrap64 ((a0_3.size : Int) / t102)) ≤ a1) = false := decide_eq_false c12
    clear c12
    obtain ⟨ji17, hji17⟩ : ∃ j_ : Int, (wrap64 (a1 * t102)) = j_ := ⟨_, rfl⟩
    replace H : (if 0 ≤ (ji17) then (if (ji17) ≤ (wrap64 ((ji17) + t102)) then (if (wrap64 ((ji17) + t102)) ≤ (a0_3.size : Int) then (some (a0_3.extract ((ji17) : Int).toNat ((wrap64 ((ji17) + t102)) : Int).toNat)) else (none)) else (none)) else (none)) = some r := by first | (rw [hji17] at H; exact H) | (simp only [hji17] at H ⊢; exact H)
    (try rw [hji17] at A3)
    have hji17w : (IntKind.i64.wrap (a1 * t102)) = ji17 := (i64_w _).trans hji17
    by_cases c18 : 0 ≤ (ji17)
    ·
     rw [if_pos c18] at H
     have c18b0 := eq_true c18
     have c18b1 : decide (0 ≤ (ji17)) = true := decide_eq_true c18
     clear c18
     by_cases c19 : (ji17) ≤ (wrap64 ((ji17) + t102))
     ·
      rw [if_pos c19] at H
      have c19b0 := eq_true c19
      have c19b1 : decide ((ji17) ≤ (wrap64 ((ji17) + t102))) = true := decide_eq_true c19
      by_cases c20 : (wrap64 ((ji17) + t102)) ≤ (a0_3.size : Int)
      ·
       rw [if_pos c20] at H
       have c20b0 := eq_true c20
       have c20b1 : decide ((wrap64 ((ji17) + t102)) ≤ (a0_3.size : Int)) = true := decide_eq_true c20
       obtain rfl := Option.some.inj H
       go_enter Try.func84, Try.ntmps84
       go_wp2_with (first | ((with_reducible refine gate_dst (N := 2) rfl ?_); (try (refine gate_guard (by rfl) ?_; dsimp only)); refine box_event ?hg (N := 2) ?hd (cs := #[.string a0_0, .int .i64 a0_1, .slice A0_2 l0_2.length c0_2, .string a0_3]) (t := 51) ?hr ?_; (case hd => rfl); (case hg => rfl); (case hr => first | (go_simp; done) | (go_simp; rfl)); intro gb101 hg w21 hbox hb; have n0_ := Aside0.mk (below_step (hbA HB) hb); have n1_ := Aside0.mk (hbox); have n2_ := Aside0.mk ((by rw [hg]; exact (below_size (hbA HB)) : w.heap.size ≤ gb101)); have n3_ := Aside0.mk ((by rw [hg]; exact (below_size (hbA HB)) : w.heap.size ≤ gb101)); clear HB; have HB := n0_; have BK101 := n1_; have GW101 := n2_; have GE101 := n3_; clear n0_ n1_ n2_ n3_; clear hb hbox hg; have hcz22_0 : w21.cell? ⟨gb101, 0, none⟩ = some (.string a0_0) := bcA BK101 0; have hcz22_1 : w21.cell? ⟨gb101, 1, none⟩ = some (.int .i64 a0_1) := bcA BK101 1; have hcz22_2 : w21.cell? ⟨gb101, 2, none⟩ = some (.slice A0_2 l0_2.length c0_2) := bcA BK101 2; have hcz22_3 : w21.cell? ⟨gb101, 3, none⟩ = some (.string a0_3) := bcA BK101 3; have hfz22_0 := blk_frozen BK101.out 0; have hfz22_1 := blk_frozen BK101.out 1; have hfz22_2 := blk_frozen BK101.out 2; have hfz22_3 := blk_frozen BK101.out 3) | ((with_reducible refine gate_callee (f := 76) rfl ?_); refine goesL_ (some 8) rfl rfl Try.func76 (by kernel_rfl) rfl #[.int .i64 a0_1] rfl (by (try simp only [List.map_toArray, List.map_cons, List.map_nil]); first | done | rfl | (simp only [List.length_drop, List.length_take]; rfl)) ?_; (with_reducible refine (kind_Kind_Size.calls a0_1 t102 _ A3.out).mono ?_); rintro e w23 ⟨rfl, hb⟩; refine ⟨_, rfl, ?_⟩; have n0_ := Aside0.mk (blk_below (g := gb101) (bkA BK101) hb); have n1_ := Aside0.mk (below_step (hbA HB) hb); clear BK101; clear HB; have BK101 := n0_; have HB := n1_; clear n0_ n1_; (try clear hb); (try clear hb2); (try clear hk); (try clear hi); have hcz24_0 : w23.cell? ⟨gb101, 0, none⟩ = some (.string a0_0) := bcA BK101 0; have hcz24_1 : w23.cell? ⟨gb101, 1, none⟩ = some (.int .i64 a0_1) := bcA BK101 1; have hcz24_2 : w23.cell? ⟨gb101, 2, none⟩ = some (.slice A0_2 l0_2.length c0_2) := bcA BK101 2; have hcz24_3 : w23.cell? ⟨gb101, 3, none⟩ = some (.string a0_3) := bcA BK101 3; have hfz24_0 := blk_frozen BK101.out 0; have hfz24_1 := blk_frozen BK101.out 1; have hfz24_2 := blk_frozen BK101.out 2; have hfz24_3 := blk_frozen BK101.out 3))
       go_ret
       exact ⟨by first | rfl | (simp [errW_none, errW_some] <;> rfl) | (simp only [← hji17]; first | rfl | (simp [errW_none, errW_some] <;> rfl)) | (simp [*, errW_none, errW_some] <;> rfl), hbA HB⟩
      ·
       rw [if_neg c20] at H
       exact absurd H (by simp)
     ·
      rw [if_neg c19] at H
      exact absurd H (by simp)
    ·
     rw [if_neg c18] at H
     exact absurd H (by simp)
end Go.Proofs.Ytdemgfbolcmcdaa.X
