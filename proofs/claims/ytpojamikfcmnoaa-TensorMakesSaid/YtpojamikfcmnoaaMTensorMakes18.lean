import Derived.Test.YtpojamikfcmnoaaMTensorMakes2
import Derived.Test.YtpojamikfcmnoaaMTensorMakes17
import Derived.Test.YtpojamikfcmnoaaMTensorMakes3
import Derived.Test.YtpojamikfcmnoaaMTensorMakes12
import Derived.Test.YtpojamikfcmnoaaMTensorMakes13
import Derived.Test.YtpojamikfcmnoaaMTensorMakes14
import Derived.Test.YtpojamikfcmnoaaMTensorMakes15
import Derived.Test.YtpojamikfcmnoaaMTensorMakes16
import Derived.Test.YtpojamikfcmnoaaMTensorMakes8
import Derived.Test.YtpojamikfcmnoaaMTensorMakes5
import Derived.Test.YtpojamikfcmnoaaMTensorMakes6
namespace Go.Proofs.Ytpojamikfcmnoaa.X
open Go.RowKit Go.Proofs.YtpojamikfcmnoaaW.PrintWords Go.Proofs.YtpojamikfcmnoaaW.PrintLast Go.Proofs.YtpojamikfcmnoaaW.PrintMore
attribute [local go_sem] max2_int min2_int max_two min_two max_three min_three max_four min_four
set_option linter.unusedVariables false
set_option linter.unusedSimpArgs false
def wf23 (b : S23) : Prop := (fun p : (Int) × (Int) => (fun a => (Lit.int .i64 a).wf = true) p.1 ∧ ((fun a => (Lit.int .i64 a).wf = true) p.2)) (b.f0, b.f1)
theorem op23 {H : Type} (enc : TypeId × Value → H) (W : World) : Opens enc Try.prog W 23 k23 wf23 :=
  Opens.struct (fun p => ⟨p.1, p.2⟩) (fun _ => rfl) Try.underlying23 (by kernel_rfl) (OpensF.more rfl (Opens.int Try.underlying2 (by kernel_rfl)) (OpensF.one rfl (Opens.int Try.underlying2 (by kernel_rfl))))
end Go.Proofs.Ytpojamikfcmnoaa.X
namespace Go.Proofs.Ytpojamikfcmnoaa.X
open Go.RowKit Go.Proofs.YtpojamikfcmnoaaW.PrintWords Go.Proofs.YtpojamikfcmnoaaW.PrintLast Go.Proofs.YtpojamikfcmnoaaW.PrintMore
attribute [local go_sem] max2_int min2_int max_two min_two max_three min_three max_four min_four
set_option linter.unusedVariables false
set_option linter.unusedSimpArgs false
attribute [local go_sem] ceq_fold
mutual
def agatelaw07_TensorMakes.j0 : Nat → ByteArray → List Int → List Bool → List (S23) → Bool → Option (Bool)
 | 0, _, _, _, _, _ => none
 | k + 1, x0, x1, x2, x3, x43 => if x43 = true then ((agatelaw07_Awake.f).bind fun t106 => (some t106)) else (agatelaw07_TensorMakes.l0 k x0 x1 x2 x3 (⟨#[]⟩ : ByteArray) x1 (x1.length : Int) 0)
def agatelaw07_TensorMakes.l0 : Nat → ByteArray → List Int → List Bool → List (S23) → ByteArray → List Int → Int → Int → Option (Bool)
 | 0, _, _, _, _, _, _, _, _ => none
 | k + 1, x0, x1, x2, x3, x9, x45, x46, x47 => if x47 < x46 then (if 0 ≤ x47 then (if x47 < (x45.length : Int) then ((agateref07_Laid_s.f (rd x45 x47)).bind fun t110 => (if x9.size + t110.size ≤ 9223372036854775807 then (agatelaw07_TensorMakes.l0 k x0 x1 x2 x3 (x9 ++ t110) x45 x46 (wrap64 (x47 + 1))) else (none))) else (none)) else (none)) else ((some (([(x1.length : Int)] : List Int) : List Int)).bind fun y127 => ((tensor_OfInts.f x0 y127 x1).bind fun bt130 => (if 0 < (y127.length : Int) then ((tensor_Tensor_Ints.f bt130.1 bt130.2.1 bt130.2.2.1 bt130.2.2.2).bind fun bt139 => (if bt130.2.1 = 7 then (if bt130.1.toList = x0.toList then (if bt130.2.2.2.toList = x9.toList then ((agatelaw03_Ints_s.f bt130.2.2.1 (([(x1.length : Int)] : List Int))).bind fun t146 => (if t146 = true then (if bt139.2 = 0 then ((agatelaw03_Ints_s.f bt139.1 x1).bind fun t147 => (if t147 = true then ((tensor_OfFlags.f x0 (([(x2.length : Int)] : List Int)) x2).bind fun bt177 => ((tensor_Tensor_Flags.f bt177.1 bt177.2.1 bt177.2.2.1 bt177.2.2.2).bind fun bt183 => (if bt177.2.1 = 9 then (if bt183.2 = 0 then (if (bt183.1.length : Int) = (x2.length : Int) then (agatelaw07_TensorMakes.l1 k x0 x2 x3 bt183.1 (x2.length : Int) 0) else (none)) else (none)) else (none)))) else (none))) else (none)) else (none))) else (none)) else (none)) else (none))) else (none))))
def agatelaw07_TensorMakes.l1 : Nat → ByteArray → List Bool → List (S23) → List Bool → Int → Int → Option (Bool)
 | 0, _, _, _, _, _, _ => none
 | k + 1, x0, x2, x3, x16, x133, x134 => if x134 < x133 then (if 0 ≤ x134 then (if x134 < (x2.length : Int) then (if x134 < (x16.length : Int) then (if ((rdOf false x2 x134) != (rdOf false x16 x134)) = true then (none) else (agatelaw07_TensorMakes.l1 k x0 x2 x3 x16 x133 (wrap64 (x134 + 1)))) else (none)) else (none)) else (none)) else (agatelaw07_TensorMakes.l2 k x0 x3 (⟨#[]⟩ : ByteArray) ([] : List (Nat × Nat)) x3 (x3.length : Int) 0)
def agatelaw07_TensorMakes.l2 : Nat → ByteArray → List (S23) → ByteArray → List (Nat × Nat) → List (S23) → Int → Int → Option (Bool)
 | 0, _, _, _, _, _, _, _ => none
 | k + 1, x0, x3, x9, x18, x147, x148, x149 => if x149 < x148 then (if 0 ≤ x149 then (if x149 < (x147.length : Int) then ((agateref06_May_s.f ((rd_T23 x147 x149).f0) ((rd_T23 x147 x149).f1)).bind fun t199 => (if t199 = true then ((agateref06_Put_s.f ((rd_T23 x147 x149).f0) ((rd_T23 x147 x149).f1)).bind fun bt207 => (if x9.size + bt207.1.size ≤ 9223372036854775807 then ((agatelaw06_OfX.f ((rd_T23 x147 x149).f0) ((rd_T23 x147 x149).f1)).bind fun t209 => (if x18.length < 8796093022208 then (agatelaw07_TensorMakes.l2 k x0 x3 (x9 ++ bt207.1) (x18 ++ [t209]) x147 x148 (wrap64 (x149 + 1))) else (none))) else (none))) else ((agatelaw07_Awake.f).bind fun t200 => (some t200)))) else (none)) else (none)) else ((tensor_OfNums.f x0 (([1, (x3.length : Int)] : List Int)) x18).bind fun bt229 => ((tensor_Tensor_Nums.f bt229.1 bt229.2.1 bt229.2.2.1 bt229.2.2.2).bind fun bt235 => (if bt229.2.1 = 14 then (if bt229.2.2.2.toList = x9.toList then (if bt235.2 = 0 then (if (bt235.1.length : Int) = (x18.length : Int) then (agatelaw07_TensorMakes.l3 k x0 x18 bt235.1 (bt235.1.length : Int) 0) else (none)) else (none)) else (none)) else (none))))
def agatelaw07_TensorMakes.l3 : Nat → ByteArray → List (Nat × Nat) → List (Nat × Nat) → Int → Int → Option (Bool)
 | 0, _, _, _, _, _ => none
 | k + 1, x0, x18, x23, x203, x204 => if x204 < x203 then (if 0 ≤ x204 then (if x204 < (x23.length : Int) then (if x204 < (x18.length : Int) then (if (ceq (rdOf ((0, 0) : Nat × Nat) x23 x204) (rdOf ((0, 0) : Nat × Nat) x18 x204) = true) then (agatelaw07_TensorMakes.l3 k x0 x18 x23 x203 (wrap64 (x204 + 1))) else (none)) else (none)) else (none)) else (none)) else ((tensor_OfNums.f x0 ([] : List Int) (([((4602678819172646912, 0) : Nat × Nat)] : List (Nat × Nat)))).bind fun bt259 => ((agatelaw07_Awake.f).bind fun t266 => (if t266 = true then ((agateref07_Laid_s.f 0).bind fun t267 => (if bt259.2.2.2.toList = t267.toList then ((tensor_Tensor_Check_s.f bt259.1 bt259.2.1 bt259.2.2.1 bt259.2.2.2).bind fun t268 => (some (t268 == 0))) else (none))) else (none))))
end
def agatelaw07_TensorMakes.f (k : Nat) (a0 : ByteArray) (l1 : List Int) (l2 : List Bool) (l3 : List (S23)) : Option (Bool) := if (l1.length : Int) > 100 then (agatelaw07_TensorMakes.j0 k a0 l1 l2 l3 true) else (if (l2.length : Int) > 100 then (agatelaw07_TensorMakes.j0 k a0 l1 l2 l3 true) else (if (l3.length : Int) > 100 then (agatelaw07_TensorMakes.j0 k a0 l1 l2 l3 true) else ((agateref07_Name_s.f a0).bind fun t101 => (agatelaw07_TensorMakes.j0 k a0 l1 l2 l3 (!t101)))))
def agatelaw07_TensorMakes.T22 : Bool × List (List Nat × List Nat) := (true, [([], []), ([], []), ([0, 1], [0, 1]), ([2], [2]), ([], []), ([], []), ([4, 5], [4, 5]), ([6], [6]), ([3, 7], [3, 7])])
def agatelaw07_TensorMakes.B22 : List Nat := [0, 0, 3, 7, 0, 0, 48, 112, 255]
theorem agatelaw07_TensorMakes.tab22 : rtab .any (opsOf Try.f10 22) = agatelaw07_TensorMakes.T22 := by kernel_rfl
theorem agatelaw07_TensorMakes.bits22 : waitsOk agatelaw07_TensorMakes.T22.2 agatelaw07_TensorMakes.B22 = true := by kernel_rfl
def agatelaw07_TensorMakes.T43 : Bool × List (List Nat × List Nat) := (true, [([], []), ([], []), ([0, 1], [0, 1]), ([2], [2]), ([], []), ([], []), ([4, 5], [4, 5]), ([6], [6]), ([3, 7], [3, 7])])
def agatelaw07_TensorMakes.B43 : List Nat := [0, 0, 3, 7, 0, 0, 48, 112, 255]
theorem agatelaw07_TensorMakes.tab43 : rtab .any (opsOf Try.f10 43) = agatelaw07_TensorMakes.T43 := by kernel_rfl
theorem agatelaw07_TensorMakes.bits43 : waitsOk agatelaw07_TensorMakes.T43.2 agatelaw07_TensorMakes.B43 = true := by kernel_rfl
def agatelaw07_TensorMakes.T47 : Bool × List (List Nat × List Nat) := (true, [([], []), ([0, 0], [0]), ([1], [1]), ([2, 1], [1, 2]), ([1, 1], [1]), ([3, 4, 1], [1, 3, 4]), ([1, 5], [1, 5]), ([6, 4], [6]), ([7], [7]), ([8, 7, 7], [7, 8]), ([9, 7], [7, 9]), ([7, 10], [7, 10]), ([11, 9, 0, 1, 2, 3, 4, 5, 6, 7, 8, 9, 10, 11], [11])])
def agatelaw07_TensorMakes.B47 : List Nat := [0, 1, 3, 7, 3, 31, 63, 127, 255, 511, 1023, 2047, 4095]
theorem agatelaw07_TensorMakes.tab47 : rtab .any (opsOf Try.f10 47) = agatelaw07_TensorMakes.T47 := by kernel_rfl
theorem agatelaw07_TensorMakes.bits47 : waitsOk agatelaw07_TensorMakes.T47.2 agatelaw07_TensorMakes.B47 = true := by kernel_rfl
def agatelaw07_TensorMakes.Pure : Prop := ∀ (x0 : ByteArray) (x1 : List Int) (x2 : List Bool) (x3 : List (S23)), (fun a => a.size ≤ 140737488351232) x0 → (fun l => l.length ≤ maxLen ∧ l.length * 8 ≤ 140737488351232 ∧ ∀ x ∈ l, (fun a => (Lit.int .i64 a).wf = true) x) x1 → (fun l => l.length ≤ maxLen ∧ l.length * 1 ≤ 140737488351232 ∧ ∀ x ∈ l, (fun _ => True) x) x2 → (fun l => l.length ≤ maxLen ∧ l.length * 16 ≤ 140737488351232 ∧ ∀ x ∈ l, wf23 x) x3 → ∃ k, agatelaw07_TensorMakes.f k x0 x1 x2 x3 = some true
end Go.Proofs.Ytpojamikfcmnoaa.X
namespace Go.Proofs.Ytpojamikfcmnoaa.X
open Go.RowKit Go.Proofs.YtpojamikfcmnoaaW.PrintWords Go.Proofs.YtpojamikfcmnoaaW.PrintLast Go.Proofs.YtpojamikfcmnoaaW.PrintMore
attribute [local go_sem] max2_int min2_int max_two min_two max_three min_three max_four min_four
set_option linter.unusedVariables false
set_option linter.unusedSimpArgs false
attribute [local go_sem] ceq_fold
set_option maxHeartbeats 8000000 in
set_option maxRecDepth 100000 in
theorem agatelaw07_TensorMakes.calls (k : Nat) (a0 : ByteArray) (A1 : Option Addr) (c1 : Nat) (l1 : List Int) (A2 : Option Addr) (c2 : Nat) (l2 : List Bool) (A3 : Option Addr) (c3 : Nat) (l3 : List (S23)) (r : Bool) (w : World) (hr1 : Kd.C (Kd.int .i64) w A1 l1.length l1) (hc1 : l1.length ≤ c1) (hr2 : Kd.C Kd.bool w A2 l2.length l2) (hc2 : l2.length ≤ c2) (hr3 : Kd.C k23 w A3 l3.length l3) (hc3 : l3.length ≤ c3) (h : agatelaw07_TensorMakes.f k a0 l1 l2 l3 = some r) :
  Calls Try.prog 10 #[.string a0, .slice A1 l1.length c1, .slice A2 l2.length c2, .slice A3 l3.length c3] w fun e w' => e = .returned (.bool r) ∧ Below w.heap.size w w' := by
 have hu62 := Try.underlying62
 have hu23 := Try.underlying23
 have HR1 := Aside0.mk hr1
 have HC1 := Aside0.mk hc1
 clear hr1 hc1
 have HR2 := Aside0.mk hr2
 have HC2 := Aside0.mk hc2
 clear hr2 hc2
 have HR3 := Aside0.mk hr3
 have HC3 := Aside0.mk hc3
 clear hr3 hc3
 have HB := Aside0.mk (Below.refl w.heap.size w)
 have H : (if (l1.length : Int) > 100 then (agatelaw07_TensorMakes.j0 k a0 l1 l2 l3 true) else (if (l2.length : Int) > 100 then (agatelaw07_TensorMakes.j0 k a0 l1 l2 l3 true) else (if (l3.length : Int) > 100 then (agatelaw07_TensorMakes.j0 k a0 l1 l2 l3 true) else ((agateref07_Name_s.f a0).bind fun t101 => (agatelaw07_TensorMakes.j0 k a0 l1 l2 l3 (!t101)))))) = some r := h
 clear h
 have HC5 := Aside0.mk H
 clear H
 go_enter Try.func10, Try.ntmps10
 go_upto_region 1 with (fail)
 go_cut [43] (fun v43 wc => ∃ (kq : Nat) (x43_4 : Bool), v43 = .bool x43_4 ∧ Aside0 (agatelaw07_TensorMakes.j0 kq a0 l1 l2 l3 x43_4 = some r) ∧ Aside0 (kq ≤ k) ∧ Aside0 (Below w.heap.size w wc))
 case first =>
  have H := HC5.out; clear HC5
  by_cases c6 : (l1.length : Int) > 100
  ·
   rw [if_pos c6] at H
   have c6b0 : decide (100 < (l1.length : Int)) = true := decide_eq_true c6
   have c6b1 : decide (100 < l1.length) = true := decide_eq_true (by omega)
   clear c6
   (first | rw [c6b0] | (simp only [i64_w, i32_w]; rw [c6b0]) | skip)
   have H' := Aside0.mk H
   clear H
   go_wp2
   go_meet
   case rel => exact ⟨_, (true), (by first | rfl | (simp; done) | (simp [*]; done)), H', ⟨by first | omega | exact Nat.le_refl _⟩, ⟨hbA HB⟩⟩
  ·
   rw [if_neg c6] at H
   have c6b0 : decide (100 < (l1.length : Int)) = false := decide_eq_false c6
   have c6b1 : decide (100 < l1.length) = false := decide_eq_false (by omega)
   clear c6
   (first | rw [c6b0] | (simp only [i64_w, i32_w]; rw [c6b0]) | skip)
   by_cases c7 : (l2.length : Int) > 100
   ·
    rw [if_pos c7] at H
    have c7b0 : decide (100 < (l2.length : Int)) = true := decide_eq_true c7
    have c7b1 : decide (100 < l2.length) = true := decide_eq_true (by omega)
    clear c7
    have H' := Aside0.mk H
    clear H
    go_wp2
    go_meet
    case rel => exact ⟨_, (true), (by first | rfl | (simp; done) | (simp [*]; done)), H', ⟨by first | omega | exact Nat.le_refl _⟩, ⟨hbA HB⟩⟩
   ·
    rw [if_neg c7] at H
    have c7b0 : decide (100 < (l2.length : Int)) = false := decide_eq_false c7
    have c7b1 : decide (100 < l2.length) = false := decide_eq_false (by omega)
    clear c7
    by_cases c8 : (l3.length : Int) > 100
    ·
     rw [if_pos c8] at H
     have c8b0 : decide (100 < (l3.length : Int)) = true := decide_eq_true c8
     have c8b1 : decide (100 < l3.length) = true := decide_eq_true (by omega)
     clear c8
     have H' := Aside0.mk H
     clear H
     go_wp2
     go_meet
     case rel => exact ⟨_, (true), (by first | rfl | (simp; done) | (simp [*]; done)), H', ⟨by first | omega | exact Nat.le_refl _⟩, ⟨hbA HB⟩⟩
    ·
     rw [if_neg c8] at H
     have c8b0 : decide (100 < (l3.length : Int)) = false := decide_eq_false c8
     have c8b1 : decide (100 < l3.length) = false := decide_eq_false (by omega)
     clear c8
     replace H := Option.bind_eq_some_iff.mp H
     obtain ⟨t101, A90, H⟩ := H
     replace H : (agatelaw07_TensorMakes.j0 k a0 l1 l2 l3 (!t101)) = some r := H
     have A9 := Aside0.mk A90
     clear A90
     have H' := Aside0.mk H
     clear H
     go_wp2_with (first | (go_at_call 42; (with_reducible refine (agateref07_Name_s.calls a0 t101 _ A9.out).mono ?_); rintro e w' ⟨rfl, ⟨nd, rfl⟩⟩))
     go_meet
     case rel => exact ⟨_, (!t101), (by first | rfl | (simp; done) | (simp [*]; done)), H', ⟨by first | omega | exact Nat.le_refl _⟩, ⟨hbA HB⟩⟩
 case rest => as_aux_lemma =>
  clear HC5; try clear c1; try clear c2; try clear c3; try clear c6; try clear c6b0; try clear c6b1; try clear c7; try clear c7b0; try clear c7b1; try clear c8; try clear c8b0; try clear c8b1
  obtain ⟨kq, x43_4, rfl, HA, HJ4, HB⟩ := hcut
  cases kq with
  | zero => exact absurd HA.out (by simp [agatelaw07_TensorMakes.j0])
  | succ kj4 =>
   have H := HA.out; clear HA
   simp only [agatelaw07_TensorMakes.j0] at H
   by_cases c10 : x43_4 = true
   ·
    subst c10
    have H1 : ((agatelaw07_Awake.f).bind fun t106 => (some t106)) = some r := by rw [if_pos rfl] at H; exact H
    clear H
    have H := H1
    clear H1
    replace H := Option.bind_eq_some_iff.mp H
    obtain ⟨t106, A110, H⟩ := H
    replace H : (some t106) = some r := H
    have A11 := Aside0.mk A110
    clear A110
    obtain rfl := Option.some.inj H
    go_wp2_with (first | ((with_reducible refine gate_callee (f := 35) rfl ?_); refine goesL_ (some 44) rfl rfl Try.func35 (by kernel_rfl) rfl #[] rfl (by (try simp only [List.map_toArray, List.map_cons, List.map_nil]); first | done | rfl | (simp only [List.length_drop, List.length_take]; rfl)) ?_; (with_reducible refine (agatelaw07_Awake.calls  t106 _ A11.out).mono ?_); rintro e w12 ⟨rfl, hb⟩; refine ⟨_, rfl, ?_⟩; have n0_ := Aside0.mk (below_step (hbA HB) hb); clear HB; have HB := n0_; clear n0_; (try clear hb); (try clear hb2); (try clear hk); (try clear hi)))
    go_ret
    exact ⟨by first | rfl | (simp [errW_none, errW_some] <;> rfl) | (simp [*, errW_none, errW_some] <;> rfl), hbA HB⟩
   ·
    replace c10 := Bool.eq_false_iff.mpr c10
    subst c10
    have H1 : (agatelaw07_TensorMakes.l0 kj4 a0 l1 l2 l3 (⟨#[]⟩ : ByteArray) l1 (l1.length : Int) 0) = some r := by rw [if_neg (show ¬ (false = true) by decide)] at H; exact H
    clear H
    have H := H1
    clear H1
    have H' := Aside0.mk H
    clear H
    go_wp2
    go_loopg [9, 47] kj4 (fun kq v9 v47 w' => ∃ (x9_2 : ByteArray) (x47_2 : Int), v9 = .string x9_2 ∧ v47 = .int .i64 x47_2 ∧ Aside0 (agatelaw07_TensorMakes.l0 kq a0 l1 l2 l3 x9_2 l1 (l1.length : Int) x47_2 = some r) ∧ Aside0 (kq ≤ kj4) ∧ Aside0 (Below w.heap.size w w'))
    case atStart => exact ⟨((⟨#[]⟩ : ByteArray)), (0), (by first | rfl | (simp; done) | (simp [*]; done)), (by first | rfl | (simp; done) | (simp [*]; done)), H', ⟨Nat.le_refl _⟩, ⟨hbA HB⟩⟩
    case round =>
     clear H'
     try clear c1; try clear c2; try clear c3; try clear c6; try clear c6b0; try clear c6b1; try clear c7; try clear c7b0; try clear c7b1; try clear c8; try clear c8b0; try clear c8b1; try clear c10
     obtain ⟨x9_2, x47_2, rfl, rfl, HA, HK2, HB⟩ := hrel
     cases gk with
     | zero => exact absurd HA.out (by simp [agatelaw07_TensorMakes.l0])
     | succ k2 =>
      have H := HA.out; clear HA
      simp only [agatelaw07_TensorMakes.l0] at H
      by_cases c13 : x47_2 < (l1.length : Int)
      ·
       rw [if_pos c13] at H
       have c13b0 : decide (x47_2 < (l1.length : Int)) = true := decide_eq_true c13
       clear c13
       by_cases c14 : 0 ≤ x47_2
       ·
        rw [if_pos c14] at H
        have c14b0 : decide (0 ≤ x47_2) = true := decide_eq_true c14
        clear c14
        by_cases c15 : x47_2 < (l1.length : Int)
        ·
         rw [if_pos c15] at H
         have c15b0 : decide (x47_2 < (l1.length : Int)) = true := decide_eq_true c15
         clear c15
         replace H := Option.bind_eq_some_iff.mp H
         obtain ⟨t110, A160, H⟩ := H
         replace H : (if x9_2.size + t110.size ≤ 9223372036854775807 then (agatelaw07_TensorMakes.l0 k2 a0 l1 l2 l3 (x9_2 ++ t110) l1 (l1.length : Int) (wrap64 (x47_2 + 1))) else (none)) = some r := H
         have A16 := Aside0.mk A160
         clear A160
         by_cases c17 : x9_2.size + t110.size ≤ 9223372036854775807
         ·
          rw [if_pos c17] at H
          have c17b0 := eq_true c17
          have c17b1 : decide (x9_2.size + t110.size ≤ 9223372036854775807) = true := decide_eq_true c17
          try have c17b2 : (9223372036854775807 < x9_2.size + t110.size) = False := eq_false (Nat.not_lt.2 c17)
          try have c17b3 := c17b2
          try simp only [ByteArray.size_append] at c17b3
          have H' := Aside0.mk H
          clear H
          have p109 : 0 ≤ (x47_2 : Int) := of_decide_eq_true (by first | (with_reducible assumption) | assumption)
          have q109 : x47_2 < (l1.length : Int) := of_decide_eq_true (by first | (with_reducible assumption) | assumption)
          obtain ⟨ad109, e109, hx109_0⟩ := Kd.at_int HR1.out x47_2 p109 q109
          cases e109
          replace hx109_0 := (HB.out.cell (World.block_lt_of_cell? w _ hx109_0)).trans hx109_0
          replace p109 := eq_true p109
          replace q109 := eq_true q109
          go_wp2_with (first | ((with_reducible refine gate_callee (f := 49) rfl ?_); refine goesL_ (some 53) rfl rfl Try.func49 (by kernel_rfl) rfl #[.int .i64 (rd l1 x47_2)] rfl (by (try simp only [List.map_toArray, List.map_cons, List.map_nil]); first | done | rfl | (simp only [List.length_drop, List.length_take]; rfl)) ?_; (with_reducible refine (agateref07_Laid_s.calls (rd l1 x47_2) t110 _ A16.out).mono ?_); rintro e w18 ⟨rfl, hb⟩; refine ⟨_, rfl, ?_⟩; have n0_ := Aside0.mk (below_step (hbA HB) hb); clear HB; have HB := n0_; clear n0_; (try clear hb); (try clear hb2); (try clear hk); (try clear hi)))
          go_roundg k2
          case measure => have := HJ4.out; have := HK2.out; omega
          case rel => exact ⟨(x9_2 ++ t110), (wrap64 (x47_2 + 1)), (by first | rfl | (simp; done) | (simp [*]; done)), (by first | rfl | (simp; done) | (simp [*]; done)), H', ⟨by have := HJ4.out; have := HK2.out; omega⟩, ⟨hbA HB⟩⟩
         ·
          rw [if_neg c17] at H
          exact absurd H (by simp)
        ·
         exact absurd (of_decide_eq_true c13b0) c15
       ·
        rw [if_neg c14] at H
        exact absurd H (by simp)
      ·
       rw [if_neg c13] at H
       have c13b0 : decide (x47_2 < (l1.length : Int)) = false := decide_eq_false c13
       clear c13
       obtain ⟨y127, hy127⟩ : ∃ y_ : List Int, y_ = (([(l1.length : Int)] : List Int)) := ⟨_, rfl⟩
       replace H : ((tensor_OfInts.f a0 y127 l1).bind fun bt130 => (if 0 < (y127.length : Int) then ((tensor_Tensor_Ints.f bt130.1 bt130.2.1 bt130.2.2.1 bt130.2.2.2).bind fun bt139 => (if bt130.2.1 = 7 then (if bt130.1.toList = a0.toList then (if bt130.2.2.2.toList = x9_2.toList then ((agatelaw03_Ints_s.f bt130.2.2.1 (([(l1.length : Int)] : List Int))).bind fun t146 => (if t146 = true then (if bt139.2 = 0 then ((agatelaw03_Ints_s.f bt139.1 l1).bind fun t147 => (if t147 = true then ((tensor_OfFlags.f a0 (([(l2.length : Int)] : List Int)) l2).bind fun bt177 => ((tensor_Tensor_Flags.f bt177.1 bt177.2.1 bt177.2.2.1 bt177.2.2.2).bind fun bt183 => (if bt177.2.1 = 9 then (if bt183.2 = 0 then (if (bt183.1.length : Int) = (l2.length : Int) then (agatelaw07_TensorMakes.l1 k2 a0 l2 l3 bt183.1 (l2.length : Int) 0) else (none)) else (none)) else (none)))) else (none))) else (none)) else (none))) else (none)) else (none)) else (none))) else (none))) = some r := by first | (rw [hy127]; with_reducible exact H) | (have H2_ := (Option.bind_some _ _).symm.trans H; rw [hy127]; with_reducible exact H2_) | (have H2_ := (Option.bind_some _ _).symm.trans H; with_reducible exact H2_) | with_reducible exact H | (rw [hy127]; exact H) | exact H
       have Ny127 := Aside0.mk hy127
       clear hy127
       replace H := Option.bind_eq_some_iff.mp H
       obtain ⟨⟨t130, t131, t132, t135⟩, A190, H⟩ := H
       replace H : (if 0 < (y127.length : Int) then ((tensor_Tensor_Ints.f t130 t131 t132 t135).bind fun bt139 => (if t131 = 7 then (if t130.toList = a0.toList then (if t135.toList = x9_2.toList then ((agatelaw03_Ints_s.f t132 (([(l1.length : Int)] : List Int))).bind fun t146 => (if t146 = true then (if bt139.2 = 0 then ((agatelaw03_Ints_s.f bt139.1 l1).bind fun t147 => (if t147 = true then ((tensor_OfFlags.f a0 (([(l2.length : Int)] : List Int)) l2).bind fun bt177 => ((tensor_Tensor_Flags.f bt177.1 bt177.2.1 bt177.2.2.1 bt177.2.2.2).bind fun bt183 => (if bt177.2.1 = 9 then (if bt183.2 = 0 then (if (bt183.1.length : Int) = (l2.length : Int) then (agatelaw07_TensorMakes.l1 k2 a0 l2 l3 bt183.1 (l2.length : Int) 0) else (none)) else (none)) else (none)))) else (none))) else (none)) else (none))) else (none)) else (none)) else (none))) else (none)) = some r := H
       have A19 := Aside0.mk A190
       clear A190
       by_cases c20 : 0 < (y127.length : Int)
       ·
        rw [if_pos c20] at H
        have c20b0 : decide (0 < (y127.length : Int)) = true := decide_eq_true c20
        have c20b1 : decide (0 < y127.length) = true := decide_eq_true (by omega)
        clear c20
        obtain ⟨y138, hy138⟩ : ∃ y_ : List Int, y_ = (y127.set (0 : Int).toNat (wrap64 ((rd y127 0) + 1))) := ⟨_, rfl⟩
        replace H : ((tensor_Tensor_Ints.f t130 t131 t132 t135).bind fun bt139 => (if t131 = 7 then (if t130.toList = a0.toList then (if t135.toList = x9_2.toList then ((agatelaw03_Ints_s.f t132 (([(l1.length : Int)] : List Int))).bind fun t146 => (if t146 = true then (if bt139.2 = 0 then ((agatelaw03_Ints_s.f bt139.1 l1).bind fun t147 => (if t147 = true then ((tensor_OfFlags.f a0 (([(l2.length : Int)] : List Int)) l2).bind fun bt177 => ((tensor_Tensor_Flags.f bt177.1 bt177.2.1 bt177.2.2.1 bt177.2.2.2).bind fun bt183 => (if bt177.2.1 = 9 then (if bt183.2 = 0 then (if (bt183.1.length : Int) = (l2.length : Int) then (agatelaw07_TensorMakes.l1 k2 a0 l2 l3 bt183.1 (l2.length : Int) 0) else (none)) else (none)) else (none)))) else (none))) else (none)) else (none))) else (none)) else (none)) else (none))) = some r := by first | (rw [hy138]; with_reducible exact H) | (have H2_ := (Option.bind_some _ _).symm.trans H; rw [hy138]; with_reducible exact H2_) | (have H2_ := (Option.bind_some _ _).symm.trans H; with_reducible exact H2_) | with_reducible exact H | (rw [hy138]; exact H) | exact H
        have Ny138 := Aside0.mk hy138
        clear hy138
        replace H := Option.bind_eq_some_iff.mp H
        obtain ⟨⟨t139, t142⟩, A220, H⟩ := H
        replace H : (if t131 = 7 then (if t130.toList = a0.toList then (if t135.toList = x9_2.toList then ((agatelaw03_Ints_s.f t132 (([(l1.length : Int)] : List Int))).bind fun t146 => (if t146 = true then (if t142 = 0 then ((agatelaw03_Ints_s.f t139 l1).bind fun t147 => (if t147 = true then ((tensor_OfFlags.f a0 (([(l2.length : Int)] : List Int)) l2).bind fun bt177 => ((tensor_Tensor_Flags.f bt177.1 bt177.2.1 bt177.2.2.1 bt177.2.2.2).bind fun bt183 => (if bt177.2.1 = 9 then (if bt183.2 = 0 then (if (bt183.1.length : Int) = (l2.length : Int) then (agatelaw07_TensorMakes.l1 k2 a0 l2 l3 bt183.1 (l2.length : Int) 0) else (none)) else (none)) else (none)))) else (none))) else (none)) else (none))) else (none)) else (none)) else (none)) = some r := H
        have A22 := Aside0.mk A220
        clear A220
        by_cases c23 : t131 = 7
        ·
         rw [if_pos c23] at H
         have c23b0 : (t131 == 7) = true := beq_iff_eq.mpr c23
         have c23b1 : (t131 != 7) = false := bne_eq_false_iff_eq.mpr c23
         clear c23
         by_cases c24 : t130.toList = a0.toList
         ·
          rw [if_pos c24] at H
          have c24b0 : (t130.toList == a0.toList) = true := beq_iff_eq.mpr c24
          have c24b1 : (t130.toList != a0.toList) = false := bne_eq_false_iff_eq.mpr c24
          clear c24
          by_cases c25 : t135.toList = x9_2.toList
          ·
           rw [if_pos c25] at H
           have c25b0 : (t135.toList == x9_2.toList) = true := beq_iff_eq.mpr c25
           have c25b1 : (t135.toList != x9_2.toList) = false := bne_eq_false_iff_eq.mpr c25
           clear c25
           obtain ⟨y143, hy143⟩ : ∃ y_ : List Int, y_ = (([(l1.length : Int)] : List Int)) := ⟨_, rfl⟩
           replace H : ((agatelaw03_Ints_s.f t132 y143).bind fun t146 => (if t146 = true then (if t142 = 0 then ((agatelaw03_Ints_s.f t139 l1).bind fun t147 => (if t147 = true then ((tensor_OfFlags.f a0 (([(l2.length : Int)] : List Int)) l2).bind fun bt177 => ((tensor_Tensor_Flags.f bt177.1 bt177.2.1 bt177.2.2.1 bt177.2.2.2).bind fun bt183 => (if bt177.2.1 = 9 then (if bt183.2 = 0 then (if (bt183.1.length : Int) = (l2.length : Int) then (agatelaw07_TensorMakes.l1 k2 a0 l2 l3 bt183.1 (l2.length : Int) 0) else (none)) else (none)) else (none)))) else (none))) else (none)) else (none))) = some r := by first | (rw [hy143]; with_reducible exact H) | (have H2_ := (Option.bind_some _ _).symm.trans H; rw [hy143]; with_reducible exact H2_) | (have H2_ := (Option.bind_some _ _).symm.trans H; with_reducible exact H2_) | with_reducible exact H | (rw [hy143]; exact H) | exact H
           have Ny143 := Aside0.mk hy143
           clear hy143
           replace H := Option.bind_eq_some_iff.mp H
           obtain ⟨t146, A260, H⟩ := H
           replace H : (if t146 = true then (if t142 = 0 then ((agatelaw03_Ints_s.f t139 l1).bind fun t147 => (if t147 = true then ((tensor_OfFlags.f a0 (([(l2.length : Int)] : List Int)) l2).bind fun bt177 => ((tensor_Tensor_Flags.f bt177.1 bt177.2.1 bt177.2.2.1 bt177.2.2.2).bind fun bt183 => (if bt177.2.1 = 9 then (if bt183.2 = 0 then (if (bt183.1.length : Int) = (l2.length : Int) then (agatelaw07_TensorMakes.l1 k2 a0 l2 l3 bt183.1 (l2.length : Int) 0) else (none)) else (none)) else (none)))) else (none))) else (none)) else (none)) = some r := H
           have A26 := Aside0.mk A260
           clear A260
           by_cases c27 : t146 = true
           ·
            subst c27
            have H1 : (if t142 = 0 then ((agatelaw03_Ints_s.f t139 l1).bind fun t147 => (if t147 = true then ((tensor_OfFlags.f a0 (([(l2.length : Int)] : List Int)) l2).bind fun bt177 => ((tensor_Tensor_Flags.f bt177.1 bt177.2.1 bt177.2.2.1 bt177.2.2.2).bind fun bt183 => (if bt177.2.1 = 9 then (if bt183.2 = 0 then (if (bt183.1.length : Int) = (l2.length : Int) then (agatelaw07_TensorMakes.l1 k2 a0 l2 l3 bt183.1 (l2.length : Int) 0) else (none)) else (none)) else (none)))) else (none))) else (none)) = some r := by rw [if_pos rfl] at H; exact H
            clear H
            have H := H1
            clear H1
            by_cases c28 : t142 = 0
            ·
             rw [if_pos c28] at H
             have c28b0 : (t142 == 0) = true := beq_iff_eq.mpr c28
             have c28b1 : (t142 != 0) = false := bne_eq_false_iff_eq.mpr c28
             clear c28
             replace H := Option.bind_eq_some_iff.mp H
             obtain ⟨t147, A290, H⟩ := H
             replace H : (if t147 = true then ((tensor_OfFlags.f a0 (([(l2.length : Int)] : List Int)) l2).bind fun bt177 => ((tensor_Tensor_Flags.f bt177.1 bt177.2.1 bt177.2.2.1 bt177.2.2.2).bind fun bt183 => (if bt177.2.1 = 9 then (if bt183.2 = 0 then (if (bt183.1.length : Int) = (l2.length : Int) then (agatelaw07_TensorMakes.l1 k2 a0 l2 l3 bt183.1 (l2.length : Int) 0) else (none)) else (none)) else (none)))) else (none)) = some r := H
             have A29 := Aside0.mk A290
             clear A290
             by_cases c30 : t147 = true
             ·
              subst c30
              have H1 : ((tensor_OfFlags.f a0 (([(l2.length : Int)] : List Int)) l2).bind fun bt177 => ((tensor_Tensor_Flags.f bt177.1 bt177.2.1 bt177.2.2.1 bt177.2.2.2).bind fun bt183 => (if bt177.2.1 = 9 then (if bt183.2 = 0 then (if (bt183.1.length : Int) = (l2.length : Int) then (agatelaw07_TensorMakes.l1 k2 a0 l2 l3 bt183.1 (l2.length : Int) 0) else (none)) else (none)) else (none)))) = some r := by rw [if_pos rfl] at H; exact H
              clear H
              have H := H1
              clear H1
              obtain ⟨y174, hy174⟩ : ∃ y_ : List Int, y_ = (([(l2.length : Int)] : List Int)) := ⟨_, rfl⟩
              replace H : ((tensor_OfFlags.f a0 y174 l2).bind fun bt177 => ((tensor_Tensor_Flags.f bt177.1 bt177.2.1 bt177.2.2.1 bt177.2.2.2).bind fun bt183 => (if bt177.2.1 = 9 then (if bt183.2 = 0 then (if (bt183.1.length : Int) = (l2.length : Int) then (agatelaw07_TensorMakes.l1 k2 a0 l2 l3 bt183.1 (l2.length : Int) 0) else (none)) else (none)) else (none)))) = some r := by first | (rw [hy174]; with_reducible exact H) | (have H2_ := (Option.bind_some _ _).symm.trans H; rw [hy174]; with_reducible exact H2_) | (have H2_ := (Option.bind_some _ _).symm.trans H; with_reducible exact H2_) | with_reducible exact H | (rw [hy174]; exact H) | exact H
              have Ny174 := Aside0.mk hy174
              clear hy174
              replace H := Option.bind_eq_some_iff.mp H
              obtain ⟨⟨t177, t178, t179, t182⟩, A310, H⟩ := H
              replace H : ((tensor_Tensor_Flags.f t177 t178 t179 t182).bind fun bt183 => (if t178 = 9 then (if bt183.2 = 0 then (if (bt183.1.length : Int) = (l2.length : Int) then (agatelaw07_TensorMakes.l1 k2 a0 l2 l3 bt183.1 (l2.length : Int) 0) else (none)) else (none)) else (none))) = some r := H
              have A31 := Aside0.mk A310
              clear A310
              replace H := Option.bind_eq_some_iff.mp H
              obtain ⟨⟨t183, t186⟩, A320, H⟩ := H
              replace H : (if t178 = 9 then (if t186 = 0 then (if (t183.length : Int) = (l2.length : Int) then (agatelaw07_TensorMakes.l1 k2 a0 l2 l3 t183 (l2.length : Int) 0) else (none)) else (none)) else (none)) = some r := H
              have A32 := Aside0.mk A320
              clear A320
              by_cases c33 : t178 = 9
              ·
               rw [if_pos c33] at H
               have c33b0 : (t178 == 9) = true := beq_iff_eq.mpr c33
               have c33b1 : (t178 != 9) = false := bne_eq_false_iff_eq.mpr c33
               clear c33
               by_cases c34 : t186 = 0
               ·
                rw [if_pos c34] at H
                have c34b0 : (t186 == 0) = true := beq_iff_eq.mpr c34
                have c34b1 : (t186 != 0) = false := bne_eq_false_iff_eq.mpr c34
                clear c34
                by_cases c35 : (t183.length : Int) = (l2.length : Int)
                ·
                 rw [if_pos c35] at H
                 have c35b0 : ((t183.length : Int) == (l2.length : Int)) = true := beq_iff_eq.mpr c35
                 have c35b1 : ((t183.length : Int) != (l2.length : Int)) = false := bne_eq_false_iff_eq.mpr c35
                 have c35b2 : (t183.length == l2.length) = true := by first | simpa using c35 | (simp at c35 ⊢; omega)
                 clear c35
                 have H' := Aside0.mk H
                 clear H
                 go_wp2_with (first | ((with_reducible refine gate_dst (N := 58) rfl ?_); (try (refine gate_guard (by rfl) ?_; dsimp only)); refine Kd.R_lit (Kd.int .i64) _ 2 ?hg (N := 58) ?hd (xs := ([(l1.length : Int)] : List Int)) (inner := [.int .i64 (l1.length : Int)]) (ok := fun _ => True) (okp := fun _ => True) ?hr ?hp (fun _ hk => hk) trivial (Below.refl _ _) (Nat.le_refl _) (by simp) ?_; (case hd => rfl); (case hg => rfl); (case hr => first | (go_simp; done) | (go_simp; rfl)); (case hp => exact (Reps.one (show Kd.M (Kd.int .i64) _ _ _ (l1.length : Int) [.int .i64 (l1.length : Int)] from rfl) (Reps.none _ _))); intro v128 w36 ho37 hb hg_ hnew_; clear hg_ hnew_; (first | rw [← Ny127.out] at ho37 | (simp only [Int.reduceToNat] at ho37; rw [← Ny127.out] at ho37)); have n0_ := Aside0.mk (Kd.R_lower ho37 (below_size (hbA HB))); have n1_ := Aside0.mk (below_step (hbA HB) hb); clear HB; have HO129 := n0_; have HB := n1_; clear n0_ n1_; clear hb ho37; obtain ⟨Ao38, co38, eo38⟩ := Kd.R_slice HO129.out; subst eo38) | ((with_reducible refine gate_callee (f := 50) rfl ?_); refine goesL_ (some 62) rfl rfl Try.func50 (by kernel_rfl) rfl #[.string a0, .slice Ao38 y127.length co38, .slice A1 l1.length c1] rfl (by (try simp only [List.map_toArray, List.map_cons, List.map_nil]); first | done | rfl | (simp only [List.length_drop, List.length_take]; rfl)) ?_; (with_reducible refine (tensor_OfInts.calls a0 _ _ y127 _ _ l1 t130 t131 t132 t135 _ ?side1 ?side2 ?side3 ?side4 A19.out).mono ?_); (case side1 => repeat (first | exact (Kd.R_reads' HO129.out).2.2 | (with_reducible refine Kd.C_alloc ?_ _) | (with_reducible refine Kd.C_drewN ?_ _) | (with_reducible refine Kd.C_drew ?_))); (case side2 => exact (Kd.R_reads' HO129.out).2.1); (case side3 => repeat (first | exact (Kd.C_below HR1.out HB.out) | (with_reducible refine Kd.C_alloc ?_ _) | (with_reducible refine Kd.C_drewN ?_ _) | (with_reducible refine Kd.C_drew ?_))); (case side4 => exact HC1.out); rintro e w39 ⟨v133, rfl, ho0, hb⟩; refine ⟨_, rfl, ?_⟩; have n0_ := Aside0.mk (Kd.R_elder' (krA HO129) (Kd.R_base ho0) hb); have n1_ := Aside0.mk (Kd.R_lower (Kd.R_new' ho0 (Kd.R_lt (krA HO129))) (below_size (hbA HB))); have n2_ := Aside0.mk (below_step (hbA HB) hb); clear HO129; clear HB; have HO129 := n0_; have HO134 := n1_; have HB := n2_; clear n0_ n1_ n2_; (try clear hb); (try clear hb2); (try clear hk); (try clear hi); (try clear ho0)) | ((with_reducible refine gate_dst (N := 13) rfl ?_); (try (refine gate_guard (by rfl) ?_; dsimp only)); refine box_event ?hg (N := 13) ?hd (cs := #[.string (⟨#[]⟩ : ByteArray), .int .i64 0, .slice none 0 0, .string (⟨#[]⟩ : ByteArray)]) (t := 62) ?hr ?_; (case hd => rfl); (case hg => rfl); (case hr => first | (go_simp; done) | (go_simp; rfl)); intro gb136 hg w40 hbox hb; have n0_ := Aside0.mk (Kd.R_below (krA HO129) hb); have n1_ := Aside0.mk (Kd.R_below (krA HO134) hb); have n2_ := Aside0.mk (below_step (hbA HB) hb); have n3_ := Aside0.mk (hbox); have n4_ := Aside0.mk ((by rw [hg]; exact (below_size (hbA HB)) : w.heap.size ≤ gb136)); have n5_ := Aside0.mk ((by rw [hg]; exact (below_size (hbA HB)) : w.heap.size ≤ gb136)); clear HO129; clear HO134; clear HB; have HO129 := n0_; have HO134 := n1_; have HB := n2_; have BK136 := n3_; have GW136 := n4_; have GE136 := n5_; clear n0_ n1_ n2_ n3_ n4_ n5_; clear hb hbox hg; have hcz41_0 : w40.cell? ⟨gb136, 0, none⟩ = some (.string (⟨#[]⟩ : ByteArray)) := bcA BK136 0; have hcz41_1 : w40.cell? ⟨gb136, 1, none⟩ = some (.int .i64 0) := bcA BK136 1; have hcz41_2 : w40.cell? ⟨gb136, 2, none⟩ = some (.slice none 0 0) := bcA BK136 2; have hcz41_3 : w40.cell? ⟨gb136, 3, none⟩ = some (.string (⟨#[]⟩ : ByteArray)) := bcA BK136 3; have hfz41_0 := blk_frozen BK136.out 0; have hfz41_1 := blk_frozen BK136.out 1; have hfz41_2 := blk_frozen BK136.out 2; have hfz41_3 := blk_frozen BK136.out 3; obtain ⟨Ao42, co42, eo42⟩ := Kd.R_slice HO134.out; subst eo42) | ((with_reducible refine gate_store (t := 62) (p := 13) rfl ?_); refine store_event (t := 62) (p := 13) (v := ?vo_w43) (w1 := ((((w40.setCell ⟨gb136, 0, none⟩ (.string t130)).setCell ⟨gb136, 1, none⟩ (.int .i64 t131)).setCell ⟨gb136, 2, none⟩ (.slice Ao42 t132.length co42)).setCell ⟨gb136, 3, none⟩ (.string t135))) ?hg ?ho ?hn ?hr ?_; (case ho => rfl); (case hg => rfl); (case hn => rfl); (case hr => first | (go_simp; done) | (go_simp; rfl)); intro w43 hw; have n0_ : Aside0 (Kd.R (Kd.int .i64) 2 w43 w.heap.size (fun k_ => some k_ ≠ (.slice Ao42 t132.length co42 : Value).ownBlock) (.slice Ao38 y127.length co38) y127) := ⟨(by rw [hw]; exact (by (with_reducible repeat (first | apply Kd.R_alloc | apply Kd.R_drewN | apply Kd.R_drew)); exact Kd.R_mono (Kd.R_far (p := ⟨gb136, 3, none⟩) (Kd.R_far (p := ⟨gb136, 2, none⟩) (Kd.R_far (p := ⟨gb136, 1, none⟩) (Kd.R_far (p := ⟨gb136, 0, none⟩) (Kd.R_types HO129.out BK136.out (by decide)) (fun _ hk => hk.2) (.string t130)) (fun _ hk => hk.2) (.int .i64 t131)) (fun _ hk => hk.2) (.slice Ao42 t132.length co42)) (fun _ hk => hk.2) (.string t135)) (fun _ hk => hk.1.2)))⟩; have n1_ : Aside0 (Kd.R (Kd.int .i64) 2 w43 w.heap.size (fun k_ => some k_ ≠ (.slice Ao38 y127.length co38 : Value).ownBlock) (.slice Ao42 t132.length co42) t132) := ⟨(by rw [hw]; exact (by (with_reducible repeat (first | apply Kd.R_alloc | apply Kd.R_drewN | apply Kd.R_drew)); exact Kd.R_mono (Kd.R_far (p := ⟨gb136, 3, none⟩) (Kd.R_far (p := ⟨gb136, 2, none⟩) (Kd.R_far (p := ⟨gb136, 1, none⟩) (Kd.R_far (p := ⟨gb136, 0, none⟩) (Kd.R_types HO134.out BK136.out (by decide)) (fun _ hk => hk.2) (.string t130)) (fun _ hk => hk.2) (.int .i64 t131)) (fun _ hk => hk.2) (.slice Ao42 t132.length co42)) (fun _ hk => hk.2) (.string t135)) (fun _ hk => hk.1.2)))⟩; have n2_ : Aside0 (w43.heap[gb136]? = some (.cells #[.string t130, .int .i64 t131, .slice Ao42 t132.length co42, .string t135] 62 (0, 0))) := ⟨(by rw [hw]; exact (by (with_reducible repeat (first | refine blk_drewN ?_ _ | refine blk_drew ?_ | refine blk_alloc ?_ _)); refine blk_put (cs := #[.string t130, .int .i64 t131, .slice Ao42 t132.length co42, .string (⟨#[]⟩ : ByteArray)]) ?_ 3 _ rfl; (with_reducible repeat (first | refine blk_drewN ?_ _ | refine blk_drew ?_ | refine blk_alloc ?_ _)); refine blk_put (cs := #[.string t130, .int .i64 t131, .slice none 0 0, .string (⟨#[]⟩ : ByteArray)]) ?_ 2 _ rfl; (with_reducible repeat (first | refine blk_drewN ?_ _ | refine blk_drew ?_ | refine blk_alloc ?_ _)); refine blk_put (cs := #[.string t130, .int .i64 0, .slice none 0 0, .string (⟨#[]⟩ : ByteArray)]) ?_ 1 _ rfl; (with_reducible repeat (first | refine blk_drewN ?_ _ | refine blk_drew ?_ | refine blk_alloc ?_ _)); refine blk_put (cs := #[.string (⟨#[]⟩ : ByteArray), .int .i64 0, .slice none 0 0, .string (⟨#[]⟩ : ByteArray)]) ?_ 0 _ rfl; (with_reducible repeat (first | refine blk_drewN ?_ _ | refine blk_drew ?_ | refine blk_alloc ?_ _)); exact BK136.out))⟩; have n3_ : Aside0 (Below w.heap.size w w43) := ⟨(by rw [hw]; exact (hbA HB))⟩; clear hw; clear HO129; clear HO134; clear BK136; clear HB; have HO129 := n0_; have HO134 := n1_; have BK136 := n2_; have HB := n3_; clear n0_ n1_ n2_ n3_; have p137 : 0 ≤ (0 : Int) := (by omega); have q137 : 0 < (y127.length : Int) := of_decide_eq_true (by first | (with_reducible assumption) | assumption); obtain ⟨ad137, e137, hx137_0⟩ := Kd.at_int (Kd.R_reads' HO129.out).2.2 0 p137 q137; cases e137; have qi137 : (0 < y127.length) = True := eq_true (by omega); (try rw [show ((0 : Int)).toNat = 0 from rfl] at hx137_0); (try rw [Addr.add_zero'] at hx137_0); replace p137 := eq_true p137; replace q137 := eq_true q137; have p21 : 0 ≤ (0 : Int) := (by omega); have q21 : (0 : Int) < ((y127.length : Int) : Int) := of_decide_eq_true (by first | (with_reducible assumption) | assumption); have qi21 : (0 < y127.length) = True := eq_true (by omega); obtain ⟨go21, co21, eo21, gb21, gl21, cl21, HG21⟩ := Kd.R_form HO129.out (by omega); (first | cases eo21 | (injection eo21 with ea_ en_ ec_; (first | subst ea_ | (injection ea_ with ea_; subst ea_)); subst ec_; clear en_)); have GB21 := Aside0.mk gb21; have GG21 := Aside0.mk HG21; clear gb21 gl21 HG21; (first | simp only [add_plain] at hx137_0 | skip); obtain ⟨hx21_0, hf21_0⟩ := Kd.R_celln 0 HO129.out (0 : Int) p21 q21; (try rw [show ((0 : Int)).toNat = 0 from rfl] at hx21_0); (try simp only [Nat.reduceMul, Nat.zero_mul, Nat.zero_add, Nat.reduceAdd] at hx21_0); (try rw [show ((0 : Int)).toNat = 0 from rfl] at hf21_0); (try simp only [Nat.reduceMul, Nat.zero_mul, Nat.zero_add, Nat.reduceAdd] at hf21_0); replace p21 := eq_true p21; replace q21 := eq_true q21; obtain ⟨hy44_, hz44_⟩ := Kd.R_celln 0 HO129.out (0 : Int) (by omega) (of_decide_eq_true (by first | (with_reducible assumption) | assumption)); (try simp only [Int.reduceToNat, Int.toNat_zero, Int.toNat_ofNat, Nat.reduceMul, Nat.zero_mul, Nat.zero_add] at hy44_ hz44_); (try rw [show ((0 : Int)).toNat = 0 from rfl] at hy44_); (try rw [show ((0 : Int)).toNat = 0 from rfl] at hz44_); have HP44 := Kd.R_putg HO129.out (0 : Int) (wrap64 ((rd y127 0) + 1))) | ((with_reducible refine gate_store (t := 2) (p := 67) rfl ?_); refine store_event (t := 2) (p := 67) (v := ?vo_w45) (w1 := (w43.setCell ⟨go21, (0 : Int).toNat, none⟩ (.int .i64 (wrap64 ((rd y127 0) + 1))))) ?hg ?ho ?hn ?hr ?_; (case ho => rfl); (case hg => rfl); (case hn => rfl); (case hr => first | (go_simp; done) | (go_simp; rfl)); intro w45 hw; have hg : w43.grownBy w45 (some go21) := (by rw [hw]; exact HP44.2); have hp_ : Kd.R (Kd.int .i64) 2 w45 w.heap.size (fun k_ => some k_ ≠ (.slice Ao42 t132.length co42 : Value).ownBlock) (.slice (some ⟨go21, 0, none⟩) y127.length co38) y138 := (by rw [hw, Ny138.out]; exact HP44.1); clear HP44; have n0_ := Aside0.mk (hp_); have n1_ := Aside0.mk (Kd.R_after (v := (.slice (some ⟨go21, 0, none⟩) y127.length co38)) (v1 := (.slice (some ⟨go21, 0, none⟩) y127.length co38)) (ok := (fun _ => True)) (by (with_reducible repeat (first | apply Kd.R_alloc | apply Kd.R_drewN | apply Kd.R_drew)); exact Kd.R_mono HO134.out (fun _ hk => ⟨trivial, hk⟩)) hg (.inl rfl)); have n2_ := Aside0.mk (blk_grown (g := gb136) (bkA BK136) hg (Kd.R_ne HO129.out BK136.out (by decide))); have n3_ := Aside0.mk ((by rw [hw]; exact below_set (HB.out) GB21.out : Below w.heap.size w w45)); clear HO129; clear HO134; clear BK136; clear HB; have HO129 := n0_; have HO134 := n1_; have BK136 := n2_; have HB := n3_; clear n0_ n1_ n2_ n3_; clear hg hw hp_; have hcz46_0 : w45.cell? ⟨gb136, 0, none⟩ = some (.string t130) := bcA BK136 0; have hcz46_1 : w45.cell? ⟨gb136, 1, none⟩ = some (.int .i64 t131) := bcA BK136 1; have hcz46_2 : w45.cell? ⟨gb136, 2, none⟩ = some (.slice Ao42 t132.length co42) := bcA BK136 2; have hcz46_3 : w45.cell? ⟨gb136, 3, none⟩ = some (.string t135) := bcA BK136 3; have hfz46_0 := blk_frozen BK136.out 0; have hfz46_1 := blk_frozen BK136.out 1; have hfz46_2 := blk_frozen BK136.out 2; have hfz46_3 := blk_frozen BK136.out 3) | ((with_reducible refine gate_callee (f := 45) rfl ?_); refine goesL_ (some 70) rfl rfl Try.func45 (by kernel_rfl) rfl #[.agg #[.string t130, .int .i64 t131, .slice Ao42 t132.length co42, .string t135]] rfl (by (try simp only [List.map_toArray, List.map_cons, List.map_nil]); first | done | rfl | (simp only [List.length_drop, List.length_take]; rfl)) ?_; (with_reducible refine (tensor_Tensor_Ints.calls t130 t131 _ _ t132 t135 t139 t142 _ ?side1 ?side2 A22.out).mono ?_); (case side1 => repeat (first | exact (Kd.R_reads' HO134.out).2.2 | (with_reducible refine Kd.C_alloc ?_ _) | (with_reducible refine Kd.C_drewN ?_ _) | (with_reducible refine Kd.C_drew ?_))); (case side2 => exact (Kd.R_reads' HO134.out).2.1); rintro e w47 ⟨v140, rfl, ho0, hb⟩; refine ⟨_, rfl, ?_⟩; have n0_ := Aside0.mk (Kd.R_elder' (krA HO129) (Kd.R_base ho0) hb); have n1_ := Aside0.mk (Kd.R_elder' (krA HO134) (Kd.R_base ho0) hb); have n2_ := Aside0.mk (Kd.R_lower (Kd.R_new' (Kd.R_new' ho0 (Kd.R_lt (krA HO129))) (Kd.R_lt (krA HO134))) (below_size (hbA HB))); have n3_ := Aside0.mk (blk_below (g := gb136) (bkA BK136) hb); have n4_ := Aside0.mk (below_step (hbA HB) hb); clear HO129; clear HO134; clear BK136; clear HB; have HO129 := n0_; have HO134 := n1_; have HO141 := n2_; have BK136 := n3_; have HB := n4_; clear n0_ n1_ n2_ n3_ n4_; (try clear hb); (try clear hb2); (try clear hk); (try clear hi); (try clear ho0); have hcz48_0 : w47.cell? ⟨gb136, 0, none⟩ = some (.string t130) := bcA BK136 0; have hcz48_1 : w47.cell? ⟨gb136, 1, none⟩ = some (.int .i64 t131) := bcA BK136 1; have hcz48_2 : w47.cell? ⟨gb136, 2, none⟩ = some (.slice Ao42 t132.length co42) := bcA BK136 2; have hcz48_3 : w47.cell? ⟨gb136, 3, none⟩ = some (.string t135) := bcA BK136 3; have hfz48_0 := blk_frozen BK136.out 0; have hfz48_1 := blk_frozen BK136.out 1; have hfz48_2 := blk_frozen BK136.out 2; have hfz48_3 := blk_frozen BK136.out 3) | ((with_reducible refine gate_dst (N := 93) rfl ?_); (try (refine gate_guard (by rfl) ?_; dsimp only)); refine Kd.R_lit (Kd.int .i64) _ 2 ?hg (N := 93) ?hd (xs := ([(l1.length : Int)] : List Int)) (inner := [.int .i64 (l1.length : Int)]) (ok := fun _ => True) (okp := fun _ => True) ?hr ?hp (fun _ hk => hk) trivial (Below.refl _ _) (Nat.le_refl _) (by simp) ?_; (case hd => rfl); (case hg => rfl); (case hr => first | (go_simp; done) | (go_simp; rfl)); (case hp => exact (Reps.one (show Kd.M (Kd.int .i64) _ _ _ (l1.length : Int) [.int .i64 (l1.length : Int)] from rfl) (Reps.none _ _))); intro v144 w49 ho50 hb hg_ hnew_; clear hg_ hnew_; (first | rw [← Ny143.out] at ho50 | (simp only [Int.reduceToNat] at ho50; rw [← Ny143.out] at ho50)); have n0_ := Aside0.mk (Kd.R_elder' (krA HO129) (Kd.R_base ho50) hb); have n1_ := Aside0.mk (Kd.R_elder' (krA HO134) (Kd.R_base ho50) hb); have n2_ := Aside0.mk (Kd.R_elder' (krA HO141) (Kd.R_base ho50) hb); have n3_ := Aside0.mk (Kd.R_lower (Kd.R_new' (Kd.R_new' (Kd.R_new' ho50 (Kd.R_lt (krA HO129))) (Kd.R_lt (krA HO134))) (Kd.R_lt (krA HO141))) (below_size (hbA HB))); have n4_ := Aside0.mk (blk_below (g := gb136) (bkA BK136) hb); have n5_ := Aside0.mk (below_step (hbA HB) hb); clear HO129; clear HO134; clear HO141; clear BK136; clear HB; have HO129 := n0_; have HO134 := n1_; have HO141 := n2_; have HO145 := n3_; have BK136 := n4_; have HB := n5_; clear n0_ n1_ n2_ n3_ n4_ n5_; clear hb ho50; obtain ⟨Ao51, co51, eo51⟩ := Kd.R_slice HO145.out; subst eo51) | (go_at_call 23; (with_reducible refine (agatelaw03_Ints_s.calls _ _ t132 _ _ y143 true _ ?side1 ?side2 ?side3 ?side4 A26.out).mono ?_); (case side1 => repeat (first | exact (Kd.R_reads' HO134.out).2.2 | (with_reducible refine Kd.C_alloc ?_ _) | (with_reducible refine Kd.C_drewN ?_ _) | (with_reducible refine Kd.C_drew ?_))); (case side2 => exact (Kd.R_reads' HO134.out).2.1); (case side3 => repeat (first | exact (Kd.R_reads' HO145.out).2.2 | (with_reducible refine Kd.C_alloc ?_ _) | (with_reducible refine Kd.C_drewN ?_ _) | (with_reducible refine Kd.C_drew ?_))); (case side4 => exact (Kd.R_reads' HO145.out).2.1); rintro e w' ⟨rfl, ⟨nd, rfl⟩⟩; (try (rw [drewN_self w49]; generalize hq_ : World.drewN w49 _ = w49; have n0_ : Aside0 (Kd.R (Kd.int .i64) 2 w49 w.heap.size (fun k_ => some k_ ≠ (.slice Ao42 t132.length co42 : Value).ownBlock ∧ some k_ ≠ (v140 : Value).ownBlock ∧ some k_ ≠ (.slice Ao51 y143.length co51 : Value).ownBlock) (.slice (some ⟨go21, 0, none⟩) y127.length co38) y138) := ⟨by rw [← hq_]; exact (by (with_reducible repeat (first | apply Kd.R_alloc | apply Kd.R_drewN | apply Kd.R_drew)); exact Kd.R_mono HO129.out (fun _ hk => ⟨hk.1.1, ⟨hk.1.2, hk.2⟩⟩))⟩; have n1_ : Aside0 (Kd.R (Kd.int .i64) 2 w49 w.heap.size (fun k_ => some k_ ≠ (.slice (some ⟨go21, 0, none⟩) y127.length co38 : Value).ownBlock ∧ some k_ ≠ (v140 : Value).ownBlock ∧ some k_ ≠ (.slice Ao51 y143.length co51 : Value).ownBlock) (.slice Ao42 t132.length co42) t132) := ⟨by rw [← hq_]; exact (by (with_reducible repeat (first | apply Kd.R_alloc | apply Kd.R_drewN | apply Kd.R_drew)); exact Kd.R_mono HO134.out (fun _ hk => ⟨hk.1.1.2, ⟨hk.1.2, hk.2⟩⟩))⟩; have n2_ : Aside0 (Kd.R (Kd.int .i64) 2 w49 w.heap.size (fun k_ => some k_ ≠ (.slice (some ⟨go21, 0, none⟩) y127.length co38 : Value).ownBlock ∧ some k_ ≠ (.slice Ao42 t132.length co42 : Value).ownBlock ∧ some k_ ≠ (.slice Ao51 y143.length co51 : Value).ownBlock) v140 t139) := ⟨by rw [← hq_]; exact (by (with_reducible repeat (first | apply Kd.R_alloc | apply Kd.R_drewN | apply Kd.R_drew)); exact Kd.R_mono HO141.out (fun _ hk => ⟨hk.1.1.2, ⟨hk.1.2, hk.2⟩⟩))⟩; have n3_ : Aside0 (Kd.R (Kd.int .i64) 2 w49 w.heap.size (fun k_ => some k_ ≠ (.slice (some ⟨go21, 0, none⟩) y127.length co38 : Value).ownBlock ∧ some k_ ≠ (.slice Ao42 t132.length co42 : Value).ownBlock ∧ some k_ ≠ (v140 : Value).ownBlock) (.slice Ao51 y143.length co51) y143) := ⟨by rw [← hq_]; exact (by (with_reducible repeat (first | apply Kd.R_alloc | apply Kd.R_drewN | apply Kd.R_drew)); exact Kd.R_mono HO145.out (fun _ hk => ⟨hk.1.1.2, ⟨hk.1.2, hk.2⟩⟩))⟩; have n4_ : Aside0 (w49.heap[gb136]? = some (.cells #[.string t130, .int .i64 t131, .slice Ao42 t132.length co42, .string t135] 62 (0, 0))) := ⟨by rw [← hq_]; exact (bkA BK136)⟩; have n5_ : Aside0 (Below w.heap.size w w49) := ⟨by rw [← hq_]; exact (hbA HB)⟩; clear HO129 HO134 HO141 HO145 BK136 HB hq_; have HO129 := n0_; have HO134 := n1_; have HO141 := n2_; have HO145 := n3_; have BK136 := n4_; have HB := n5_; clear n0_ n1_ n2_ n3_ n4_ n5_)); obtain ⟨Ao52, co52, eo52⟩ := Kd.R_slice HO141.out; subst eo52) | (go_at_call 23; (with_reducible refine (agatelaw03_Ints_s.calls _ _ t139 _ _ l1 true _ ?side1 ?side2 ?side3 ?side4 A29.out).mono ?_); (case side1 => repeat (first | exact (Kd.R_reads' HO141.out).2.2 | (with_reducible refine Kd.C_alloc ?_ _) | (with_reducible refine Kd.C_drewN ?_ _) | (with_reducible refine Kd.C_drew ?_))); (case side2 => exact (Kd.R_reads' HO141.out).2.1); (case side3 => repeat (first | exact (Kd.C_below HR1.out HB.out) | (with_reducible refine Kd.C_alloc ?_ _) | (with_reducible refine Kd.C_drewN ?_ _) | (with_reducible refine Kd.C_drew ?_))); (case side4 => exact HC1.out); rintro e w' ⟨rfl, ⟨nd, rfl⟩⟩; (try (rw [drewN_self w49]; generalize hq_ : World.drewN w49 _ = w49; have n0_ : Aside0 (Kd.R (Kd.int .i64) 2 w49 w.heap.size (fun k_ => some k_ ≠ (.slice Ao42 t132.length co42 : Value).ownBlock ∧ some k_ ≠ (.slice Ao52 t139.length co52 : Value).ownBlock ∧ some k_ ≠ (.slice Ao51 y143.length co51 : Value).ownBlock) (.slice (some ⟨go21, 0, none⟩) y127.length co38) y138) := ⟨by rw [← hq_]; exact (by (with_reducible repeat (first | apply Kd.R_alloc | apply Kd.R_drewN | apply Kd.R_drew)); exact Kd.R_mono HO129.out (fun _ hk => ⟨hk.1.1, ⟨hk.1.2, hk.2⟩⟩))⟩; have n1_ : Aside0 (Kd.R (Kd.int .i64) 2 w49 w.heap.size (fun k_ => some k_ ≠ (.slice (some ⟨go21, 0, none⟩) y127.length co38 : Value).ownBlock ∧ some k_ ≠ (.slice Ao52 t139.length co52 : Value).ownBlock ∧ some k_ ≠ (.slice Ao51 y143.length co51 : Value).ownBlock) (.slice Ao42 t132.length co42) t132) := ⟨by rw [← hq_]; exact (by (with_reducible repeat (first | apply Kd.R_alloc | apply Kd.R_drewN | apply Kd.R_drew)); exact Kd.R_mono HO134.out (fun _ hk => ⟨hk.1.1.2, ⟨hk.1.2, hk.2⟩⟩))⟩; have n2_ : Aside0 (Kd.R (Kd.int .i64) 2 w49 w.heap.size (fun k_ => some k_ ≠ (.slice (some ⟨go21, 0, none⟩) y127.length co38 : Value).ownBlock ∧ some k_ ≠ (.slice Ao42 t132.length co42 : Value).ownBlock ∧ some k_ ≠ (.slice Ao51 y143.length co51 : Value).ownBlock) (.slice Ao52 t139.length co52) t139) := ⟨by rw [← hq_]; exact (by (with_reducible repeat (first | apply Kd.R_alloc | apply Kd.R_drewN | apply Kd.R_drew)); exact Kd.R_mono HO141.out (fun _ hk => ⟨hk.1.1.2, ⟨hk.1.2, hk.2⟩⟩))⟩; have n3_ : Aside0 (Kd.R (Kd.int .i64) 2 w49 w.heap.size (fun k_ => some k_ ≠ (.slice (some ⟨go21, 0, none⟩) y127.length co38 : Value).ownBlock ∧ some k_ ≠ (.slice Ao42 t132.length co42 : Value).ownBlock ∧ some k_ ≠ (.slice Ao52 t139.length co52 : Value).ownBlock) (.slice Ao51 y143.length co51) y143) := ⟨by rw [← hq_]; exact (by (with_reducible repeat (first | apply Kd.R_alloc | apply Kd.R_drewN | apply Kd.R_drew)); exact Kd.R_mono HO145.out (fun _ hk => ⟨hk.1.1.2, ⟨hk.1.2, hk.2⟩⟩))⟩; have n4_ : Aside0 (w49.heap[gb136]? = some (.cells #[.string t130, .int .i64 t131, .slice Ao42 t132.length co42, .string t135] 62 (0, 0))) := ⟨by rw [← hq_]; exact (bkA BK136)⟩; have n5_ : Aside0 (Below w.heap.size w w49) := ⟨by rw [← hq_]; exact (hbA HB)⟩; clear HO129 HO134 HO141 HO145 BK136 HB hq_; have HO129 := n0_; have HO134 := n1_; have HO141 := n2_; have HO145 := n3_; have BK136 := n4_; have HB := n5_; clear n0_ n1_ n2_ n3_ n4_ n5_))) | ((with_reducible refine gate_dst (N := 110) rfl ?_); (try (refine gate_guard (by rfl) ?_; dsimp only)); refine Kd.R_lit (Kd.int .i64) _ 2 ?hg (N := 110) ?hd (xs := ([(l2.length : Int)] : List Int)) (inner := [.int .i64 (l2.length : Int)]) (ok := fun _ => True) (okp := fun _ => True) ?hr ?hp (fun _ hk => hk) trivial (Below.refl _ _) (Nat.le_refl _) (by simp) ?_; (case hd => rfl); (case hg => rfl); (case hr => first | (go_simp; done) | (go_simp; rfl)); (case hp => exact (Reps.one (show Kd.M (Kd.int .i64) _ _ _ (l2.length : Int) [.int .i64 (l2.length : Int)] from rfl) (Reps.none _ _))); intro v175 w53 ho54 hb hg_ hnew_; clear hg_ hnew_; (first | rw [← Ny174.out] at ho54 | (simp only [Int.reduceToNat] at ho54; rw [← Ny174.out] at ho54)); have n0_ := Aside0.mk (Kd.R_elder' (krA HO129) (Kd.R_base ho54) hb); have n1_ := Aside0.mk (Kd.R_elder' (krA HO134) (Kd.R_base ho54) hb); have n2_ := Aside0.mk (Kd.R_elder' (krA HO141) (Kd.R_base ho54) hb); have n3_ := Aside0.mk (Kd.R_elder' (krA HO145) (Kd.R_base ho54) hb); have n4_ := Aside0.mk (Kd.R_lower (Kd.R_new' (Kd.R_new' (Kd.R_new' (Kd.R_new' ho54 (Kd.R_lt (krA HO129))) (Kd.R_lt (krA HO134))) (Kd.R_lt (krA HO141))) (Kd.R_lt (krA HO145))) (below_size (hbA HB))); have n5_ := Aside0.mk (blk_below (g := gb136) (bkA BK136) hb); have n6_ := Aside0.mk (below_step (hbA HB) hb); clear HO129; clear HO134; clear HO141; clear HO145; clear BK136; clear HB; have HO129 := n0_; have HO134 := n1_; have HO141 := n2_; have HO145 := n3_; have HO176 := n4_; have BK136 := n5_; have HB := n6_; clear n0_ n1_ n2_ n3_ n4_ n5_ n6_; clear hb ho54; obtain ⟨Ao55, co55, eo55⟩ := Kd.R_slice HO176.out; subst eo55) | ((with_reducible refine gate_callee (f := 51) rfl ?_); refine goesL_ (some 112) rfl rfl Try.func51 (by kernel_rfl) rfl #[.string a0, .slice Ao55 y174.length co55, .slice A2 l2.length c2] rfl (by (try simp only [List.map_toArray, List.map_cons, List.map_nil]); first | done | rfl | (simp only [List.length_drop, List.length_take]; rfl)) ?_; (with_reducible refine (tensor_OfFlags.calls a0 _ _ y174 _ _ l2 t177 t178 t179 t182 _ ?side1 ?side2 ?side3 ?side4 A31.out).mono ?_); (case side1 => repeat (first | exact (Kd.R_reads' HO176.out).2.2 | (with_reducible refine Kd.C_alloc ?_ _) | (with_reducible refine Kd.C_drewN ?_ _) | (with_reducible refine Kd.C_drew ?_))); (case side2 => exact (Kd.R_reads' HO176.out).2.1); (case side3 => repeat (first | exact (Kd.C_below HR2.out HB.out) | (with_reducible refine Kd.C_alloc ?_ _) | (with_reducible refine Kd.C_drewN ?_ _) | (with_reducible refine Kd.C_drew ?_))); (case side4 => exact HC2.out); rintro e w56 ⟨v180, rfl, ho0, hb⟩; refine ⟨_, rfl, ?_⟩; have n0_ := Aside0.mk (Kd.R_elder' (krA HO129) (Kd.R_base ho0) hb); have n1_ := Aside0.mk (Kd.R_elder' (krA HO134) (Kd.R_base ho0) hb); have n2_ := Aside0.mk (Kd.R_elder' (krA HO141) (Kd.R_base ho0) hb); have n3_ := Aside0.mk (Kd.R_elder' (krA HO145) (Kd.R_base ho0) hb); have n4_ := Aside0.mk (Kd.R_elder' (krA HO176) (Kd.R_base ho0) hb); have n5_ := Aside0.mk (Kd.R_lower (Kd.R_new' (Kd.R_new' (Kd.R_new' (Kd.R_new' (Kd.R_new' ho0 (Kd.R_lt (krA HO129))) (Kd.R_lt (krA HO134))) (Kd.R_lt (krA HO141))) (Kd.R_lt (krA HO145))) (Kd.R_lt (krA HO176))) (below_size (hbA HB))); have n6_ := Aside0.mk (blk_below (g := gb136) (bkA BK136) hb); have n7_ := Aside0.mk (below_step (hbA HB) hb); clear HO129; clear HO134; clear HO141; clear HO145; clear HO176; clear BK136; clear HB; have HO129 := n0_; have HO134 := n1_; have HO141 := n2_; have HO145 := n3_; have HO176 := n4_; have HO181 := n5_; have BK136 := n6_; have HB := n7_; clear n0_ n1_ n2_ n3_ n4_ n5_ n6_ n7_; (try clear hb); (try clear hb2); (try clear hk); (try clear hi); (try clear ho0); have hcz57_0 : w56.cell? ⟨gb136, 0, none⟩ = some (.string t130) := bcA BK136 0; have hcz57_1 : w56.cell? ⟨gb136, 1, none⟩ = some (.int .i64 t131) := bcA BK136 1; have hcz57_2 : w56.cell? ⟨gb136, 2, none⟩ = some (.slice Ao42 t132.length co42) := bcA BK136 2; have hcz57_3 : w56.cell? ⟨gb136, 3, none⟩ = some (.string t135) := bcA BK136 3; have hfz57_0 := blk_frozen BK136.out 0; have hfz57_1 := blk_frozen BK136.out 1; have hfz57_2 := blk_frozen BK136.out 2; have hfz57_3 := blk_frozen BK136.out 3; obtain ⟨Ao58, co58, eo58⟩ := Kd.R_slice HO181.out; subst eo58) | ((with_reducible refine gate_callee (f := 46) rfl ?_); refine goesL_ (some 115) rfl rfl Try.func46 (by kernel_rfl) rfl #[.agg #[.string t177, .int .i64 t178, .slice Ao58 t179.length co58, .string t182]] rfl (by (try simp only [List.map_toArray, List.map_cons, List.map_nil]); first | done | rfl | (simp only [List.length_drop, List.length_take]; rfl)) ?_; (with_reducible refine (tensor_Tensor_Flags.calls t177 t178 _ _ t179 t182 t183 t186 _ ?side1 ?side2 A32.out).mono ?_); (case side1 => refine (Kd.R_reads' (e := 2) (base := w.heap.size) (ok := fun k_ => (((((True ∧ some k_ ≠ (.slice (some ⟨go21, 0, none⟩) y127.length co38 : Value).ownBlock) ∧ some k_ ≠ (.slice Ao42 t132.length co42 : Value).ownBlock) ∧ some k_ ≠ (.slice Ao52 t139.length co52 : Value).ownBlock) ∧ some k_ ≠ (.slice Ao51 y143.length co51 : Value).ownBlock) ∧ some k_ ≠ (.slice Ao55 y174.length co55 : Value).ownBlock)) (n := t179.length) (c := co58) ?_).2.2; exact (by (with_reducible repeat (first | apply Kd.R_alloc | apply Kd.R_drewN | apply Kd.R_drew)); exact (Kd.R_mono (Kd.R_far (p := ⟨gb136, 3, none⟩) (Kd.R_far (p := ⟨gb136, 2, none⟩) (Kd.R_far (p := ⟨gb136, 1, none⟩) (Kd.R_far (p := ⟨gb136, 0, none⟩) (Kd.R_types HO181.out BK136.out (by decide)) (fun _ hk => hk.2) (.string t177)) (fun _ hk => hk.2) (.int .i64 t178)) (fun _ hk => hk.2) (.slice Ao58 t179.length co58)) (fun _ hk => hk.2) (.string t182)) (fun _ h_ => h_.1)))); (case side2 => exact (Kd.R_reads' HO181.out).2.1); rintro e w59 ⟨v184, rfl, ho0, hb⟩; refine ⟨_, rfl, ?_⟩; have n0_ := Aside0.mk (Kd.R_below (by (with_reducible repeat (first | apply Kd.R_alloc | apply Kd.R_drewN | apply Kd.R_drew)); exact (Kd.R_mono (Kd.R_far (p := ⟨gb136, 3, none⟩) (Kd.R_far (p := ⟨gb136, 2, none⟩) (Kd.R_far (p := ⟨gb136, 1, none⟩) (Kd.R_far (p := ⟨gb136, 0, none⟩) (Kd.R_types HO129.out BK136.out (by decide)) (fun _ hk => hk.2) (.string t177)) (fun _ hk => hk.2) (.int .i64 t178)) (fun _ hk => hk.2) (.slice Ao58 t179.length co58)) (fun _ hk => hk.2) (.string t182)) (fun _ h_ => h_.1))) hb); have n1_ := Aside0.mk (Kd.R_below (by (with_reducible repeat (first | apply Kd.R_alloc | apply Kd.R_drewN | apply Kd.R_drew)); exact (Kd.R_mono (Kd.R_far (p := ⟨gb136, 3, none⟩) (Kd.R_far (p := ⟨gb136, 2, none⟩) (Kd.R_far (p := ⟨gb136, 1, none⟩) (Kd.R_far (p := ⟨gb136, 0, none⟩) (Kd.R_types HO134.out BK136.out (by decide)) (fun _ hk => hk.2) (.string t177)) (fun _ hk => hk.2) (.int .i64 t178)) (fun _ hk => hk.2) (.slice Ao58 t179.length co58)) (fun _ hk => hk.2) (.string t182)) (fun _ h_ => h_.1))) hb); have n2_ := Aside0.mk (Kd.R_below (by (with_reducible repeat (first | apply Kd.R_alloc | apply Kd.R_drewN | apply Kd.R_drew)); exact (Kd.R_mono (Kd.R_far (p := ⟨gb136, 3, none⟩) (Kd.R_far (p := ⟨gb136, 2, none⟩) (Kd.R_far (p := ⟨gb136, 1, none⟩) (Kd.R_far (p := ⟨gb136, 0, none⟩) (Kd.R_types HO141.out BK136.out (by decide)) (fun _ hk => hk.2) (.string t177)) (fun _ hk => hk.2) (.int .i64 t178)) (fun _ hk => hk.2) (.slice Ao58 t179.length co58)) (fun _ hk => hk.2) (.string t182)) (fun _ h_ => h_.1))) hb); have n3_ := Aside0.mk (Kd.R_below (by (with_reducible repeat (first | apply Kd.R_alloc | apply Kd.R_drewN | apply Kd.R_drew)); exact (Kd.R_mono (Kd.R_far (p := ⟨gb136, 3, none⟩) (Kd.R_far (p := ⟨gb136, 2, none⟩) (Kd.R_far (p := ⟨gb136, 1, none⟩) (Kd.R_far (p := ⟨gb136, 0, none⟩) (Kd.R_types HO145.out BK136.out (by decide)) (fun _ hk => hk.2) (.string t177)) (fun _ hk => hk.2) (.int .i64 t178)) (fun _ hk => hk.2) (.slice Ao58 t179.length co58)) (fun _ hk => hk.2) (.string t182)) (fun _ h_ => h_.1))) hb); have n4_ := Aside0.mk (Kd.R_below (by (with_reducible repeat (first | apply Kd.R_alloc | apply Kd.R_drewN | apply Kd.R_drew)); exact (Kd.R_mono (Kd.R_far (p := ⟨gb136, 3, none⟩) (Kd.R_far (p := ⟨gb136, 2, none⟩) (Kd.R_far (p := ⟨gb136, 1, none⟩) (Kd.R_far (p := ⟨gb136, 0, none⟩) (Kd.R_types HO176.out BK136.out (by decide)) (fun _ hk => hk.2) (.string t177)) (fun _ hk => hk.2) (.int .i64 t178)) (fun _ hk => hk.2) (.slice Ao58 t179.length co58)) (fun _ hk => hk.2) (.string t182)) (fun _ h_ => h_.1))) hb); have n5_ := Aside0.mk (Kd.R_below (by (with_reducible repeat (first | apply Kd.R_alloc | apply Kd.R_drewN | apply Kd.R_drew)); exact (Kd.R_mono (Kd.R_far (p := ⟨gb136, 3, none⟩) (Kd.R_far (p := ⟨gb136, 2, none⟩) (Kd.R_far (p := ⟨gb136, 1, none⟩) (Kd.R_far (p := ⟨gb136, 0, none⟩) (Kd.R_types HO181.out BK136.out (by decide)) (fun _ hk => hk.2) (.string t177)) (fun _ hk => hk.2) (.int .i64 t178)) (fun _ hk => hk.2) (.slice Ao58 t179.length co58)) (fun _ hk => hk.2) (.string t182)) (fun _ h_ => h_.1))) hb); have n6_ := Aside0.mk (Kd.R_lower ho0 (below_size (hbA HB))); have n7_ := Aside0.mk (blk_below (g := gb136) (o := .cells #[.string t177, .int .i64 t178, .slice Ao58 t179.length co58, .string t182] 62 (0, 0)) (by (with_reducible repeat (first | refine blk_drewN ?_ _ | refine blk_drew ?_ | refine blk_alloc ?_ _)); refine blk_put (cs := #[.string t177, .int .i64 t178, .slice Ao58 t179.length co58, .string t135]) ?_ 3 _ rfl; (with_reducible repeat (first | refine blk_drewN ?_ _ | refine blk_drew ?_ | refine blk_alloc ?_ _)); refine blk_put (cs := #[.string t177, .int .i64 t178, .slice Ao42 t132.length co42, .string t135]) ?_ 2 _ rfl; (with_reducible repeat (first | refine blk_drewN ?_ _ | refine blk_drew ?_ | refine blk_alloc ?_ _)); refine blk_put (cs := #[.string t177, .int .i64 t131, .slice Ao42 t132.length co42, .string t135]) ?_ 1 _ rfl; (with_reducible repeat (first | refine blk_drewN ?_ _ | refine blk_drew ?_ | refine blk_alloc ?_ _)); refine blk_put (cs := #[.string t130, .int .i64 t131, .slice Ao42 t132.length co42, .string t135]) ?_ 0 _ rfl; (with_reducible repeat (first | refine blk_drewN ?_ _ | refine blk_drew ?_ | refine blk_alloc ?_ _)); exact BK136.out) hb); have n8_ := Aside0.mk (below_step (hbA HB) hb); clear HO129; clear HO134; clear HO141; clear HO145; clear HO176; clear HO181; clear BK136; clear HB; have HO129 := n0_; have HO134 := n1_; have HO141 := n2_; have HO145 := n3_; have HO176 := n4_; have HO181 := n5_; have HO185 := n6_; have BK136 := n7_; have HB := n8_; clear n0_ n1_ n2_ n3_ n4_ n5_ n6_ n7_ n8_; (try clear hb); (try clear hb2); (try clear hk); (try clear hi); (try clear ho0); have hcz60_0 : w59.cell? ⟨gb136, 0, none⟩ = some (.string t177) := bcA BK136 0; have hcz60_1 : w59.cell? ⟨gb136, 1, none⟩ = some (.int .i64 t178) := bcA BK136 1; have hcz60_2 : w59.cell? ⟨gb136, 2, none⟩ = some (.slice Ao58 t179.length co58) := bcA BK136 2; have hcz60_3 : w59.cell? ⟨gb136, 3, none⟩ = some (.string t182) := bcA BK136 3; have hfz60_0 := blk_frozen BK136.out 0; have hfz60_1 := blk_frozen BK136.out 1; have hfz60_2 := blk_frozen BK136.out 2; have hfz60_3 := blk_frozen BK136.out 3; obtain ⟨Ao61, co61, eo61⟩ := Kd.R_slice HO185.out; subst eo61))
                 go_loopg [134] k2 (fun kq v134 w' => ∃ (x134_3 : Int), v134 = .int .i64 x134_3 ∧ Aside0 (agatelaw07_TensorMakes.l1 kq a0 l2 l3 t183 (l2.length : Int) x134_3 = some r) ∧ Aside0 (kq ≤ k2) ∧ Aside0 (Kd.R Kd.bool 4 w' w.heap.size (fun _ => True) (.slice Ao61 t183.length co61) t183) ∧ Aside0 (Kd.R (Kd.int .i64) 2 w' w.heap.size (fun _ => True) (.slice Ao58 t179.length co58) t179) ∧ Aside0 (w'.heap[gb136]? = some (.cells #[.string t177, .int .i64 t178, (.slice Ao58 t179.length co58), .string t182] 62 (0, 0))) ∧ Aside0 (Below w.heap.size w w'))
                 case atStart => exact ⟨(0), (by first | rfl | (simp; done) | (simp [*]; done)), H', ⟨Nat.le_refl _⟩, ⟨krA HO185⟩, ⟨by (with_reducible repeat (first | apply Kd.R_alloc | apply Kd.R_drewN | apply Kd.R_drew)); exact Kd.R_mono HO181.out (fun _ hk => trivial)⟩, ⟨bkA BK136⟩, ⟨hbA HB⟩⟩
                 case round =>
                  clear H'
                  obtain ⟨x134_3, rfl, HA, HK3, HO_16, HO_137002, BK136, HB⟩ := hrel
                  cases gk with
                  | zero => exact absurd HA.out (by simp [agatelaw07_TensorMakes.l1])
                  | succ k3 =>
                   have H := HA.out; clear HA
                   simp only [agatelaw07_TensorMakes.l1] at H
                   by_cases c62 : x134_3 < (l2.length : Int)
                   ·
                    rw [if_pos c62] at H
                    have c62b0 : decide (x134_3 < (l2.length : Int)) = true := decide_eq_true c62
                    clear c62
                    by_cases c63 : 0 ≤ x134_3
                    ·
                     rw [if_pos c63] at H
                     have c63b0 : decide (0 ≤ x134_3) = true := decide_eq_true c63
                     clear c63
                     by_cases c64 : x134_3 < (l2.length : Int)
                     ·
                      rw [if_pos c64] at H
                      have c64b0 : decide (x134_3 < (l2.length : Int)) = true := decide_eq_true c64
                      clear c64
                      by_cases c65 : x134_3 < (t183.length : Int)
                      ·
                       rw [if_pos c65] at H
                       have c65b0 : decide (x134_3 < (t183.length : Int)) = true := decide_eq_true c65
                       clear c65
                       by_cases c66 : ((rdOf false l2 x134_3) != (rdOf false t183 x134_3)) = true
                       ·
                        rw [if_pos c66] at H
                        exact absurd H (by simp)
                       ·
                        rw [if_neg c66] at H
                        have c66b0 : ((rdOf false l2 x134_3) != (rdOf false t183 x134_3)) = false := by simpa using c66
                        (try (have c66b1 : decide ((rdOf false l2 x134_3) = (rdOf false t183 x134_3)) = true := by simpa using c66))
                        (try (have c66b2 : ((rdOf false l2 x134_3) == (rdOf false t183 x134_3)) = true := by simpa using c66))
                        clear c66
                        have H' := Aside0.mk H
                        clear H
                        try go_wp2
                        have n0_ := Aside0.mk (Kd.R_drew HO_16.out)
                        have n1_ := Aside0.mk (Kd.R_drew HO_137002.out)
                        have n2_ := Aside0.mk (blk_drew BK136.out)
                        have n3_ := Aside0.mk (below_drew1 HB.out)
                        clear HO_16; clear HO_137002; clear BK136; clear HB; have HO_16 := n0_; have HO_137002 := n1_; have BK136 := n2_; have HB := n3_; clear n0_ n1_ n2_ n3_
                        have p189 : 0 ≤ (x134_3 : Int) := of_decide_eq_true (by first | (with_reducible assumption) | assumption)
                        have q189 : x134_3 < (l2.length : Int) := of_decide_eq_true (by first | (with_reducible assumption) | assumption)
                        obtain ⟨ad189, e189, hx189_0⟩ := Kd.at_bool HR2.out x134_3 p189 q189
                        have hw189_0 := hx189_0
                        cases e189
                        replace hx189_0 := (HB.out.cell (World.block_lt_of_cell? w _ hx189_0)).trans hx189_0
                        replace p189 := eq_true p189
                        replace q189 := eq_true q189
                        have p190 : 0 ≤ (x134_3 : Int) := of_decide_eq_true (by first | (with_reducible assumption) | assumption)
                        have q190 : x134_3 < (t183.length : Int) := of_decide_eq_true (by first | (with_reducible assumption) | assumption)
                        obtain ⟨ad190, e190, hx190_0⟩ := Kd.at_bool (Kd.R_reads' HO_16.out).2.2 x134_3 p190 q190
                        cases e190
                        replace p190 := eq_true p190
                        replace q190 := eq_true q190
                        refine start_ (n := 9) (S := fun w' => w'.cell? (ad189.add (x134_3).toNat) = some (.bool (rdOf false l2 x134_3)) ∧ w'.cell? (ad190.add (x134_3).toNat) = some (.bool (rdOf false t183 x134_3))) (ds := []) #[false, false, false, false, false, false, false, false, false] (by kernel_rfl) rfl rfl ⟨((HB.out.cell (World.block_lt_of_cell? w _ hw189_0)).trans hw189_0), hx190_0⟩ (fun hHeld => ?_); refine with_tabW agatelaw07_TensorMakes.tab22 agatelaw07_TensorMakes.bits22 (fun HT_ HW_ => ?_)
                        generalize wr.drew = w67 at HO_16 HO_137002 BK136 HB hx189_0 hx190_0 hHeld ⊢
                        refine pure_ (i := 0) (N := some 137) (v := ?_) (a' := ?_) #[true, false, false, false, false, false, false, false, false] rfl rfl (any_of HT_.out (by kernel_rfl)) (fun _ _ _ h => h) (Or.inl ⟨by rfl, ?_⟩) ?_ ?_
                        rotate_left
                        ·
                         intro w'
                         go_simp
                         with_reducible rfl
                        rotate_left
                        ·
                         simp only [Act.put, List.setIfInBounds_toArray, List.set_cons_zero, List.set_cons_succ, i64_w, i32_w]
                         rfl
                        refine pure_ (i := 1) (N := some 138) (v := ?_) (a' := ?_) #[true, true, false, false, false, false, false, false, false] rfl rfl (any_of HT_.out (by kernel_rfl)) (fun _ _ _ h => h) (Or.inl ⟨by rfl, ?_⟩) ?_ ?_
                        rotate_left
                        ·
                         intro w'
                         go_simp
                         with_reducible rfl
                        rotate_left
                        ·
                         simp only [Act.put, List.setIfInBounds_toArray, List.set_cons_zero, List.set_cons_succ, i64_w, i32_w]
                         rfl
                        refine pure_ (i := 2) (N := some 139) (v := ?_) (a' := ?_) #[true, true, true, false, false, false, false, false, false] rfl rfl (any_of HT_.out (by kernel_rfl)) (fun _ _ _ h => h) (Or.inl ⟨by rfl, ?_⟩) ?_ ?_
                        rotate_left
                        ·
                         intro w'
                         go_simp
                         with_reducible rfl
                        rotate_left
                        ·
                         simp only [Act.put, List.setIfInBounds_toArray, List.set_cons_zero, List.set_cons_succ, i64_w, i32_w]
                         rfl
                        refine pure_ (i := 4) (N := some 141) (v := ?_) (a' := ?_) #[true, true, true, false, true, false, false, false, false] rfl rfl (any_of HT_.out (by kernel_rfl)) (fun _ _ _ h => h) (Or.inl ⟨by rfl, ?_⟩) ?_ ?_
                        rotate_left
                        ·
                         intro w'
                         go_simp
                         with_reducible rfl
                        rotate_left
                        ·
                         simp only [Act.put, List.setIfInBounds_toArray, List.set_cons_zero, List.set_cons_succ, i64_w, i32_w]
                         rfl
                        refine pure_ (i := 5) (N := some 142) (v := ?_) (a' := ?_) #[true, true, true, false, true, true, false, false, false] rfl rfl (any_of HT_.out (by kernel_rfl)) (fun _ _ _ h => h) (Or.inl ⟨by rfl, ?_⟩) ?_ ?_
                        rotate_left
                        ·
                         intro w'
                         go_simp
                         with_reducible rfl
                        rotate_left
                        ·
                         simp only [Act.put, List.setIfInBounds_toArray, List.set_cons_zero, List.set_cons_succ, i64_w, i32_w]
                         rfl
                        refine pure_ (i := 6) (N := some 143) (v := ?_) (a' := ?_) #[true, true, true, false, true, true, true, false, false] rfl rfl (any_of HT_.out (by kernel_rfl)) (fun _ _ _ h => h) (Or.inl ⟨by rfl, ?_⟩) ?_ ?_
                        rotate_left
                        ·
                         intro w'
                         go_simp
                         with_reducible rfl
                        rotate_left
                        ·
                         simp only [Act.put, List.setIfInBounds_toArray, List.set_cons_zero, List.set_cons_succ, i64_w, i32_w]
                         rfl
                        refine take_ (i := 3) (N := some 140) (v := ?_) (a' := ?_) #[true, true, true, true, true, true, true, false, false] rfl rfl (take_ofW HT_.out HW_.out (by kernel_rfl)) (fun _ _ _ h => h) (Or.inl ⟨by rfl, ?_⟩) hHeld ?_ ?_
                        rotate_left
                        ·
                         rintro w' ⟨s0, s1⟩
                         go_simp
                         with_reducible rfl
                        rotate_left
                        ·
                         simp only [Act.put, List.setIfInBounds_toArray, List.set_cons_zero, List.set_cons_succ, i64_w, i32_w]
                         rfl
                        refine take_ (i := 7) (N := some 144) (v := ?_) (a' := ?_) #[true, true, true, true, true, true, true, true, false] rfl rfl (take_ofW HT_.out HW_.out (by kernel_rfl)) (fun _ _ _ h => h) (Or.inl ⟨by rfl, ?_⟩) hHeld ?_ ?_
                        rotate_left
                        ·
                         rintro w' ⟨s0, s1⟩
                         go_simp
                         with_reducible rfl
                        rotate_left
                        ·
                         simp only [Act.put, List.setIfInBounds_toArray, List.set_cons_zero, List.set_cons_succ, i64_w, i32_w]
                         rfl
                        refine pure_ (i := 8) (N := some 145) (v := ?_) (a' := ?_) #[true, true, true, true, true, true, true, true, true] rfl rfl (any_of HT_.out (by kernel_rfl)) (fun _ _ _ h => h) (Or.inl ⟨by rfl, ?_⟩) ?_ ?_
                        rotate_left
                        ·
                         intro w'
                         go_simp
                         with_reducible rfl
                        rotate_left
                        ·
                         simp only [Act.put, List.setIfInBounds_toArray, List.set_cons_zero, List.set_cons_succ, i64_w, i32_w]
                         rfl
                        refine done_ (done_of HT_.out (by kernel_rfl)) ?_
                        try go_wp2
                        go_roundg k3
                        case measure => have := HJ4.out; have := HK2.out; have := HK3.out; omega
                        case rel => exact ⟨(wrap64 (x134_3 + 1)), (by first | rfl | (simp; done) | (simp [*]; done)), H', ⟨by have := HJ4.out; have := HK2.out; have := HK3.out; omega⟩, ⟨krA HO_16⟩, ⟨krA HO_137002⟩, ⟨bkA BK136⟩, ⟨hbA HB⟩⟩
                      ·
                       rw [if_neg c65] at H
                       exact absurd H (by simp)
                     ·
                      exact absurd (of_decide_eq_true c62b0) c64
                    ·
                     rw [if_neg c63] at H
                     exact absurd H (by simp)
                   ·
                    rw [if_neg c62] at H
                    have c62b0 : decide (x134_3 < (l2.length : Int)) = false := decide_eq_false c62
                    clear c62
                    have H' := Aside0.mk H
                    clear H
                    go_wp2
                    go_loopg [9, 18, 149] k3 (fun kq v9 v18 v149 w' => ∃ (x9_4 : ByteArray) (x18_4 : List (Nat × Nat)) (x149_4 : Int), v9 = .string x9_4 ∧ v149 = .int .i64 x149_4 ∧ Aside0 (agatelaw07_TensorMakes.l2 kq a0 l3 x9_4 x18_4 l3 (l3.length : Int) x149_4 = some r) ∧ Aside0 (kq ≤ k3) ∧ Aside0 (Kd.R kdC 26 w' w.heap.size (fun _ => True) v18 x18_4) ∧ Aside0 (Kd.R (Kd.int .i64) 2 w' w.heap.size (fun _ => True) (.slice Ao58 t179.length co58) t179) ∧ Aside0 (w'.heap[gb136]? = some (.cells #[.string t177, .int .i64 t178, (.slice Ao58 t179.length co58), .string t182] 62 (0, 0))) ∧ Aside0 (Below w.heap.size w w'))
                    case atStart => exact ⟨((⟨#[]⟩ : ByteArray)), (([] : List (Nat × Nat))), (0), (by first | rfl | (simp; done) | (simp [*]; done)), (by first | rfl | (simp; done) | (simp [*]; done)), H', ⟨Nat.le_refl _⟩, ⟨by first | exact Kd.R_nil _ _ _ _ _ | exact Kd.N_nil _ _ _ _ _ | exact Kd.V_nil _ _ _ _ _ | exact Kd.Q_nil _ _ _ _ _ | exact Kd.S_nil _ _ _ _ _⟩, ⟨krA HO_137002⟩, ⟨bkA BK136⟩, ⟨hbA HB⟩⟩
                    case round =>
                     clear H'
                     obtain ⟨x9_4, x18_4, x149_4, rfl, rfl, HA, HK4, HO_18, HO_137002, BK136, HB⟩ := hrel
                     cases gk with
                     | zero => exact absurd HA.out (by simp [agatelaw07_TensorMakes.l2])
                     | succ k4 =>
                      have H := HA.out; clear HA
                      simp only [agatelaw07_TensorMakes.l2] at H
                      by_cases c68 : x149_4 < (l3.length : Int)
                      ·
                       rw [if_pos c68] at H
                       have c68b0 : decide (x149_4 < (l3.length : Int)) = true := decide_eq_true c68
                       clear c68
                       by_cases c69 : 0 ≤ x149_4
                       ·
                        rw [if_pos c69] at H
                        have c69b0 : decide (0 ≤ x149_4) = true := decide_eq_true c69
                        clear c69
                        by_cases c70 : x149_4 < (l3.length : Int)
                        ·
                         rw [if_pos c70] at H
                         have c70b0 : decide (x149_4 < (l3.length : Int)) = true := decide_eq_true c70
                         clear c70
                         replace H := Option.bind_eq_some_iff.mp H
                         obtain ⟨t199, A710, H⟩ := H
                         replace H : (if t199 = true then ((agateref06_Put_s.f ((rd_T23 l3 x149_4).f0) ((rd_T23 l3 x149_4).f1)).bind fun bt207 => (if x9_4.size + bt207.1.size ≤ 9223372036854775807 then ((agatelaw06_OfX.f ((rd_T23 l3 x149_4).f0) ((rd_T23 l3 x149_4).f1)).bind fun t209 => (if x18_4.length < 8796093022208 then (agatelaw07_TensorMakes.l2 k4 a0 l3 (x9_4 ++ bt207.1) (x18_4 ++ [t209]) l3 (l3.length : Int) (wrap64 (x149_4 + 1))) else (none))) else (none))) else ((agatelaw07_Awake.f).bind fun t200 => (some t200))) = some r := H
                         have A71 := Aside0.mk A710
                         clear A710
                         by_cases c72 : t199 = true
                         ·
                          subst c72
                          have H1 : ((agateref06_Put_s.f ((rd_T23 l3 x149_4).f0) ((rd_T23 l3 x149_4).f1)).bind fun bt207 => (if x9_4.size + bt207.1.size ≤ 9223372036854775807 then ((agatelaw06_OfX.f ((rd_T23 l3 x149_4).f0) ((rd_T23 l3 x149_4).f1)).bind fun t209 => (if x18_4.length < 8796093022208 then (agatelaw07_TensorMakes.l2 k4 a0 l3 (x9_4 ++ bt207.1) (x18_4 ++ [t209]) l3 (l3.length : Int) (wrap64 (x149_4 + 1))) else (none))) else (none))) = some r := by rw [if_pos rfl] at H; exact H
                          clear H
                          have H := H1
                          clear H1
                          replace H := Option.bind_eq_some_iff.mp H
                          obtain ⟨⟨t207, t208⟩, A730, H⟩ := H
                          replace H : (if x9_4.size + t207.size ≤ 9223372036854775807 then ((agatelaw06_OfX.f ((rd_T23 l3 x149_4).f0) ((rd_T23 l3 x149_4).f1)).bind fun t209 => (if x18_4.length < 8796093022208 then (agatelaw07_TensorMakes.l2 k4 a0 l3 (x9_4 ++ t207) (x18_4 ++ [t209]) l3 (l3.length : Int) (wrap64 (x149_4 + 1))) else (none))) else (none)) = some r := H
                          have A73 := Aside0.mk A730
                          clear A730
                          by_cases c74 : x9_4.size + t207.size ≤ 9223372036854775807
                          ·
                           rw [if_pos c74] at H
                           have c74b0 := eq_true c74
                           have c74b1 : decide (x9_4.size + t207.size ≤ 9223372036854775807) = true := decide_eq_true c74
                           try have c74b2 : (9223372036854775807 < x9_4.size + t207.size) = False := eq_false (Nat.not_lt.2 c74)
                           try have c74b3 := c74b2
                           try simp only [ByteArray.size_append] at c74b3
                           replace H := Option.bind_eq_some_iff.mp H
                           obtain ⟨t209, A750, H⟩ := H
                           replace H : (if x18_4.length < 8796093022208 then (agatelaw07_TensorMakes.l2 k4 a0 l3 (x9_4 ++ t207) (x18_4 ++ [t209]) l3 (l3.length : Int) (wrap64 (x149_4 + 1))) else (none)) = some r := H
                           have A75 := Aside0.mk A750
                           clear A750
                           by_cases c76 : x18_4.length < 8796093022208
                           ·
                            rw [if_pos c76] at H
                            have LMc76 := Aside0.mk c76
                            clear c76
                            obtain ⟨y210, hy210⟩ : ∃ y_ : List (Nat × Nat), y_ = (x18_4 ++ [t209]) := ⟨_, rfl⟩
                            replace H : (agatelaw07_TensorMakes.l2 k4 a0 l3 (x9_4 ++ t207) y210 l3 (l3.length : Int) (wrap64 (x149_4 + 1))) = some r := by first | (rw [hy210]; with_reducible exact H) | (have H2_ := (Option.bind_some _ _).symm.trans H; rw [hy210]; with_reducible exact H2_) | (have H2_ := (Option.bind_some _ _).symm.trans H; with_reducible exact H2_) | with_reducible exact H | (rw [hy210]; exact H) | exact H
                            have Ny210 := Aside0.mk hy210
                            clear hy210
                            have H' := Aside0.mk H
                            clear H
                            have p197 : 0 ≤ (x149_4 : Int) := of_decide_eq_true (by first | (with_reducible assumption) | assumption)
                            have q197 : x149_4 < (l3.length : Int) := of_decide_eq_true (by first | (with_reducible assumption) | assumption)
                            obtain ⟨ad197, e197, hx197_0, hx197_1⟩ := at_T23 HR3.out x149_4 p197 q197
                            cases e197
                            replace hx197_0 := (HB.out.cell (World.block_lt_of_cell? w _ hx197_0)).trans hx197_0
                            replace hx197_1 := (HB.out.cell (World.block_lt_of_cell? w _ hx197_1)).trans hx197_1
                            replace p197 := eq_true p197
                            replace q197 := eq_true q197
                            go_wp2_with (first | ((with_reducible refine gate_dst (N := 20) rfl ?_); (try (refine gate_guard (by rfl) ?_; dsimp only)); refine box_event ?hg (N := 20) ?hd (cs := #[.int .i64 0, .int .i64 0]) (t := 23) ?hr ?_; (case hd => rfl); (case hg => rfl); (case hr => first | (go_simp; done) | (go_simp; rfl)); intro gb198 hg w77 hbox hb; have n0_ := Aside0.mk (Kd.R_below (krA HO_18) hb); have n1_ := Aside0.mk (Kd.R_below (krA HO_137002) hb); have n2_ := Aside0.mk (blk_below (g := gb136) (bkA BK136) hb); have n3_ := Aside0.mk (below_step (hbA HB) hb); have n4_ := Aside0.mk (hbox); have n5_ := Aside0.mk ((by rw [hg]; exact (below_size (hbA HB)) : w.heap.size ≤ gb198)); have n6_ := Aside0.mk ((by rw [hg]; exact (below_size (hbA HB)) : w.heap.size ≤ gb198)); have n7_ := Aside0.mk ((by rw [hg]; exact Nat.ne_of_lt (blk_lt (g := gb136) (bkA BK136)) : gb136 ≠ gb198)); have n8_ := Aside0.mk ((by rw [hg]; exact Nat.ne_of_gt (blk_lt (g := gb136) (bkA BK136)) : gb198 ≠ gb136)); clear HO_18; clear HO_137002; clear BK136; clear HB; have HO_18 := n0_; have HO_137002 := n1_; have BK136 := n2_; have HB := n3_; have BK198 := n4_; have GW198 := n5_; have GE198 := n6_; have NB136_198 := n7_; have NB198_136 := n8_; clear n0_ n1_ n2_ n3_ n4_ n5_ n6_ n7_ n8_; clear hb hbox hg; have hnb78 := NB198_136.out; have hnc78 := NB136_198.out; have hcz79_0 : w77.cell? ⟨gb198, 0, none⟩ = some (.int .i64 0) := bcA BK198 0; have hcz79_1 : w77.cell? ⟨gb198, 1, none⟩ = some (.int .i64 0) := bcA BK198 1; have hfz79_0 := blk_frozen BK198.out 0; have hfz79_1 := blk_frozen BK198.out 1) | ((with_reducible refine gate_callee (f := 52) rfl ?_); refine goesL_ (some 154) rfl rfl Try.func52 (by kernel_rfl) rfl #[.agg #[.int .i64 ((rd_T23 l3 x149_4).f0), .int .i64 ((rd_T23 l3 x149_4).f1)]] rfl (by (try simp only [List.map_toArray, List.map_cons, List.map_nil]); first | done | rfl | (simp only [List.length_drop, List.length_take]; rfl)) ?_; (with_reducible refine (agateref06_May_s.calls ((rd_T23 l3 x149_4).f0) ((rd_T23 l3 x149_4).f1) true _ A71.out).mono ?_); rintro e w80 ⟨rfl, hb⟩; refine ⟨_, rfl, ?_⟩; have n0_ := Aside0.mk (Kd.R_below (by (with_reducible repeat (first | apply Kd.R_alloc | apply Kd.R_drewN | apply Kd.R_drew)); exact (Kd.R_mono (Kd.R_far (p := ⟨gb198, 1, none⟩) (Kd.R_far (p := ⟨gb198, 0, none⟩) (Kd.R_types HO_18.out BK198.out (by decide)) (fun _ hk => hk.2) (.int .i64 ((rd_T23 l3 x149_4).f0))) (fun _ hk => hk.2) (.int .i64 ((rd_T23 l3 x149_4).f1))) (fun _ h_ => h_.1))) hb); have n1_ := Aside0.mk (Kd.R_below (by (with_reducible repeat (first | apply Kd.R_alloc | apply Kd.R_drewN | apply Kd.R_drew)); exact (Kd.R_mono (Kd.R_far (p := ⟨gb198, 1, none⟩) (Kd.R_far (p := ⟨gb198, 0, none⟩) (Kd.R_types HO_137002.out BK198.out (by decide)) (fun _ hk => hk.2) (.int .i64 ((rd_T23 l3 x149_4).f0))) (fun _ hk => hk.2) (.int .i64 ((rd_T23 l3 x149_4).f1))) (fun _ h_ => h_.1))) hb); have n2_ := Aside0.mk (blk_below (g := gb136) (o := .cells #[.string t177, .int .i64 t178, .slice Ao58 t179.length co58, .string t182] 62 (0, 0)) (by (with_reducible repeat (first | refine blk_drewN ?_ _ | refine blk_drew ?_ | refine blk_alloc ?_ _)); refine blk_far ?_ NB136_198.out _; (with_reducible repeat (first | refine blk_drewN ?_ _ | refine blk_drew ?_ | refine blk_alloc ?_ _)); refine blk_far ?_ NB136_198.out _; (with_reducible repeat (first | refine blk_drewN ?_ _ | refine blk_drew ?_ | refine blk_alloc ?_ _)); exact BK136.out) hb); have n3_ := Aside0.mk (blk_below (g := gb198) (o := .cells #[.int .i64 ((rd_T23 l3 x149_4).f0), .int .i64 ((rd_T23 l3 x149_4).f1)] 23 (0, 0)) (by (with_reducible repeat (first | refine blk_drewN ?_ _ | refine blk_drew ?_ | refine blk_alloc ?_ _)); refine blk_put (cs := #[.int .i64 ((rd_T23 l3 x149_4).f0), .int .i64 0]) ?_ 1 _ rfl; (with_reducible repeat (first | refine blk_drewN ?_ _ | refine blk_drew ?_ | refine blk_alloc ?_ _)); refine blk_put (cs := #[.int .i64 0, .int .i64 0]) ?_ 0 _ rfl; (with_reducible repeat (first | refine blk_drewN ?_ _ | refine blk_drew ?_ | refine blk_alloc ?_ _)); exact BK198.out) hb); have n4_ := Aside0.mk (below_step (hbA HB) hb); clear HO_18; clear HO_137002; clear BK136; clear BK198; clear HB; have HO_18 := n0_; have HO_137002 := n1_; have BK136 := n2_; have BK198 := n3_; have HB := n4_; clear n0_ n1_ n2_ n3_ n4_; (try clear hb); (try clear hb2); (try clear hk); (try clear hi); have hcz81_0 : w80.cell? ⟨gb198, 0, none⟩ = some (.int .i64 ((rd_T23 l3 x149_4).f0)) := bcA BK198 0; have hcz81_1 : w80.cell? ⟨gb198, 1, none⟩ = some (.int .i64 ((rd_T23 l3 x149_4).f1)) := bcA BK198 1; have hfz81_0 := blk_frozen BK198.out 0; have hfz81_1 := blk_frozen BK198.out 1) | ((with_reducible refine gate_callee (f := 20) rfl ?_); refine goesL_ (some 159) rfl rfl Try.func20 (by kernel_rfl) rfl #[.agg #[.int .i64 ((rd_T23 l3 x149_4).f0), .int .i64 ((rd_T23 l3 x149_4).f1)]] rfl (by (try simp only [List.map_toArray, List.map_cons, List.map_nil]); first | done | rfl | (simp only [List.length_drop, List.length_take]; rfl)) ?_; (with_reducible refine (agateref06_Put_s.calls ((rd_T23 l3 x149_4).f0) ((rd_T23 l3 x149_4).f1) t207 t208 _ A73.out).mono ?_); rintro e w82 ⟨rfl, hb⟩; refine ⟨_, rfl, ?_⟩; have n0_ := Aside0.mk (Kd.R_below (krA HO_18) hb); have n1_ := Aside0.mk (Kd.R_below (krA HO_137002) hb); have n2_ := Aside0.mk (blk_below (g := gb136) (bkA BK136) hb); have n3_ := Aside0.mk (blk_below (g := gb198) (bkA BK198) hb); have n4_ := Aside0.mk (below_step (hbA HB) hb); clear HO_18; clear HO_137002; clear BK136; clear BK198; clear HB; have HO_18 := n0_; have HO_137002 := n1_; have BK136 := n2_; have BK198 := n3_; have HB := n4_; clear n0_ n1_ n2_ n3_ n4_; (try clear hb); (try clear hb2); (try clear hk); (try clear hi); have hcz83_0 : w82.cell? ⟨gb198, 0, none⟩ = some (.int .i64 ((rd_T23 l3 x149_4).f0)) := bcA BK198 0; have hcz83_1 : w82.cell? ⟨gb198, 1, none⟩ = some (.int .i64 ((rd_T23 l3 x149_4).f1)) := bcA BK198 1; have hfz83_0 := blk_frozen BK198.out 0; have hfz83_1 := blk_frozen BK198.out 1) | ((with_reducible refine gate_callee (f := 14) rfl ?_); refine goesL_ (some 167) rfl rfl Try.func14 (by kernel_rfl) rfl #[.agg #[.int .i64 ((rd_T23 l3 x149_4).f0), .int .i64 ((rd_T23 l3 x149_4).f1)]] rfl (by (try simp only [List.map_toArray, List.map_cons, List.map_nil]); first | done | rfl | (simp only [List.length_drop, List.length_take]; rfl)) ?_; (with_reducible refine (agatelaw06_OfX.calls ((rd_T23 l3 x149_4).f0) ((rd_T23 l3 x149_4).f1) t209 _ A75.out).mono ?_); rintro e w84 ⟨rfl, hb⟩; refine ⟨_, rfl, ?_⟩; have n0_ := Aside0.mk (Kd.R_below (krA HO_18) hb); have n1_ := Aside0.mk (Kd.R_below (krA HO_137002) hb); have n2_ := Aside0.mk (blk_below (g := gb136) (bkA BK136) hb); have n3_ := Aside0.mk (blk_below (g := gb198) (bkA BK198) hb); have n4_ := Aside0.mk (below_step (hbA HB) hb); clear HO_18; clear HO_137002; clear BK136; clear BK198; clear HB; have HO_18 := n0_; have HO_137002 := n1_; have BK136 := n2_; have BK198 := n3_; have HB := n4_; clear n0_ n1_ n2_ n3_ n4_; (try clear hb); (try clear hb2); (try clear hk); (try clear hi)) | ((with_reducible refine gate_builtin (b := .append) (xs := #[.tmp 165, .tmp 168]) rfl ?_); (try (refine gate_guard (by rfl) ?_; dsimp only)); at_builtin; refine Kd.R_append kdC (w0 := w) w.heap.size rfl (.tmp 165) (.tmp 168) 77 26 (.complex .f64 0 0) 16 rfl Try.underlying77 info26 rfl (by decide) (by omega) u18 x18_4 t209 [.complex .f64 t209.1 t209.2] (fun _ => True) (fun _ => False) rfl rfl ?aP (fun _ hk => hk.elim) ?aF ?aO ?aB ?aS ?aL ?_; (case aP => exact rfl); (case aB => exact (hbA HB)); (case aF => exact (fun _ _ => trivial)); (case aO => exact (krA HO_18)); (case aS => exact (below_size (hbA HB))); (case aL => have := LMc76.out; omega); intro v211 w85 ho hb hg hat; rw [← Ny210.out] at ho; have n0_ := Aside0.mk (Kd.R_over' (krA HO_137002) (Kd.R_typed (krA HO_18)) (by decide) hg); have n1_ := Aside0.mk (blk_grown (g := gb136) (bkA BK136) hg (Kd.R_ne HO_18.out BK136.out (by decide))); have n2_ := Aside0.mk (blk_grown (g := gb198) (bkA BK198) hg (Kd.R_ne HO_18.out BK198.out (by decide))); have n3_ := Aside0.mk (hb); have n4_ := Aside0.mk (ho); clear HO_137002; clear BK136; clear BK198; clear HB; clear HO_18; have HO_137002 := n0_; have BK136 := n1_; have BK198 := n2_; have HB := n3_; have HO212 := n4_; clear n0_ n1_ n2_ n3_ n4_; clear ho hb hg hat))
                            go_roundg k4
                            case measure => have := HJ4.out; have := HK2.out; have := HK3.out; have := HK4.out; omega
                            case rel => exact ⟨(x9_4 ++ t207), (y210), (wrap64 (x149_4 + 1)), (by first | rfl | (simp; done) | (simp [*]; done)), (by first | rfl | (simp; done) | (simp [*]; done)), H', ⟨by have := HJ4.out; have := HK2.out; have := HK3.out; have := HK4.out; omega⟩, ⟨krA HO212⟩, ⟨krA HO_137002⟩, ⟨bkA BK136⟩, ⟨hbA HB⟩⟩
                           ·
                            rw [if_neg c76] at H
                            exact absurd H (by simp)
                          ·
                           rw [if_neg c74] at H
                           exact absurd H (by simp)
                         ·
                          replace c72 := Bool.eq_false_iff.mpr c72
                          subst c72
                          have H1 : ((agatelaw07_Awake.f).bind fun t200 => (some t200)) = some r := by rw [if_neg (show ¬ (false = true) by decide)] at H; exact H
                          clear H
                          have H := H1
                          clear H1
                          replace H := Option.bind_eq_some_iff.mp H
                          obtain ⟨t200, A860, H⟩ := H
                          replace H : (some t200) = some r := H
                          have A86 := Aside0.mk A860
                          clear A860
                          obtain rfl := Option.some.inj H
                          have p197 : 0 ≤ (x149_4 : Int) := of_decide_eq_true (by first | (with_reducible assumption) | assumption)
                          have q197 : x149_4 < (l3.length : Int) := of_decide_eq_true (by first | (with_reducible assumption) | assumption)
                          obtain ⟨ad197, e197, hx197_0, hx197_1⟩ := at_T23 HR3.out x149_4 p197 q197
                          cases e197
                          replace hx197_0 := (HB.out.cell (World.block_lt_of_cell? w _ hx197_0)).trans hx197_0
                          replace hx197_1 := (HB.out.cell (World.block_lt_of_cell? w _ hx197_1)).trans hx197_1
                          replace p197 := eq_true p197
                          replace q197 := eq_true q197
                          go_wp2_with (first | ((with_reducible refine gate_dst (N := 20) rfl ?_); (try (refine gate_guard (by rfl) ?_; dsimp only)); refine box_event ?hg (N := 20) ?hd (cs := #[.int .i64 0, .int .i64 0]) (t := 23) ?hr ?_; (case hd => rfl); (case hg => rfl); (case hr => first | (go_simp; done) | (go_simp; rfl)); intro gb198 hg w87 hbox hb; have n0_ := Aside0.mk (Kd.R_below (krA HO_18) hb); have n1_ := Aside0.mk (Kd.R_below (krA HO_137002) hb); have n2_ := Aside0.mk (blk_below (g := gb136) (bkA BK136) hb); have n3_ := Aside0.mk (below_step (hbA HB) hb); have n4_ := Aside0.mk (hbox); have n5_ := Aside0.mk ((by rw [hg]; exact (below_size (hbA HB)) : w.heap.size ≤ gb198)); have n6_ := Aside0.mk ((by rw [hg]; exact (below_size (hbA HB)) : w.heap.size ≤ gb198)); have n7_ := Aside0.mk ((by rw [hg]; exact Nat.ne_of_lt (blk_lt (g := gb136) (bkA BK136)) : gb136 ≠ gb198)); have n8_ := Aside0.mk ((by rw [hg]; exact Nat.ne_of_gt (blk_lt (g := gb136) (bkA BK136)) : gb198 ≠ gb136)); clear HO_18; clear HO_137002; clear BK136; clear HB; have HO_18 := n0_; have HO_137002 := n1_; have BK136 := n2_; have HB := n3_; have BK198 := n4_; have GW198 := n5_; have GE198 := n6_; have NB136_198 := n7_; have NB198_136 := n8_; clear n0_ n1_ n2_ n3_ n4_ n5_ n6_ n7_ n8_; clear hb hbox hg; have hnb88 := NB198_136.out; have hnc88 := NB136_198.out; have hcz89_0 : w87.cell? ⟨gb198, 0, none⟩ = some (.int .i64 0) := bcA BK198 0; have hcz89_1 : w87.cell? ⟨gb198, 1, none⟩ = some (.int .i64 0) := bcA BK198 1; have hfz89_0 := blk_frozen BK198.out 0; have hfz89_1 := blk_frozen BK198.out 1) | ((with_reducible refine gate_callee (f := 52) rfl ?_); refine goesL_ (some 154) rfl rfl Try.func52 (by kernel_rfl) rfl #[.agg #[.int .i64 ((rd_T23 l3 x149_4).f0), .int .i64 ((rd_T23 l3 x149_4).f1)]] rfl (by (try simp only [List.map_toArray, List.map_cons, List.map_nil]); first | done | rfl | (simp only [List.length_drop, List.length_take]; rfl)) ?_; (with_reducible refine (agateref06_May_s.calls ((rd_T23 l3 x149_4).f0) ((rd_T23 l3 x149_4).f1) false _ A71.out).mono ?_); rintro e w90 ⟨rfl, hb⟩; refine ⟨_, rfl, ?_⟩; have n0_ := Aside0.mk (Kd.R_below (by (with_reducible repeat (first | apply Kd.R_alloc | apply Kd.R_drewN | apply Kd.R_drew)); exact (Kd.R_mono (Kd.R_far (p := ⟨gb198, 1, none⟩) (Kd.R_far (p := ⟨gb198, 0, none⟩) (Kd.R_types HO_18.out BK198.out (by decide)) (fun _ hk => hk.2) (.int .i64 ((rd_T23 l3 x149_4).f0))) (fun _ hk => hk.2) (.int .i64 ((rd_T23 l3 x149_4).f1))) (fun _ h_ => h_.1))) hb); have n1_ := Aside0.mk (Kd.R_below (by (with_reducible repeat (first | apply Kd.R_alloc | apply Kd.R_drewN | apply Kd.R_drew)); exact (Kd.R_mono (Kd.R_far (p := ⟨gb198, 1, none⟩) (Kd.R_far (p := ⟨gb198, 0, none⟩) (Kd.R_types HO_137002.out BK198.out (by decide)) (fun _ hk => hk.2) (.int .i64 ((rd_T23 l3 x149_4).f0))) (fun _ hk => hk.2) (.int .i64 ((rd_T23 l3 x149_4).f1))) (fun _ h_ => h_.1))) hb); have n2_ := Aside0.mk (blk_below (g := gb136) (o := .cells #[.string t177, .int .i64 t178, .slice Ao58 t179.length co58, .string t182] 62 (0, 0)) (by (with_reducible repeat (first | refine blk_drewN ?_ _ | refine blk_drew ?_ | refine blk_alloc ?_ _)); refine blk_far ?_ NB136_198.out _; (with_reducible repeat (first | refine blk_drewN ?_ _ | refine blk_drew ?_ | refine blk_alloc ?_ _)); refine blk_far ?_ NB136_198.out _; (with_reducible repeat (first | refine blk_drewN ?_ _ | refine blk_drew ?_ | refine blk_alloc ?_ _)); exact BK136.out) hb); have n3_ := Aside0.mk (blk_below (g := gb198) (o := .cells #[.int .i64 ((rd_T23 l3 x149_4).f0), .int .i64 ((rd_T23 l3 x149_4).f1)] 23 (0, 0)) (by (with_reducible repeat (first | refine blk_drewN ?_ _ | refine blk_drew ?_ | refine blk_alloc ?_ _)); refine blk_put (cs := #[.int .i64 ((rd_T23 l3 x149_4).f0), .int .i64 0]) ?_ 1 _ rfl; (with_reducible repeat (first | refine blk_drewN ?_ _ | refine blk_drew ?_ | refine blk_alloc ?_ _)); refine blk_put (cs := #[.int .i64 0, .int .i64 0]) ?_ 0 _ rfl; (with_reducible repeat (first | refine blk_drewN ?_ _ | refine blk_drew ?_ | refine blk_alloc ?_ _)); exact BK198.out) hb); have n4_ := Aside0.mk (below_step (hbA HB) hb); clear HO_18; clear HO_137002; clear BK136; clear BK198; clear HB; have HO_18 := n0_; have HO_137002 := n1_; have BK136 := n2_; have BK198 := n3_; have HB := n4_; clear n0_ n1_ n2_ n3_ n4_; (try clear hb); (try clear hb2); (try clear hk); (try clear hi)) | ((with_reducible refine gate_callee (f := 35) rfl ?_); refine goesL_ (some 156) rfl rfl Try.func35 (by kernel_rfl) rfl #[] rfl (by (try simp only [List.map_toArray, List.map_cons, List.map_nil]); first | done | rfl | (simp only [List.length_drop, List.length_take]; rfl)) ?_; (with_reducible refine (agatelaw07_Awake.calls  t200 _ A86.out).mono ?_); rintro e w91 ⟨rfl, hb⟩; refine ⟨_, rfl, ?_⟩; have n0_ := Aside0.mk (Kd.R_below (krA HO_18) hb); have n1_ := Aside0.mk (Kd.R_below (krA HO_137002) hb); have n2_ := Aside0.mk (blk_below (g := gb136) (bkA BK136) hb); have n3_ := Aside0.mk (blk_below (g := gb198) (bkA BK198) hb); have n4_ := Aside0.mk (below_step (hbA HB) hb); clear HO_18; clear HO_137002; clear BK136; clear BK198; clear HB; have HO_18 := n0_; have HO_137002 := n1_; have BK136 := n2_; have BK198 := n3_; have HB := n4_; clear n0_ n1_ n2_ n3_ n4_; (try clear hb); (try clear hb2); (try clear hk); (try clear hi)))
                          go_ret
                          exact ⟨by first | rfl | (simp [errW_none, errW_some] <;> rfl) | (simp [*, errW_none, errW_some] <;> rfl), hbA HB⟩
                        ·
                         exact absurd (of_decide_eq_true c68b0) c70
                       ·
                        rw [if_neg c69] at H
                        exact absurd H (by simp)
                      ·
                       rw [if_neg c68] at H
                       have c68b0 : decide (x149_4 < (l3.length : Int)) = false := decide_eq_false c68
                       clear c68
                       obtain ⟨y226, hy226⟩ : ∃ y_ : List Int, y_ = (([1, (l3.length : Int)] : List Int)) := ⟨_, rfl⟩
                       replace H : ((tensor_OfNums.f a0 y226 x18_4).bind fun bt229 => ((tensor_Tensor_Nums.f bt229.1 bt229.2.1 bt229.2.2.1 bt229.2.2.2).bind fun bt235 => (if bt229.2.1 = 14 then (if bt229.2.2.2.toList = x9_4.toList then (if bt235.2 = 0 then (if (bt235.1.length : Int) = (x18_4.length : Int) then (agatelaw07_TensorMakes.l3 k4 a0 x18_4 bt235.1 (bt235.1.length : Int) 0) else (none)) else (none)) else (none)) else (none)))) = some r := by first | (rw [hy226]; with_reducible exact H) | (have H2_ := (Option.bind_some _ _).symm.trans H; rw [hy226]; with_reducible exact H2_) | (have H2_ := (Option.bind_some _ _).symm.trans H; with_reducible exact H2_) | with_reducible exact H | (rw [hy226]; exact H) | exact H
                       have Ny226 := Aside0.mk hy226
                       clear hy226
                       replace H := Option.bind_eq_some_iff.mp H
                       obtain ⟨⟨t229, t230, t231, t234⟩, A920, H⟩ := H
                       replace H : ((tensor_Tensor_Nums.f t229 t230 t231 t234).bind fun bt235 => (if t230 = 14 then (if t234.toList = x9_4.toList then (if bt235.2 = 0 then (if (bt235.1.length : Int) = (x18_4.length : Int) then (agatelaw07_TensorMakes.l3 k4 a0 x18_4 bt235.1 (bt235.1.length : Int) 0) else (none)) else (none)) else (none)) else (none))) = some r := H
                       have A92 := Aside0.mk A920
                       clear A920
                       replace H := Option.bind_eq_some_iff.mp H
                       obtain ⟨⟨t235, t238⟩, A930, H⟩ := H
                       replace H : (if t230 = 14 then (if t234.toList = x9_4.toList then (if t238 = 0 then (if (t235.length : Int) = (x18_4.length : Int) then (agatelaw07_TensorMakes.l3 k4 a0 x18_4 t235 (t235.length : Int) 0) else (none)) else (none)) else (none)) else (none)) = some r := H
                       have A93 := Aside0.mk A930
                       clear A930
                       by_cases c94 : t230 = 14
                       ·
                        rw [if_pos c94] at H
                        have c94b0 : (t230 == 14) = true := beq_iff_eq.mpr c94
                        have c94b1 : (t230 != 14) = false := bne_eq_false_iff_eq.mpr c94
                        clear c94
                        by_cases c95 : t234.toList = x9_4.toList
                        ·
                         rw [if_pos c95] at H
                         have c95b0 : (t234.toList == x9_4.toList) = true := beq_iff_eq.mpr c95
                         have c95b1 : (t234.toList != x9_4.toList) = false := bne_eq_false_iff_eq.mpr c95
                         clear c95
                         by_cases c96 : t238 = 0
                         ·
                          rw [if_pos c96] at H
                          have c96b0 : (t238 == 0) = true := beq_iff_eq.mpr c96
                          have c96b1 : (t238 != 0) = false := bne_eq_false_iff_eq.mpr c96
                          clear c96
                          by_cases c97 : (t235.length : Int) = (x18_4.length : Int)
                          ·
                           rw [if_pos c97] at H
                           have c97b0 : ((t235.length : Int) == (x18_4.length : Int)) = true := beq_iff_eq.mpr c97
                           have c97b1 : ((t235.length : Int) != (x18_4.length : Int)) = false := bne_eq_false_iff_eq.mpr c97
                           have c97b2 : (t235.length == x18_4.length) = true := by first | simpa using c97 | (simp at c97 ⊢; omega)
                           clear c97
                           have H' := Aside0.mk H
                           clear H
                           go_wp2_with (first | ((with_reducible refine gate_dst (N := 174) rfl ?_); (try (refine gate_guard (by rfl) ?_; dsimp only)); refine Kd.R_lit (Kd.int .i64) _ 2 ?hg (N := 174) ?hd (xs := ([1, (l3.length : Int)] : List Int)) (inner := [.int .i64 1, .int .i64 (l3.length : Int)]) (ok := fun _ => True) (okp := fun _ => True) ?hr ?hp (fun _ hk => hk) trivial (Below.refl _ _) (Nat.le_refl _) (by simp) ?_; (case hd => rfl); (case hg => rfl); (case hr => first | (go_simp; done) | (go_simp; rfl)); (case hp => exact (Reps.one (show Kd.M (Kd.int .i64) _ _ _ 1 [.int .i64 1] from rfl) (Reps.one (show Kd.M (Kd.int .i64) _ _ _ (l3.length : Int) [.int .i64 (l3.length : Int)] from rfl) (Reps.none _ _)))); intro v227 w98 ho99 hb hg_ hnew_; clear hg_ hnew_; (first | rw [← Ny226.out] at ho99 | (simp only [Int.reduceToNat] at ho99; rw [← Ny226.out] at ho99)); have n0_ := Aside0.mk (Kd.R_below (krA HO_18) hb); have n1_ := Aside0.mk (Kd.R_elder' (krA HO_137002) (Kd.R_base ho99) hb); have n2_ := Aside0.mk (Kd.R_lower (Kd.R_new' ho99 (Kd.R_lt (krA HO_137002))) (below_size (hbA HB))); have n3_ := Aside0.mk (blk_below (g := gb136) (bkA BK136) hb); have n4_ := Aside0.mk (below_step (hbA HB) hb); clear HO_18; clear HO_137002; clear BK136; clear HB; have HO_18 := n0_; have HO_137002 := n1_; have HO228 := n2_; have BK136 := n3_; have HB := n4_; clear n0_ n1_ n2_ n3_ n4_; clear hb ho99; obtain ⟨Ao100, co100, eo100⟩ := Kd.R_slice HO228.out; subst eo100; obtain ⟨Ao101, co101, eo101⟩ := Kd.R_slice HO_18.out; subst eo101) | ((with_reducible refine gate_callee (f := 53) rfl ?_); refine goesL_ (some 176) rfl rfl Try.func53 (by kernel_rfl) rfl #[.string a0, .slice Ao100 y226.length co100, .slice Ao101 x18_4.length co101] rfl (by (try simp only [List.map_toArray, List.map_cons, List.map_nil]); first | done | rfl | (simp only [List.length_drop, List.length_take]; rfl)) ?_; (with_reducible refine (tensor_OfNums.calls a0 _ _ y226 _ _ x18_4 t229 t230 t231 t234 _ ?side1 ?side2 ?side3 ?side4 A92.out).mono ?_); (case side1 => repeat (first | exact (Kd.R_reads' HO228.out).2.2 | (with_reducible refine Kd.C_alloc ?_ _) | (with_reducible refine Kd.C_drewN ?_ _) | (with_reducible refine Kd.C_drew ?_))); (case side2 => exact (Kd.R_reads' HO228.out).2.1); (case side3 => repeat (first | exact (Kd.R_reads' HO_18.out).2.2 | (with_reducible refine Kd.C_alloc ?_ _) | (with_reducible refine Kd.C_drewN ?_ _) | (with_reducible refine Kd.C_drew ?_))); (case side4 => exact (Kd.R_reads' HO_18.out).2.1); rintro e w102 ⟨v232, rfl, ho0, hb⟩; refine ⟨_, rfl, ?_⟩; have n0_ := Aside0.mk (Kd.R_below (krA HO_18) hb); have n1_ := Aside0.mk (Kd.R_elder' (krA HO_137002) (Kd.R_base ho0) hb); have n2_ := Aside0.mk (Kd.R_elder' (krA HO228) (Kd.R_base ho0) hb); have n3_ := Aside0.mk (Kd.R_lower (Kd.R_new' (Kd.R_new' ho0 (Kd.R_lt (krA HO_137002))) (Kd.R_lt (krA HO228))) (below_size (hbA HB))); have n4_ := Aside0.mk (blk_below (g := gb136) (bkA BK136) hb); have n5_ := Aside0.mk (below_step (hbA HB) hb); clear HO_18; clear HO_137002; clear HO228; clear BK136; clear HB; have HO_18 := n0_; have HO_137002 := n1_; have HO228 := n2_; have HO233 := n3_; have BK136 := n4_; have HB := n5_; clear n0_ n1_ n2_ n3_ n4_ n5_; (try clear hb); (try clear hb2); (try clear hk); (try clear hi); (try clear ho0); have hcz103_0 : w102.cell? ⟨gb136, 0, none⟩ = some (.string t177) := bcA BK136 0; have hcz103_1 : w102.cell? ⟨gb136, 1, none⟩ = some (.int .i64 t178) := bcA BK136 1; have hcz103_2 : w102.cell? ⟨gb136, 2, none⟩ = some (.slice Ao58 t179.length co58) := bcA BK136 2; have hcz103_3 : w102.cell? ⟨gb136, 3, none⟩ = some (.string t182) := bcA BK136 3; have hfz103_0 := blk_frozen BK136.out 0; have hfz103_1 := blk_frozen BK136.out 1; have hfz103_2 := blk_frozen BK136.out 2; have hfz103_3 := blk_frozen BK136.out 3; obtain ⟨Ao104, co104, eo104⟩ := Kd.R_slice HO233.out; subst eo104) | ((with_reducible refine gate_callee (f := 47) rfl ?_); refine goesL_ (some 179) rfl rfl Try.func47 (by kernel_rfl) rfl #[.agg #[.string t229, .int .i64 t230, .slice Ao104 t231.length co104, .string t234]] rfl (by (try simp only [List.map_toArray, List.map_cons, List.map_nil]); first | done | rfl | (simp only [List.length_drop, List.length_take]; rfl)) ?_; (with_reducible refine (tensor_Tensor_Nums.calls t229 t230 _ _ t231 t234 t235 t238 _ ?side1 ?side2 A93.out).mono ?_); (case side1 => refine (Kd.R_reads' (e := 2) (base := w.heap.size) (ok := fun k_ => ((True ∧ some k_ ≠ (.slice Ao58 t179.length co58 : Value).ownBlock) ∧ some k_ ≠ (.slice Ao100 y226.length co100 : Value).ownBlock)) (n := t231.length) (c := co104) ?_).2.2; exact (by (with_reducible repeat (first | apply Kd.R_alloc | apply Kd.R_drewN | apply Kd.R_drew)); exact (Kd.R_mono (Kd.R_far (p := ⟨gb136, 3, none⟩) (Kd.R_far (p := ⟨gb136, 2, none⟩) (Kd.R_far (p := ⟨gb136, 1, none⟩) (Kd.R_far (p := ⟨gb136, 0, none⟩) (Kd.R_types HO233.out BK136.out (by decide)) (fun _ hk => hk.2) (.string t229)) (fun _ hk => hk.2) (.int .i64 t230)) (fun _ hk => hk.2) (.slice Ao104 t231.length co104)) (fun _ hk => hk.2) (.string t234)) (fun _ h_ => h_.1)))); (case side2 => exact (Kd.R_reads' HO233.out).2.1); rintro e w105 ⟨v236, rfl, ho0, hb⟩; refine ⟨_, rfl, ?_⟩; have n0_ := Aside0.mk (Kd.R_elder' (by (with_reducible repeat (first | apply Kd.R_alloc | apply Kd.R_drewN | apply Kd.R_drew)); exact (Kd.R_mono (Kd.R_far (p := ⟨gb136, 3, none⟩) (Kd.R_far (p := ⟨gb136, 2, none⟩) (Kd.R_far (p := ⟨gb136, 1, none⟩) (Kd.R_far (p := ⟨gb136, 0, none⟩) (Kd.R_types HO_18.out BK136.out (by decide)) (fun _ hk => hk.2) (.string t229)) (fun _ hk => hk.2) (.int .i64 t230)) (fun _ hk => hk.2) (.slice Ao104 t231.length co104)) (fun _ hk => hk.2) (.string t234)) (fun _ h_ => h_.1))) (Kd.R_base ho0) hb); have n1_ := Aside0.mk (Kd.R_below (by (with_reducible repeat (first | apply Kd.R_alloc | apply Kd.R_drewN | apply Kd.R_drew)); exact (Kd.R_mono (Kd.R_far (p := ⟨gb136, 3, none⟩) (Kd.R_far (p := ⟨gb136, 2, none⟩) (Kd.R_far (p := ⟨gb136, 1, none⟩) (Kd.R_far (p := ⟨gb136, 0, none⟩) (Kd.R_types HO_137002.out BK136.out (by decide)) (fun _ hk => hk.2) (.string t229)) (fun _ hk => hk.2) (.int .i64 t230)) (fun _ hk => hk.2) (.slice Ao104 t231.length co104)) (fun _ hk => hk.2) (.string t234)) (fun _ h_ => h_.1))) hb); have n2_ := Aside0.mk (Kd.R_below (by (with_reducible repeat (first | apply Kd.R_alloc | apply Kd.R_drewN | apply Kd.R_drew)); exact (Kd.R_mono (Kd.R_far (p := ⟨gb136, 3, none⟩) (Kd.R_far (p := ⟨gb136, 2, none⟩) (Kd.R_far (p := ⟨gb136, 1, none⟩) (Kd.R_far (p := ⟨gb136, 0, none⟩) (Kd.R_types HO228.out BK136.out (by decide)) (fun _ hk => hk.2) (.string t229)) (fun _ hk => hk.2) (.int .i64 t230)) (fun _ hk => hk.2) (.slice Ao104 t231.length co104)) (fun _ hk => hk.2) (.string t234)) (fun _ h_ => h_.1))) hb); have n3_ := Aside0.mk (Kd.R_below (by (with_reducible repeat (first | apply Kd.R_alloc | apply Kd.R_drewN | apply Kd.R_drew)); exact (Kd.R_mono (Kd.R_far (p := ⟨gb136, 3, none⟩) (Kd.R_far (p := ⟨gb136, 2, none⟩) (Kd.R_far (p := ⟨gb136, 1, none⟩) (Kd.R_far (p := ⟨gb136, 0, none⟩) (Kd.R_types HO233.out BK136.out (by decide)) (fun _ hk => hk.2) (.string t229)) (fun _ hk => hk.2) (.int .i64 t230)) (fun _ hk => hk.2) (.slice Ao104 t231.length co104)) (fun _ hk => hk.2) (.string t234)) (fun _ h_ => h_.1))) hb); have n4_ := Aside0.mk (Kd.R_lower (Kd.R_new' ho0 (Kd.R_lt (by (with_reducible repeat (first | apply Kd.R_alloc | apply Kd.R_drewN | apply Kd.R_drew)); exact (Kd.R_mono (Kd.R_far (p := ⟨gb136, 3, none⟩) (Kd.R_far (p := ⟨gb136, 2, none⟩) (Kd.R_far (p := ⟨gb136, 1, none⟩) (Kd.R_far (p := ⟨gb136, 0, none⟩) (Kd.R_types HO_18.out BK136.out (by decide)) (fun _ hk => hk.2) (.string t229)) (fun _ hk => hk.2) (.int .i64 t230)) (fun _ hk => hk.2) (.slice Ao104 t231.length co104)) (fun _ hk => hk.2) (.string t234)) (fun _ h_ => h_.1))))) (below_size (hbA HB))); have n5_ := Aside0.mk (blk_below (g := gb136) (o := .cells #[.string t229, .int .i64 t230, .slice Ao104 t231.length co104, .string t234] 62 (0, 0)) (by (with_reducible repeat (first | refine blk_drewN ?_ _ | refine blk_drew ?_ | refine blk_alloc ?_ _)); refine blk_put (cs := #[.string t229, .int .i64 t230, .slice Ao104 t231.length co104, .string t182]) ?_ 3 _ rfl; (with_reducible repeat (first | refine blk_drewN ?_ _ | refine blk_drew ?_ | refine blk_alloc ?_ _)); refine blk_put (cs := #[.string t229, .int .i64 t230, .slice Ao58 t179.length co58, .string t182]) ?_ 2 _ rfl; (with_reducible repeat (first | refine blk_drewN ?_ _ | refine blk_drew ?_ | refine blk_alloc ?_ _)); refine blk_put (cs := #[.string t229, .int .i64 t178, .slice Ao58 t179.length co58, .string t182]) ?_ 1 _ rfl; (with_reducible repeat (first | refine blk_drewN ?_ _ | refine blk_drew ?_ | refine blk_alloc ?_ _)); refine blk_put (cs := #[.string t177, .int .i64 t178, .slice Ao58 t179.length co58, .string t182]) ?_ 0 _ rfl; (with_reducible repeat (first | refine blk_drewN ?_ _ | refine blk_drew ?_ | refine blk_alloc ?_ _)); exact BK136.out) hb); have n6_ := Aside0.mk (below_step (hbA HB) hb); clear HO_18; clear HO_137002; clear HO228; clear HO233; clear BK136; clear HB; have HO_18 := n0_; have HO_137002 := n1_; have HO228 := n2_; have HO233 := n3_; have HO237 := n4_; have BK136 := n5_; have HB := n6_; clear n0_ n1_ n2_ n3_ n4_ n5_ n6_; (try clear hb); (try clear hb2); (try clear hk); (try clear hi); (try clear ho0); have hcz106_0 : w105.cell? ⟨gb136, 0, none⟩ = some (.string t229) := bcA BK136 0; have hcz106_1 : w105.cell? ⟨gb136, 1, none⟩ = some (.int .i64 t230) := bcA BK136 1; have hcz106_2 : w105.cell? ⟨gb136, 2, none⟩ = some (.slice Ao104 t231.length co104) := bcA BK136 2; have hcz106_3 : w105.cell? ⟨gb136, 3, none⟩ = some (.string t234) := bcA BK136 3; have hfz106_0 := blk_frozen BK136.out 0; have hfz106_1 := blk_frozen BK136.out 1; have hfz106_2 := blk_frozen BK136.out 2; have hfz106_3 := blk_frozen BK136.out 3; obtain ⟨Ao107, co107, eo107⟩ := Kd.R_slice HO237.out; subst eo107))
                           go_loopg [204] k4 (fun kq v204 w' => ∃ (x204_5 : Int), v204 = .int .i64 x204_5 ∧ Aside0 (agatelaw07_TensorMakes.l3 kq a0 x18_4 t235 (t235.length : Int) x204_5 = some r) ∧ Aside0 (kq ≤ k4) ∧ Aside0 (Kd.R kdC 26 w' w.heap.size (fun k_ => some k_ ≠ ((.slice Ao107 t235.length co107) : Value).ownBlock) (.slice Ao101 x18_4.length co101) x18_4) ∧ Aside0 (Kd.R kdC 26 w' w.heap.size (fun k_ => some k_ ≠ ((.slice Ao101 x18_4.length co101) : Value).ownBlock) (.slice Ao107 t235.length co107) t235) ∧ Aside0 (Kd.R (Kd.int .i64) 2 w' w.heap.size (fun _ => True) (.slice Ao104 t231.length co104) t231) ∧ Aside0 (w'.heap[gb136]? = some (.cells #[.string t229, .int .i64 t230, (.slice Ao104 t231.length co104), .string t234] 62 (0, 0))) ∧ Aside0 (Below w.heap.size w w'))
                           case atStart => exact ⟨(0), (by first | rfl | (simp; done) | (simp [*]; done)), H', ⟨Nat.le_refl _⟩, ⟨by (with_reducible repeat (first | apply Kd.R_alloc | apply Kd.R_drewN | apply Kd.R_drew)); exact Kd.R_mono HO_18.out (fun _ hk => hk.2)⟩, ⟨by (with_reducible repeat (first | apply Kd.R_alloc | apply Kd.R_drewN | apply Kd.R_drew)); exact Kd.R_mono HO237.out (fun _ hk => hk.2)⟩, ⟨by (with_reducible repeat (first | apply Kd.R_alloc | apply Kd.R_drewN | apply Kd.R_drew)); exact Kd.R_mono HO233.out (fun _ hk => trivial)⟩, ⟨bkA BK136⟩, ⟨hbA HB⟩⟩
                           case round =>
                            clear H'
                            obtain ⟨x204_5, rfl, HA, HK5, HO_18, HO_23, HO_137002, BK136, HB⟩ := hrel
                            cases gk with
                            | zero => exact absurd HA.out (by simp [agatelaw07_TensorMakes.l3])
                            | succ k5 =>
                             have H := HA.out; clear HA
                             simp only [agatelaw07_TensorMakes.l3] at H
                             by_cases c108 : x204_5 < (t235.length : Int)
                             ·
                              rw [if_pos c108] at H
                              have c108b0 : decide (x204_5 < (t235.length : Int)) = true := decide_eq_true c108
                              clear c108
                              by_cases c109 : 0 ≤ x204_5
                              ·
                               rw [if_pos c109] at H
                               have c109b0 : decide (0 ≤ x204_5) = true := decide_eq_true c109
                               clear c109
                               by_cases c110 : x204_5 < (t235.length : Int)
                               ·
                                rw [if_pos c110] at H
                                have c110b0 : decide (x204_5 < (t235.length : Int)) = true := decide_eq_true c110
                                clear c110
                                by_cases c111 : x204_5 < (x18_4.length : Int)
                                ·
                                 rw [if_pos c111] at H
                                 have c111b0 : decide (x204_5 < (x18_4.length : Int)) = true := decide_eq_true c111
                                 clear c111
                                 by_cases c112 : (ceq (rdOf ((0, 0) : Nat × Nat) t235 x204_5) (rdOf ((0, 0) : Nat × Nat) x18_4 x204_5) = true)
                                 ·
                                  rw [if_pos c112] at H
                                  have c112b0 : ceq (rdOf ((0, 0) : Nat × Nat) t235 x204_5) (rdOf ((0, 0) : Nat × Nat) x18_4 x204_5) = true := c112
                                  clear c112
                                  have H' := Aside0.mk H
                                  clear H
                                  try go_wp2
                                  have n0_ := Aside0.mk (Kd.R_drew HO_18.out)
                                  have n1_ := Aside0.mk (Kd.R_drew HO_23.out)
                                  have n2_ := Aside0.mk (Kd.R_drew HO_137002.out)
                                  have n3_ := Aside0.mk (blk_drew BK136.out)
                                  have n4_ := Aside0.mk (below_drew1 HB.out)
                                  clear HO_18; clear HO_23; clear HO_137002; clear BK136; clear HB; have HO_18 := n0_; have HO_23 := n1_; have HO_137002 := n2_; have BK136 := n3_; have HB := n4_; clear n0_ n1_ n2_ n3_ n4_
                                  have p241 : 0 ≤ (x204_5 : Int) := of_decide_eq_true (by first | (with_reducible assumption) | assumption)
                                  have q241 : x204_5 < (t235.length : Int) := of_decide_eq_true (by first | (with_reducible assumption) | assumption)
                                  obtain ⟨ad241, e241, hx241_0⟩ := at_kdC (Kd.R_reads' HO_23.out).2.2 x204_5 p241 q241
                                  cases e241
                                  replace p241 := eq_true p241
                                  replace q241 := eq_true q241
                                  have p242 : 0 ≤ (x204_5 : Int) := of_decide_eq_true (by first | (with_reducible assumption) | assumption)
                                  have q242 : x204_5 < (x18_4.length : Int) := of_decide_eq_true (by first | (with_reducible assumption) | assumption)
                                  obtain ⟨ad242, e242, hx242_0⟩ := at_kdC (Kd.R_reads' HO_18.out).2.2 x204_5 p242 q242
                                  cases e242
                                  replace p242 := eq_true p242
                                  replace q242 := eq_true q242
                                  refine start_ (n := 9) (S := fun w' => w'.cell? (ad241.add (x204_5).toNat) = some (.complex .f64 (rdOf ((0, 0) : Nat × Nat) t235 x204_5).1 (rdOf ((0, 0) : Nat × Nat) t235 x204_5).2) ∧ w'.cell? (ad242.add (x204_5).toNat) = some (.complex .f64 (rdOf ((0, 0) : Nat × Nat) x18_4 x204_5).1 (rdOf ((0, 0) : Nat × Nat) x18_4 x204_5).2)) (ds := []) #[false, false, false, false, false, false, false, false, false] (by kernel_rfl) rfl rfl ⟨hx241_0, hx242_0⟩ (fun hHeld => ?_); refine with_tabW agatelaw07_TensorMakes.tab43 agatelaw07_TensorMakes.bits43 (fun HT_ HW_ => ?_)
                                  generalize wr.drew = w113 at HO_18 HO_23 HO_137002 BK136 HB hx241_0 hx242_0 hHeld ⊢
                                  refine pure_ (i := 0) (N := some 207) (v := ?_) (a' := ?_) #[true, false, false, false, false, false, false, false, false] rfl rfl (any_of HT_.out (by kernel_rfl)) (fun _ _ _ h => h) (Or.inl ⟨by rfl, ?_⟩) ?_ ?_
                                  rotate_left
                                  ·
                                   intro w'
                                   go_simp
                                   with_reducible rfl
                                  rotate_left
                                  ·
                                   simp only [Act.put, List.setIfInBounds_toArray, List.set_cons_zero, List.set_cons_succ, i64_w, i32_w]
                                   rfl
                                  refine pure_ (i := 1) (N := some 208) (v := ?_) (a' := ?_) #[true, true, false, false, false, false, false, false, false] rfl rfl (any_of HT_.out (by kernel_rfl)) (fun _ _ _ h => h) (Or.inl ⟨by rfl, ?_⟩) ?_ ?_
                                  rotate_left
                                  ·
                                   intro w'
                                   go_simp
                                   with_reducible rfl
                                  rotate_left
                                  ·
                                   simp only [Act.put, List.setIfInBounds_toArray, List.set_cons_zero, List.set_cons_succ, i64_w, i32_w]
                                   rfl
                                  refine pure_ (i := 2) (N := some 209) (v := ?_) (a' := ?_) #[true, true, true, false, false, false, false, false, false] rfl rfl (any_of HT_.out (by kernel_rfl)) (fun _ _ _ h => h) (Or.inl ⟨by rfl, ?_⟩) ?_ ?_
                                  rotate_left
                                  ·
                                   intro w'
                                   go_simp
                                   with_reducible rfl
                                  rotate_left
                                  ·
                                   simp only [Act.put, List.setIfInBounds_toArray, List.set_cons_zero, List.set_cons_succ, i64_w, i32_w]
                                   rfl
                                  refine pure_ (i := 4) (N := some 211) (v := ?_) (a' := ?_) #[true, true, true, false, true, false, false, false, false] rfl rfl (any_of HT_.out (by kernel_rfl)) (fun _ _ _ h => h) (Or.inl ⟨by rfl, ?_⟩) ?_ ?_
                                  rotate_left
                                  ·
                                   intro w'
                                   go_simp
                                   with_reducible rfl
                                  rotate_left
                                  ·
                                   simp only [Act.put, List.setIfInBounds_toArray, List.set_cons_zero, List.set_cons_succ, i64_w, i32_w]
                                   rfl
                                  refine pure_ (i := 5) (N := some 212) (v := ?_) (a' := ?_) #[true, true, true, false, true, true, false, false, false] rfl rfl (any_of HT_.out (by kernel_rfl)) (fun _ _ _ h => h) (Or.inl ⟨by rfl, ?_⟩) ?_ ?_
                                  rotate_left
                                  ·
                                   intro w'
                                   go_simp
                                   with_reducible rfl
                                  rotate_left
                                  ·
                                   simp only [Act.put, List.setIfInBounds_toArray, List.set_cons_zero, List.set_cons_succ, i64_w, i32_w]
                                   rfl
                                  refine pure_ (i := 6) (N := some 213) (v := ?_) (a' := ?_) #[true, true, true, false, true, true, true, false, false] rfl rfl (any_of HT_.out (by kernel_rfl)) (fun _ _ _ h => h) (Or.inl ⟨by rfl, ?_⟩) ?_ ?_
                                  rotate_left
                                  ·
                                   intro w'
                                   go_simp
                                   with_reducible rfl
                                  rotate_left
                                  ·
                                   simp only [Act.put, List.setIfInBounds_toArray, List.set_cons_zero, List.set_cons_succ, i64_w, i32_w]
                                   rfl
                                  refine take_ (i := 3) (N := some 210) (v := ?_) (a' := ?_) #[true, true, true, true, true, true, true, false, false] rfl rfl (take_ofW HT_.out HW_.out (by kernel_rfl)) (fun _ _ _ h => h) (Or.inl ⟨by rfl, ?_⟩) hHeld ?_ ?_
                                  rotate_left
                                  ·
                                   rintro w' ⟨s0, s1⟩
                                   go_simp
                                   with_reducible rfl
                                  rotate_left
                                  ·
                                   simp only [Act.put, List.setIfInBounds_toArray, List.set_cons_zero, List.set_cons_succ, i64_w, i32_w]
                                   rfl
                                  refine take_ (i := 7) (N := some 214) (v := ?_) (a' := ?_) #[true, true, true, true, true, true, true, true, false] rfl rfl (take_ofW HT_.out HW_.out (by kernel_rfl)) (fun _ _ _ h => h) (Or.inl ⟨by rfl, ?_⟩) hHeld ?_ ?_
                                  rotate_left
                                  ·
                                   rintro w' ⟨s0, s1⟩
                                   go_simp
                                   with_reducible rfl
                                  rotate_left
                                  ·
                                   simp only [Act.put, List.setIfInBounds_toArray, List.set_cons_zero, List.set_cons_succ, i64_w, i32_w]
                                   rfl
                                  refine pure_ (i := 8) (N := some 215) (v := ?_) (a' := ?_) #[true, true, true, true, true, true, true, true, true] rfl rfl (any_of HT_.out (by kernel_rfl)) (fun _ _ _ h => h) (Or.inl ⟨by rfl, ?_⟩) ?_ ?_
                                  rotate_left
                                  ·
                                   intro w'
                                   go_simp
                                   with_reducible rfl
                                  rotate_left
                                  ·
                                   simp only [Act.put, List.setIfInBounds_toArray, List.set_cons_zero, List.set_cons_succ, i64_w, i32_w]
                                   rfl
                                  refine done_ (done_of HT_.out (by kernel_rfl)) ?_
                                  try go_wp2
                                  go_roundg k5
                                  case measure => have := HJ4.out; have := HK2.out; have := HK3.out; have := HK4.out; have := HK5.out; omega
                                  case rel => exact ⟨(wrap64 (x204_5 + 1)), (by first | rfl | (simp; done) | (simp [*]; done)), H', ⟨by have := HJ4.out; have := HK2.out; have := HK3.out; have := HK4.out; have := HK5.out; omega⟩, ⟨krA HO_18⟩, ⟨krA HO_23⟩, ⟨krA HO_137002⟩, ⟨bkA BK136⟩, ⟨hbA HB⟩⟩
                                 ·
                                  rw [if_neg c112] at H
                                  exact absurd H (by simp)
                                ·
                                 rw [if_neg c111] at H
                                 exact absurd H (by simp)
                               ·
                                exact absurd (of_decide_eq_true c108b0) c110
                              ·
                               rw [if_neg c109] at H
                               exact absurd H (by simp)
                             ·
                              rw [if_neg c108] at H
                              have c108b0 : decide (x204_5 < (t235.length : Int)) = false := decide_eq_false c108
                              clear c108
                              obtain ⟨y256, hy256⟩ : ∃ y_ : List (Nat × Nat), y_ = (([((4602678819172646912, 0) : Nat × Nat)] : List (Nat × Nat))) := ⟨_, rfl⟩
                              replace H : ((tensor_OfNums.f a0 ([] : List Int) y256).bind fun bt259 => ((agatelaw07_Awake.f).bind fun t266 => (if t266 = true then ((agateref07_Laid_s.f 0).bind fun t267 => (if bt259.2.2.2.toList = t267.toList then ((tensor_Tensor_Check_s.f bt259.1 bt259.2.1 bt259.2.2.1 bt259.2.2.2).bind fun t268 => (some (t268 == 0))) else (none))) else (none)))) = some r := by first | (rw [hy256]; with_reducible exact H) | (have H2_ := (Option.bind_some _ _).symm.trans H; rw [hy256]; with_reducible exact H2_) | (have H2_ := (Option.bind_some _ _).symm.trans H; with_reducible exact H2_) | with_reducible exact H | (rw [hy256]; exact H) | exact H
                              have Ny256 := Aside0.mk hy256
                              clear hy256
                              replace H := Option.bind_eq_some_iff.mp H
                              obtain ⟨⟨t259, t260, t261, t264⟩, A1140, H⟩ := H
                              replace H : ((agatelaw07_Awake.f).bind fun t266 => (if t266 = true then ((agateref07_Laid_s.f 0).bind fun t267 => (if t264.toList = t267.toList then ((tensor_Tensor_Check_s.f t259 t260 t261 t264).bind fun t268 => (some (t268 == 0))) else (none))) else (none))) = some r := H
                              have A114 := Aside0.mk A1140
                              clear A1140
                              replace H := Option.bind_eq_some_iff.mp H
                              obtain ⟨t266, A1150, H⟩ := H
                              replace H : (if t266 = true then ((agateref07_Laid_s.f 0).bind fun t267 => (if t264.toList = t267.toList then ((tensor_Tensor_Check_s.f t259 t260 t261 t264).bind fun t268 => (some (t268 == 0))) else (none))) else (none)) = some r := H
                              have A115 := Aside0.mk A1150
                              clear A1150
                              by_cases c116 : t266 = true
                              ·
                               subst c116
                               have H1 : ((agateref07_Laid_s.f 0).bind fun t267 => (if t264.toList = t267.toList then ((tensor_Tensor_Check_s.f t259 t260 t261 t264).bind fun t268 => (some (t268 == 0))) else (none))) = some r := by rw [if_pos rfl] at H; exact H
                               clear H
                               have H := H1
                               clear H1
                               replace H := Option.bind_eq_some_iff.mp H
                               obtain ⟨t267, A1170, H⟩ := H
                               replace H : (if t264.toList = t267.toList then ((tensor_Tensor_Check_s.f t259 t260 t261 t264).bind fun t268 => (some (t268 == 0))) else (none)) = some r := H
                               have A117 := Aside0.mk A1170
                               clear A1170
                               by_cases c118 : t264.toList = t267.toList
                               ·
                                rw [if_pos c118] at H
                                have c118b0 : (t264.toList == t267.toList) = true := beq_iff_eq.mpr c118
                                have c118b1 : (t264.toList != t267.toList) = false := bne_eq_false_iff_eq.mpr c118
                                clear c118
                                replace H := Option.bind_eq_some_iff.mp H
                                obtain ⟨t268, A1190, H⟩ := H
                                replace H : (some (t268 == 0)) = some r := H
                                have A119 := Aside0.mk A1190
                                clear A1190
                                obtain rfl := Option.some.inj H
                                try go_wp2_with (first | ((with_reducible refine gate_dst (N := 218) rfl ?_); (try (refine gate_guard (by rfl) ?_; dsimp only)); refine Kd.R_lit kdC _ 26 ?hg (N := 218) ?hd (xs := ([((4602678819172646912, 0) : Nat × Nat)] : List (Nat × Nat))) (inner := [.complex .f64 ((4602678819172646912, 0) : Nat × Nat).1 ((4602678819172646912, 0) : Nat × Nat).2]) (ok := fun _ => True) (okp := fun _ => True) ?hr ?hp (fun _ hk => hk) trivial (Below.refl _ _) (Nat.le_refl _) (by simp) ?_; (case hd => rfl); (case hg => rfl); (case hr => first | (go_simp; done) | (go_simp; rfl)); (case hp => exact (Reps.one (show Kd.M kdC _ _ _ ((4602678819172646912, 0) : Nat × Nat) [.complex .f64 ((4602678819172646912, 0) : Nat × Nat).1 ((4602678819172646912, 0) : Nat × Nat).2] from rfl) (Reps.none _ _))); intro v257 w120 ho121 hb hg_ hnew_; clear hg_ hnew_; (first | rw [← Ny256.out] at ho121 | (simp only [Int.reduceToNat] at ho121; rw [← Ny256.out] at ho121)); have n0_ := Aside0.mk (Kd.R_elder' (krA HO_18) (Kd.R_base ho121) hb); have n1_ := Aside0.mk (Kd.R_elder' (krA HO_23) (Kd.R_base ho121) hb); have n2_ := Aside0.mk (Kd.R_below (krA HO_137002) hb); have n3_ := Aside0.mk (Kd.R_lower (Kd.R_new' (Kd.R_new' ho121 (Kd.R_lt (krA HO_18))) (Kd.R_lt (krA HO_23))) (below_size (hbA HB))); have n4_ := Aside0.mk (blk_below (g := gb136) (bkA BK136) hb); have n5_ := Aside0.mk (below_step (hbA HB) hb); clear HO_18; clear HO_23; clear HO_137002; clear BK136; clear HB; have HO_18 := n0_; have HO_23 := n1_; have HO_137002 := n2_; have HO258 := n3_; have BK136 := n4_; have HB := n5_; clear n0_ n1_ n2_ n3_ n4_ n5_; clear hb ho121; obtain ⟨Ao122, co122, eo122⟩ := Kd.R_slice HO258.out; subst eo122) | ((with_reducible refine gate_callee (f := 53) rfl ?_); refine goesL_ (some 219) rfl rfl Try.func53 (by kernel_rfl) rfl #[.string a0, .slice none 0 0, .slice Ao122 y256.length co122] rfl (by (try simp only [List.map_toArray, List.map_cons, List.map_nil]); first | done | rfl | (simp only [List.length_drop, List.length_take]; rfl)) ?_; (refine (tensor_OfNums.calls a0 _ _ ([] : List Int) _ _ y256 t259 t260 t261 t264 _ ?side1 ?side2 ?side3 ?side4 A114.out).mono ?_); (case side1 => exact Kd.C_nil _ _); (case side2 => exact Nat.le_refl _); (case side3 => repeat (first | exact (Kd.R_reads' HO258.out).2.2 | (with_reducible refine Kd.C_alloc ?_ _) | (with_reducible refine Kd.C_drewN ?_ _) | (with_reducible refine Kd.C_drew ?_))); (case side4 => exact (Kd.R_reads' HO258.out).2.1); rintro e w123 ⟨v262, rfl, ho0, hb⟩; refine ⟨_, rfl, ?_⟩; have n0_ := Aside0.mk (Kd.R_below (krA HO_18) hb); have n1_ := Aside0.mk (Kd.R_below (krA HO_23) hb); have n2_ := Aside0.mk (Kd.R_elder' (krA HO_137002) (Kd.R_base ho0) hb); have n3_ := Aside0.mk (Kd.R_below (krA HO258) hb); have n4_ := Aside0.mk (Kd.R_lower (Kd.R_new' ho0 (Kd.R_lt (krA HO_137002))) (below_size (hbA HB))); have n5_ := Aside0.mk (blk_below (g := gb136) (bkA BK136) hb); have n6_ := Aside0.mk (below_step (hbA HB) hb); clear HO_18; clear HO_23; clear HO_137002; clear HO258; clear BK136; clear HB; have HO_18 := n0_; have HO_23 := n1_; have HO_137002 := n2_; have HO258 := n3_; have HO263 := n4_; have BK136 := n5_; have HB := n6_; clear n0_ n1_ n2_ n3_ n4_ n5_ n6_; (try clear hb); (try clear hb2); (try clear hk); (try clear hi); (try clear ho0)) | ((with_reducible refine gate_dst (N := 25) rfl ?_); (try (refine gate_guard (by rfl) ?_; dsimp only)); refine box_event ?hg (N := 25) ?hd (cs := #[.string (⟨#[]⟩ : ByteArray), .int .i64 0, .slice none 0 0, .string (⟨#[]⟩ : ByteArray)]) (t := 62) ?hr ?_; (case hd => rfl); (case hg => rfl); (case hr => first | (go_simp; done) | (go_simp; rfl)); intro gb265 hg w124 hbox hb; have n0_ := Aside0.mk (Kd.R_below (krA HO_18) hb); have n1_ := Aside0.mk (Kd.R_below (krA HO_23) hb); have n2_ := Aside0.mk (Kd.R_below (krA HO_137002) hb); have n3_ := Aside0.mk (Kd.R_below (krA HO258) hb); have n4_ := Aside0.mk (Kd.R_below (krA HO263) hb); have n5_ := Aside0.mk (blk_below (g := gb136) (bkA BK136) hb); have n6_ := Aside0.mk (below_step (hbA HB) hb); have n7_ := Aside0.mk (hbox); have n8_ := Aside0.mk ((by rw [hg]; exact (below_size (hbA HB)) : w.heap.size ≤ gb265)); have n9_ := Aside0.mk ((by rw [hg]; exact (below_size (hbA HB)) : w.heap.size ≤ gb265)); have n10_ := Aside0.mk ((by rw [hg]; exact Nat.ne_of_lt (blk_lt (g := gb136) (bkA BK136)) : gb136 ≠ gb265)); have n11_ := Aside0.mk ((by rw [hg]; exact Nat.ne_of_gt (blk_lt (g := gb136) (bkA BK136)) : gb265 ≠ gb136)); clear HO_18; clear HO_23; clear HO_137002; clear HO258; clear HO263; clear BK136; clear HB; have HO_18 := n0_; have HO_23 := n1_; have HO_137002 := n2_; have HO258 := n3_; have HO263 := n4_; have BK136 := n5_; have HB := n6_; have BK265 := n7_; have GW265 := n8_; have GE265 := n9_; have NB136_265 := n10_; have NB265_136 := n11_; clear n0_ n1_ n2_ n3_ n4_ n5_ n6_ n7_ n8_ n9_ n10_ n11_; clear hb hbox hg; have hnb125 := NB265_136.out; have hnc125 := NB136_265.out; have hcz126_0 : w124.cell? ⟨gb265, 0, none⟩ = some (.string (⟨#[]⟩ : ByteArray)) := bcA BK265 0; have hcz126_1 : w124.cell? ⟨gb265, 1, none⟩ = some (.int .i64 0) := bcA BK265 1; have hcz126_2 : w124.cell? ⟨gb265, 2, none⟩ = some (.slice none 0 0) := bcA BK265 2; have hcz126_3 : w124.cell? ⟨gb265, 3, none⟩ = some (.string (⟨#[]⟩ : ByteArray)) := bcA BK265 3; have hfz126_0 := blk_frozen BK265.out 0; have hfz126_1 := blk_frozen BK265.out 1; have hfz126_2 := blk_frozen BK265.out 2; have hfz126_3 := blk_frozen BK265.out 3; obtain ⟨Ao127, co127, eo127⟩ := Kd.R_slice HO263.out; subst eo127))
                                have n0_ : Aside0 (Kd.R kdC 26 ((((w124.setCell ⟨gb265, 0, none⟩ (.string t259)).setCell ⟨gb265, 1, none⟩ (.int .i64 t260)).setCell ⟨gb265, 2, none⟩ (.slice Ao127 t261.length co127)).setCell ⟨gb265, 3, none⟩ (.string t264)) w.heap.size (fun k_ => some k_ ≠ (.slice Ao107 t235.length co107 : Value).ownBlock ∧ some k_ ≠ (.slice Ao122 y256.length co122 : Value).ownBlock) (.slice Ao101 x18_4.length co101) x18_4) := ⟨by (with_reducible repeat (first | apply Kd.R_alloc | apply Kd.R_drewN | apply Kd.R_drew)); exact Kd.R_mono (Kd.R_far (p := ⟨gb265, 3, none⟩) (Kd.R_far (p := ⟨gb265, 2, none⟩) (Kd.R_far (p := ⟨gb265, 1, none⟩) (Kd.R_far (p := ⟨gb265, 0, none⟩) (Kd.R_types HO_18.out BK265.out (by decide)) (fun _ hk => hk.2) (.string t259)) (fun _ hk => hk.2) (.int .i64 t260)) (fun _ hk => hk.2) (.slice Ao127 t261.length co127)) (fun _ hk => hk.2) (.string t264)) (fun _ hk => ⟨hk.1.1, hk.1.2⟩)⟩
                                have n1_ : Aside0 (Kd.R kdC 26 ((((w124.setCell ⟨gb265, 0, none⟩ (.string t259)).setCell ⟨gb265, 1, none⟩ (.int .i64 t260)).setCell ⟨gb265, 2, none⟩ (.slice Ao127 t261.length co127)).setCell ⟨gb265, 3, none⟩ (.string t264)) w.heap.size (fun k_ => some k_ ≠ (.slice Ao101 x18_4.length co101 : Value).ownBlock ∧ some k_ ≠ (.slice Ao122 y256.length co122 : Value).ownBlock) (.slice Ao107 t235.length co107) t235) := ⟨by (with_reducible repeat (first | apply Kd.R_alloc | apply Kd.R_drewN | apply Kd.R_drew)); exact Kd.R_mono (Kd.R_far (p := ⟨gb265, 3, none⟩) (Kd.R_far (p := ⟨gb265, 2, none⟩) (Kd.R_far (p := ⟨gb265, 1, none⟩) (Kd.R_far (p := ⟨gb265, 0, none⟩) (Kd.R_types HO_23.out BK265.out (by decide)) (fun _ hk => hk.2) (.string t259)) (fun _ hk => hk.2) (.int .i64 t260)) (fun _ hk => hk.2) (.slice Ao127 t261.length co127)) (fun _ hk => hk.2) (.string t264)) (fun _ hk => ⟨hk.1.1, hk.1.2⟩)⟩
                                have n2_ : Aside0 (Kd.R (Kd.int .i64) 2 ((((w124.setCell ⟨gb265, 0, none⟩ (.string t259)).setCell ⟨gb265, 1, none⟩ (.int .i64 t260)).setCell ⟨gb265, 2, none⟩ (.slice Ao127 t261.length co127)).setCell ⟨gb265, 3, none⟩ (.string t264)) w.heap.size (fun k_ => some k_ ≠ (.slice Ao127 t261.length co127 : Value).ownBlock) (.slice Ao104 t231.length co104) t231) := ⟨by (with_reducible repeat (first | apply Kd.R_alloc | apply Kd.R_drewN | apply Kd.R_drew)); exact Kd.R_mono (Kd.R_far (p := ⟨gb265, 3, none⟩) (Kd.R_far (p := ⟨gb265, 2, none⟩) (Kd.R_far (p := ⟨gb265, 1, none⟩) (Kd.R_far (p := ⟨gb265, 0, none⟩) (Kd.R_types HO_137002.out BK265.out (by decide)) (fun _ hk => hk.2) (.string t259)) (fun _ hk => hk.2) (.int .i64 t260)) (fun _ hk => hk.2) (.slice Ao127 t261.length co127)) (fun _ hk => hk.2) (.string t264)) (fun _ hk => hk.1.2)⟩
                                have n3_ : Aside0 (Kd.R kdC 26 ((((w124.setCell ⟨gb265, 0, none⟩ (.string t259)).setCell ⟨gb265, 1, none⟩ (.int .i64 t260)).setCell ⟨gb265, 2, none⟩ (.slice Ao127 t261.length co127)).setCell ⟨gb265, 3, none⟩ (.string t264)) w.heap.size (fun k_ => some k_ ≠ (.slice Ao101 x18_4.length co101 : Value).ownBlock ∧ some k_ ≠ (.slice Ao107 t235.length co107 : Value).ownBlock) (.slice Ao122 y256.length co122) y256) := ⟨by (with_reducible repeat (first | apply Kd.R_alloc | apply Kd.R_drewN | apply Kd.R_drew)); exact Kd.R_mono (Kd.R_far (p := ⟨gb265, 3, none⟩) (Kd.R_far (p := ⟨gb265, 2, none⟩) (Kd.R_far (p := ⟨gb265, 1, none⟩) (Kd.R_far (p := ⟨gb265, 0, none⟩) (Kd.R_types HO258.out BK265.out (by decide)) (fun _ hk => hk.2) (.string t259)) (fun _ hk => hk.2) (.int .i64 t260)) (fun _ hk => hk.2) (.slice Ao127 t261.length co127)) (fun _ hk => hk.2) (.string t264)) (fun _ hk => ⟨hk.1.1.2, hk.1.2⟩)⟩
                                have n4_ : Aside0 (Kd.R (Kd.int .i64) 2 ((((w124.setCell ⟨gb265, 0, none⟩ (.string t259)).setCell ⟨gb265, 1, none⟩ (.int .i64 t260)).setCell ⟨gb265, 2, none⟩ (.slice Ao127 t261.length co127)).setCell ⟨gb265, 3, none⟩ (.string t264)) w.heap.size (fun k_ => some k_ ≠ (.slice Ao104 t231.length co104 : Value).ownBlock) (.slice Ao127 t261.length co127) t261) := ⟨by (with_reducible repeat (first | apply Kd.R_alloc | apply Kd.R_drewN | apply Kd.R_drew)); exact Kd.R_mono (Kd.R_far (p := ⟨gb265, 3, none⟩) (Kd.R_far (p := ⟨gb265, 2, none⟩) (Kd.R_far (p := ⟨gb265, 1, none⟩) (Kd.R_far (p := ⟨gb265, 0, none⟩) (Kd.R_types HO263.out BK265.out (by decide)) (fun _ hk => hk.2) (.string t259)) (fun _ hk => hk.2) (.int .i64 t260)) (fun _ hk => hk.2) (.slice Ao127 t261.length co127)) (fun _ hk => hk.2) (.string t264)) (fun _ hk => hk.1.2)⟩
                                have n5_ : Aside0 (((((w124.setCell ⟨gb265, 0, none⟩ (.string t259)).setCell ⟨gb265, 1, none⟩ (.int .i64 t260)).setCell ⟨gb265, 2, none⟩ (.slice Ao127 t261.length co127)).setCell ⟨gb265, 3, none⟩ (.string t264)).heap[gb136]? = some (.cells #[.string t229, .int .i64 t230, .slice Ao104 t231.length co104, .string t234] 62 (0, 0))) := ⟨by (with_reducible repeat (first | refine blk_drewN ?_ _ | refine blk_drew ?_ | refine blk_alloc ?_ _)); refine blk_far ?_ NB136_265.out _; (with_reducible repeat (first | refine blk_drewN ?_ _ | refine blk_drew ?_ | refine blk_alloc ?_ _)); refine blk_far ?_ NB136_265.out _; (with_reducible repeat (first | refine blk_drewN ?_ _ | refine blk_drew ?_ | refine blk_alloc ?_ _)); refine blk_far ?_ NB136_265.out _; (with_reducible repeat (first | refine blk_drewN ?_ _ | refine blk_drew ?_ | refine blk_alloc ?_ _)); refine blk_far ?_ NB136_265.out _; (with_reducible repeat (first | refine blk_drewN ?_ _ | refine blk_drew ?_ | refine blk_alloc ?_ _)); exact BK136.out⟩
                                have n6_ : Aside0 (((((w124.setCell ⟨gb265, 0, none⟩ (.string t259)).setCell ⟨gb265, 1, none⟩ (.int .i64 t260)).setCell ⟨gb265, 2, none⟩ (.slice Ao127 t261.length co127)).setCell ⟨gb265, 3, none⟩ (.string t264)).heap[gb265]? = some (.cells #[.string t259, .int .i64 t260, .slice Ao127 t261.length co127, .string t264] 62 (0, 0))) := ⟨by (with_reducible repeat (first | refine blk_drewN ?_ _ | refine blk_drew ?_ | refine blk_alloc ?_ _)); refine blk_put (cs := #[.string t259, .int .i64 t260, .slice Ao127 t261.length co127, .string (⟨#[]⟩ : ByteArray)]) ?_ 3 _ rfl; (with_reducible repeat (first | refine blk_drewN ?_ _ | refine blk_drew ?_ | refine blk_alloc ?_ _)); refine blk_put (cs := #[.string t259, .int .i64 t260, .slice none 0 0, .string (⟨#[]⟩ : ByteArray)]) ?_ 2 _ rfl; (with_reducible repeat (first | refine blk_drewN ?_ _ | refine blk_drew ?_ | refine blk_alloc ?_ _)); refine blk_put (cs := #[.string t259, .int .i64 0, .slice none 0 0, .string (⟨#[]⟩ : ByteArray)]) ?_ 1 _ rfl; (with_reducible repeat (first | refine blk_drewN ?_ _ | refine blk_drew ?_ | refine blk_alloc ?_ _)); refine blk_put (cs := #[.string (⟨#[]⟩ : ByteArray), .int .i64 0, .slice none 0 0, .string (⟨#[]⟩ : ByteArray)]) ?_ 0 _ rfl; (with_reducible repeat (first | refine blk_drewN ?_ _ | refine blk_drew ?_ | refine blk_alloc ?_ _)); exact BK265.out⟩
                                have n7_ : Aside0 (Below w.heap.size w ((((w124.setCell ⟨gb265, 0, none⟩ (.string t259)).setCell ⟨gb265, 1, none⟩ (.int .i64 t260)).setCell ⟨gb265, 2, none⟩ (.slice Ao127 t261.length co127)).setCell ⟨gb265, 3, none⟩ (.string t264))) := ⟨hbA HB⟩
                                try clear HO_18; try clear HO_23; try clear HO_137002; try clear HO258; try clear HO263; try clear BK136; try clear BK265; try clear HB
                                generalize ((((w124.setCell ⟨gb265, 0, none⟩ (.string t259)).setCell ⟨gb265, 1, none⟩ (.int .i64 t260)).setCell ⟨gb265, 2, none⟩ (.slice Ao127 t261.length co127)).setCell ⟨gb265, 3, none⟩ (.string t264)) = w128 at n0_ n1_ n2_ n3_ n4_ n5_ n6_ n7_ ⊢
                                have HO_18 := n0_; have HO_23 := n1_; have HO_137002 := n2_; have HO258 := n3_; have HO263 := n4_; have BK136 := n5_; have BK265 := n6_; have HB := n7_; clear n0_ n1_ n2_ n3_ n4_ n5_ n6_ n7_
                                have n0_ := Aside0.mk (Kd.R_drew HO_18.out)
                                have n1_ := Aside0.mk (Kd.R_drew HO_23.out)
                                have n2_ := Aside0.mk (Kd.R_drew HO_137002.out)
                                have n3_ := Aside0.mk (Kd.R_drew HO258.out)
                                have n4_ := Aside0.mk (Kd.R_drew HO263.out)
                                have n5_ := Aside0.mk (blk_drew BK136.out)
                                have n6_ := Aside0.mk (blk_drew BK265.out)
                                have n7_ := Aside0.mk (below_drew1 HB.out)
                                clear HO_18; clear HO_23; clear HO_137002; clear HO258; clear HO263; clear BK136; clear BK265; clear HB; have HO_18 := n0_; have HO_23 := n1_; have HO_137002 := n2_; have HO258 := n3_; have HO263 := n4_; have BK136 := n5_; have BK265 := n6_; have HB := n7_; clear n0_ n1_ n2_ n3_ n4_ n5_ n6_ n7_
                                refine start_ (n := 13) (S := fun w' => w'.cell? ⟨gb265, 0, none⟩ = some (.string t259) ∧ w'.cell? ⟨gb265, 1, none⟩ = some (.int .i64 t260) ∧ w'.cell? ⟨gb265, 2, none⟩ = some (.slice Ao127 t261.length co127) ∧ w'.cell? ⟨gb265, 3, none⟩ = some (.string t264)) (ds := []) #[false, false, false, false, false, false, false, false, false, false, false, false, false] (by kernel_rfl) rfl rfl ⟨bcA BK265 0, bcA BK265 1, bcA BK265 2, bcA BK265 3⟩ (fun hHeld => ?_); refine with_tabW agatelaw07_TensorMakes.tab47 agatelaw07_TensorMakes.bits47 (fun HT_ HW_ => ?_)
                                generalize w128.drew = w129 at HO_18 HO_23 HO_137002 HO258 HO263 BK136 BK265 HB hHeld ⊢
                                refine one_ (i := 0) (N := some 220) #[true, false, false, false, false, false, false, false, false, false, false, false, false] rfl rfl (one_of HT_.out (by kernel_rfl)) (by decide) (fun K hK => ?_)
                                refine goes_ Try.func35 (by kernel_rfl) rfl #[] (by rfl) rfl rfl (by (try simp only [List.map_toArray, List.map_cons, List.map_nil]); first | done | rfl | (simp only [List.length_drop, List.length_take]; rfl)) ?_
                                with_reducible refine (agatelaw07_Awake.calls  true _ A115.out).mono ?_
                                rintro e w130 ⟨rfl, hb⟩
                                refine ⟨_, rfl, ?_⟩
                                have n0_ := Aside0.mk (Kd.R_below (krA HO_18) hb)
                                have n1_ := Aside0.mk (Kd.R_below (krA HO_23) hb)
                                have n2_ := Aside0.mk (Kd.R_below (krA HO_137002) hb)
                                have n3_ := Aside0.mk (Kd.R_below (krA HO258) hb)
                                have n4_ := Aside0.mk (Kd.R_below (krA HO263) hb)
                                have n5_ := Aside0.mk (blk_below (g := gb136) (bkA BK136) hb); have n6_ := Aside0.mk (blk_below (g := gb265) (bkA BK265) hb); have n7_ := Aside0.mk (below_step (hbA HB) hb); clear HO_18; clear HO_23; clear HO_137002; clear HO258; clear HO263; clear BK136; clear BK265; clear HB; have HO_18 := n0_; have HO_23 := n1_; have HO_137002 := n2_; have HO258 := n3_; have HO263 := n4_; have BK136 := n5_; have BK265 := n6_; have HB := n7_; clear n0_ n1_ n2_ n3_ n4_ n5_ n6_ n7_; try clear hb; try clear hk
                                refine hK.out _ _ ⟨bcA BK265 0, bcA BK265 1, bcA BK265 2, bcA BK265 3⟩ (fun hHeld => ?_)
                                clear hK K
                                refine norm_ (a' := ?_) ?_ ?_
                                rotate_left
                                ·
                                 show Act.put _ (some 220) _ = _
                                 simp only [Act.put, List.setIfInBounds_toArray, List.set_cons_zero, List.set_cons_succ, i64_w, i32_w]
                                 rfl
                                refine pure_ (i := 1) (N := some 221) (v := ?_) (a' := ?_) #[true, true, false, false, false, false, false, false, false, false, false, false, false] rfl rfl (any_of HT_.out (by kernel_rfl)) (fun _ _ _ h => h) (Or.inl ⟨by rfl, ?_⟩) ?_ ?_
                                rotate_left
                                ·
                                 intro w'
                                 go_simp
                                 with_reducible rfl
                                rotate_left
                                ·
                                 simp only [Act.put, List.setIfInBounds_toArray, List.set_cons_zero, List.set_cons_succ, i64_w, i32_w]
                                 rfl
                                refine pure_ (i := 2) (N := some 222) (v := ?_) (a' := ?_) #[true, true, true, false, false, false, false, false, false, false, false, false, false] rfl rfl (any_of HT_.out (by kernel_rfl)) (fun _ _ _ h => h) (Or.inl ⟨by rfl, ?_⟩) ?_ ?_
                                rotate_left
                                ·
                                 intro w'
                                 go_simp
                                 with_reducible rfl
                                rotate_left
                                ·
                                 simp only [Act.put, List.setIfInBounds_toArray, List.set_cons_zero, List.set_cons_succ, i64_w, i32_w]
                                 rfl
                                refine take_ (i := 3) (N := some 223) (v := ?_) (a' := ?_) #[true, true, true, true, false, false, false, false, false, false, false, false, false] rfl rfl (take_ofW HT_.out HW_.out (by kernel_rfl)) (fun _ _ _ h => h) (Or.inl ⟨by rfl, ?_⟩) hHeld ?_ ?_
                                rotate_left
                                ·
                                 rintro w' ⟨s0, s1, s2, s3⟩
                                 go_simp
                                 with_reducible rfl
                                rotate_left
                                ·
                                 simp only [Act.put, List.setIfInBounds_toArray, List.set_cons_zero, List.set_cons_succ, i64_w, i32_w]
                                 rfl
                                refine one_ (i := 4) (N := some 224) #[true, true, true, true, true, false, false, false, false, false, false, false, false] rfl rfl (one_of HT_.out (by kernel_rfl)) (by decide) (fun K hK => ?_)
                                refine goes_ Try.func49 (by kernel_rfl) rfl #[.int .i64 0] (by rfl) rfl rfl (by (try simp only [List.map_toArray, List.map_cons, List.map_nil]); first | done | rfl | (simp only [List.length_drop, List.length_take]; rfl)) ?_
                                with_reducible refine (agateref07_Laid_s.calls 0 t267 _ A117.out).mono ?_
                                rintro e w131 ⟨rfl, hb⟩
                                refine ⟨_, rfl, ?_⟩
                                have n0_ := Aside0.mk (Kd.R_below (krA HO_18) hb)
                                have n1_ := Aside0.mk (Kd.R_below (krA HO_23) hb)
                                have n2_ := Aside0.mk (Kd.R_below (krA HO_137002) hb)
                                have n3_ := Aside0.mk (Kd.R_below (krA HO258) hb)
                                have n4_ := Aside0.mk (Kd.R_below (krA HO263) hb)
                                have n5_ := Aside0.mk (blk_below (g := gb136) (bkA BK136) hb); have n6_ := Aside0.mk (blk_below (g := gb265) (bkA BK265) hb); have n7_ := Aside0.mk (below_step (hbA HB) hb); clear HO_18; clear HO_23; clear HO_137002; clear HO258; clear HO263; clear BK136; clear BK265; clear HB; have HO_18 := n0_; have HO_23 := n1_; have HO_137002 := n2_; have HO258 := n3_; have HO263 := n4_; have BK136 := n5_; have BK265 := n6_; have HB := n7_; clear n0_ n1_ n2_ n3_ n4_ n5_ n6_ n7_; try clear hb; try clear hk
                                refine hK.out _ _ ⟨bcA BK265 0, bcA BK265 1, bcA BK265 2, bcA BK265 3⟩ (fun hHeld => ?_)
                                clear hK K
                                refine norm_ (a' := ?_) ?_ ?_
                                rotate_left
                                ·
                                 show Act.put _ (some 224) _ = _
                                 simp only [Act.put, List.setIfInBounds_toArray, List.set_cons_zero, List.set_cons_succ, i64_w, i32_w]
                                 rfl
                                refine pure_ (i := 5) (N := some 225) (v := ?_) (a' := ?_) #[true, true, true, true, true, true, false, false, false, false, false, false, false] rfl rfl (any_of HT_.out (by kernel_rfl)) (fun _ _ _ h => h) (Or.inl ⟨by rfl, ?_⟩) ?_ ?_
                                rotate_left
                                ·
                                 intro w'
                                 go_simp
                                 with_reducible rfl
                                rotate_left
                                ·
                                 simp only [Act.put, List.setIfInBounds_toArray, List.set_cons_zero, List.set_cons_succ, i64_w, i32_w]
                                 rfl
                                refine pure_ (i := 6) (N := some 226) (v := ?_) (a' := ?_) #[true, true, true, true, true, true, true, false, false, false, false, false, false] rfl rfl (any_of HT_.out (by kernel_rfl)) (fun _ _ _ h => h) (Or.inl ⟨by rfl, ?_⟩) ?_ ?_
                                rotate_left
                                ·
                                 intro w'
                                 go_simp
                                 with_reducible rfl
                                rotate_left
                                ·
                                 simp only [Act.put, List.setIfInBounds_toArray, List.set_cons_zero, List.set_cons_succ, i64_w, i32_w]
                                 rfl
                                refine pure_ (i := 7) (N := some 227) (v := ?_) (a' := ?_) #[true, true, true, true, true, true, true, true, false, false, false, false, false] rfl rfl (any_of HT_.out (by kernel_rfl)) (fun _ _ _ h => h) (Or.inl ⟨by rfl, ?_⟩) ?_ ?_
                                rotate_left
                                ·
                                 intro w'
                                 go_simp
                                 with_reducible rfl
                                rotate_left
                                ·
                                 simp only [Act.put, List.setIfInBounds_toArray, List.set_cons_zero, List.set_cons_succ, i64_w, i32_w]
                                 rfl
                                refine take_ (i := 8) (N := some 228) (v := ?_) (a' := ?_) #[true, true, true, true, true, true, true, true, true, false, false, false, false] rfl rfl (take_ofW HT_.out HW_.out (by kernel_rfl)) (fun _ _ _ h => h) (Or.inl ⟨by rfl, ?_⟩) hHeld ?_ ?_
                                rotate_left
                                ·
                                 rintro w' ⟨s0, s1, s2, s3⟩
                                 go_simp
                                 with_reducible rfl
                                rotate_left
                                ·
                                 simp only [Act.put, List.setIfInBounds_toArray, List.set_cons_zero, List.set_cons_succ, i64_w, i32_w]
                                 rfl
                                refine one_ (i := 9) (N := some 229) #[true, true, true, true, true, true, true, true, true, true, false, false, false] rfl rfl (one_of HT_.out (by kernel_rfl)) (by decide) (fun K hK => ?_)
                                refine goes_ Try.func38 (by kernel_rfl) rfl #[.agg #[.string t259, .int .i64 t260, .slice Ao127 t261.length co127, .string t264]] (by rfl) rfl rfl (by (try simp only [List.map_toArray, List.map_cons, List.map_nil]); first | done | rfl | (simp only [List.length_drop, List.length_take]; rfl)) ?_
                                with_reducible refine (tensor_Tensor_Check_s.calls t259 t260 _ _ t261 t264 t268 _ ?side1 ?side2 A119.out).mono ?_
                                (case side1 => repeat (first | exact (Kd.R_reads' HO263.out).2.2 | (with_reducible refine Kd.C_alloc ?_ _) | (with_reducible refine Kd.C_drewN ?_ _) | (with_reducible refine Kd.C_drew ?_)))
                                (case side2 => exact (Kd.R_reads' HO263.out).2.1)
                                rintro e w132 ⟨rfl, hb⟩
                                refine ⟨_, rfl, ?_⟩
                                have n0_ := Aside0.mk (Kd.R_below (krA HO_18) hb)
                                have n1_ := Aside0.mk (Kd.R_below (krA HO_23) hb)
                                have n2_ := Aside0.mk (Kd.R_below (krA HO_137002) hb)
                                have n3_ := Aside0.mk (Kd.R_below (krA HO258) hb)
                                have n4_ := Aside0.mk (Kd.R_below (krA HO263) hb)
                                have n5_ := Aside0.mk (blk_below (g := gb136) (bkA BK136) hb); have n6_ := Aside0.mk (blk_below (g := gb265) (bkA BK265) hb); have n7_ := Aside0.mk (below_step (hbA HB) hb); clear HO_18; clear HO_23; clear HO_137002; clear HO258; clear HO263; clear BK136; clear BK265; clear HB; have HO_18 := n0_; have HO_23 := n1_; have HO_137002 := n2_; have HO258 := n3_; have HO263 := n4_; have BK136 := n5_; have BK265 := n6_; have HB := n7_; clear n0_ n1_ n2_ n3_ n4_ n5_ n6_ n7_; try clear hb; try clear hk
                                refine hK.out _ _ ⟨bcA BK265 0, bcA BK265 1, bcA BK265 2, bcA BK265 3⟩ (fun hHeld => ?_)
                                clear hK K
                                refine norm_ (a' := ?_) ?_ ?_
                                rotate_left
                                ·
                                 show Act.put _ (some 229) _ = _
                                 simp only [Act.put, List.setIfInBounds_toArray, List.set_cons_zero, List.set_cons_succ, i64_w, i32_w]
                                 rfl
                                refine pure_ (i := 10) (N := some 230) (v := ?_) (a' := ?_) #[true, true, true, true, true, true, true, true, true, true, true, false, false] rfl rfl (any_of HT_.out (by kernel_rfl)) (fun _ _ _ h => h) (Or.inl ⟨by rfl, ?_⟩) ?_ ?_
                                rotate_left
                                ·
                                 intro w'
                                 go_simp
                                 with_reducible rfl
                                rotate_left
                                ·
                                 simp only [Act.put, List.setIfInBounds_toArray, List.set_cons_zero, List.set_cons_succ, i64_w, i32_w]
                                 rfl
                                refine pure_ (i := 11) (N := some 231) (v := ?_) (a' := ?_) #[true, true, true, true, true, true, true, true, true, true, true, true, false] rfl rfl (any_of HT_.out (by kernel_rfl)) (fun _ _ _ h => h) (Or.inl ⟨by rfl, ?_⟩) ?_ ?_
                                rotate_left
                                ·
                                 intro w'
                                 go_simp
                                 with_reducible rfl
                                rotate_left
                                ·
                                 simp only [Act.put, List.setIfInBounds_toArray, List.set_cons_zero, List.set_cons_succ, i64_w, i32_w]
                                 rfl
                                refine pure_ (i := 12) (N := some 8) (v := ?_) (a' := ?_) #[true, true, true, true, true, true, true, true, true, true, true, true, true] rfl rfl (any_of HT_.out (by kernel_rfl)) (fun _ _ _ h => h) (Or.inl ⟨by rfl, ?_⟩) ?_ ?_
                                rotate_left
                                ·
                                 intro w'
                                 go_simp
                                 with_reducible rfl
                                rotate_left
                                ·
                                 simp only [Act.put, List.setIfInBounds_toArray, List.set_cons_zero, List.set_cons_succ, i64_w, i32_w]
                                 rfl
                                refine done_ (done_of HT_.out (by kernel_rfl)) ?_
                                try go_wp2
                                go_ret
                                exact ⟨by first | rfl | (simp [errW_none, errW_some] <;> rfl) | (simp [*, errW_none, errW_some] <;> rfl), hbA HB⟩
                               ·
                                rw [if_neg c118] at H
                                have c118b0 : (t264.toList == t267.toList) = false := beq_eq_false_iff_ne.mpr c118
                                have c118b1 : (t264.toList != t267.toList) = true := bne_iff_ne.mpr c118
                                exact absurd H (by simp)
                              ·
                               replace c116 := Bool.eq_false_iff.mpr c116
                               subst c116
                               have H1 : (none) = some r := by rw [if_neg (show ¬ (false = true) by decide)] at H; exact H
                               clear H
                               have H := H1
                               clear H1
                               exact absurd H (by simp)
                          ·
                           rw [if_neg c97] at H
                           exact absurd H (by simp)
                         ·
                          rw [if_neg c96] at H
                          exact absurd H (by simp)
                        ·
                         rw [if_neg c95] at H
                         exact absurd H (by simp)
                       ·
                        rw [if_neg c94] at H
                        exact absurd H (by simp)
                ·
                 rw [if_neg c35] at H
                 exact absurd H (by simp)
               ·
                rw [if_neg c34] at H
                exact absurd H (by simp)
              ·
               rw [if_neg c33] at H
               exact absurd H (by simp)
             ·
              replace c30 := Bool.eq_false_iff.mpr c30
              subst c30
              have H1 : (none) = some r := by rw [if_neg (show ¬ (false = true) by decide)] at H; exact H
              clear H
              have H := H1
              clear H1
              exact absurd H (by simp)
            ·
             rw [if_neg c28] at H
             exact absurd H (by simp)
           ·
            replace c27 := Bool.eq_false_iff.mpr c27
            subst c27
            have H1 : (none) = some r := by rw [if_neg (show ¬ (false = true) by decide)] at H; exact H
            clear H
            have H := H1
            clear H1
            exact absurd H (by simp)
          ·
           rw [if_neg c25] at H
           exact absurd H (by simp)
         ·
          rw [if_neg c24] at H
          exact absurd H (by simp)
        ·
         rw [if_neg c23] at H
         exact absurd H (by simp)
       ·
        rw [if_neg c20] at H
        exact absurd H (by simp)
end Go.Proofs.Ytpojamikfcmnoaa.X
