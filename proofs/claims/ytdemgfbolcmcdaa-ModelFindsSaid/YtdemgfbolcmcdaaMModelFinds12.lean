import Derived.Test.YtdemgfbolcmcdaaMModelFinds2
import Derived.Test.YtdemgfbolcmcdaaMModelFinds3
import Derived.Test.YtdemgfbolcmcdaaMModelFinds6
import Derived.Test.YtdemgfbolcmcdaaMModelFinds8
import Derived.Test.YtdemgfbolcmcdaaMModelFinds5
import Derived.Test.YtdemgfbolcmcdaaMModelFinds7
import Derived.Laws.ResultCell
namespace Go.Proofs.Ytdemgfbolcmcdaa.X
open Go.RowKit Go.Proofs.YtdemgfbolcmcdaaW.PrintWords Go.Proofs.YtdemgfbolcmcdaaW.PrintLast Go.Proofs.YtdemgfbolcmcdaaW.PrintMore
attribute [local go_sem] max2_int min2_int max_two min_two max_three min_three max_four min_four
set_option linter.unusedVariables false
set_option linter.unusedSimpArgs false
def agateref10_Find.l0 : Nat → List (S47) → ByteArray → Int → Option (Int)
  | 0, _, _, _ => none
  | k + 1, x0, x1, x5 => if x5 < (x0.length : Int) then (if 0 ≤ x5 then (if ((rd_T47 x0 x5).f0).toList = x1.toList then (some x5) else (agateref10_Find.l0 k x0 x1 (wrap64 (x5 + 1)))) else (none)) else (some (-1))
def agateref10_Find.f (k : Nat) (l0 : List (S47)) (a1 : ByteArray) : Option (Int) := agateref10_Find.l0 k l0 a1 0
set_option maxHeartbeats 8000000 in
set_option maxRecDepth 100000 in
theorem agateref10_Find.calls (k : Nat) (A0 : Option Addr) (c0 : Nat) (l0 : List (S47)) (a1 : ByteArray) (r : Int) (w : World) (hr0 : Kd.C k47 w A0 l0.length l0) (hc0 : l0.length ≤ c0) (h : agateref10_Find.f k l0 a1 = some r) :
    Calls Try.prog 10 #[.slice A0 l0.length c0, .string a1] w fun e w' => e = .returned (.int .i64 r) ∧ Drawn0 w w' := by
  have HR0 := Aside0.mk hr0
  have HC0 := Aside0.mk hc0
  clear hr0 hc0
  have H : (agateref10_Find.l0 k l0 a1 0) = some r := h
  clear h
  have H' := Aside0.mk H
  clear H
  go_enter Try.func10, Try.ntmps10
  go_wp2
  go_loopg [5] k (fun kq v5 w' => ∃ (x5_1 : Int), v5 = .int .i64 x5_1 ∧ Aside0 (agateref10_Find.l0 kq l0 a1 x5_1 = some r) ∧ Aside0 (kq ≤ k) ∧ Drawn0 w w')
  case atStart => exact ⟨(0), (by first | rfl | (simp; done) | (simp [*]; done)), H', ⟨Nat.le_refl _⟩, by repeat (first | exact Drawn0.refl _ | apply Drawn0.step)⟩
  case round =>
    clear H'
    try clear c1
    try clear p2
    obtain ⟨x5_1, rfl, HA, HK1, ⟨m1, rfl⟩⟩ := hrel
    cases gk with
    | zero => exact absurd HA.out (by simp [agateref10_Find.l0])
    | succ k1 =>
      have H := HA.out
      clear HA
      simp only [agateref10_Find.l0] at H
      by_cases c3 : x5_1 < (l0.length : Int)
      · rw [if_pos c3] at H
        have c3b0 : decide (x5_1 < (l0.length : Int)) = true := decide_eq_true c3
        clear c3
        by_cases c4 : 0 ≤ x5_1
        · rw [if_pos c4] at H
          have c4b0 : decide (0 ≤ x5_1) = true := decide_eq_true c4
          clear c4
          by_cases c5 : ((rd_T47 l0 x5_1).f0).toList = a1.toList
          · rw [if_pos c5] at H
            have c5b0 : (((rd_T47 l0 x5_1).f0).toList == a1.toList) = true := beq_iff_eq.mpr c5
            have c5b1 : (((rd_T47 l0 x5_1).f0).toList != a1.toList) = false := bne_eq_false_iff_eq.mpr c5
            clear c5
            obtain rfl := Option.some.inj H
            have p101 : 0 ≤ (x5_1 : Int) := of_decide_eq_true (by first | (with_reducible assumption) | assumption)
            have q101 : x5_1 < (l0.length : Int) := of_decide_eq_true (by first | (with_reducible assumption) | assumption)
            obtain ⟨ad101, A101_3, c101_3, e101, hx101_0, hx101_1, hx101_2, hx101_3, hl101_3, hi101_3⟩ := at_T47 HR0.out x5_1 p101 q101
            cases e101
            have HR101_3 := Aside0.mk hi101_3
            have HC101_3 := Aside0.mk hl101_3
            clear hi101_3 hl101_3
            replace p101 := eq_true p101
            replace q101 := eq_true q101
            go_wp2
            go_ret
            exact ⟨by first | rfl | (simp; done) | (simp [*]; done), by repeat (first | exact Drawn0.refl _ | apply Drawn0.step)⟩
          · rw [if_neg c5] at H
            have c5b0 : (((rd_T47 l0 x5_1).f0).toList == a1.toList) = false := beq_eq_false_iff_ne.mpr c5
            have c5b1 : (((rd_T47 l0 x5_1).f0).toList != a1.toList) = true := bne_iff_ne.mpr c5
            have H' := Aside0.mk H
            clear H
            have p101 : 0 ≤ (x5_1 : Int) := of_decide_eq_true (by first | (with_reducible assumption) | assumption)
            have q101 : x5_1 < (l0.length : Int) := of_decide_eq_true (by first | (with_reducible assumption) | assumption)
            obtain ⟨ad101, A101_3, c101_3, e101, hx101_0, hx101_1, hx101_2, hx101_3, hl101_3, hi101_3⟩ := at_T47 HR0.out x5_1 p101 q101
            cases e101
            have HR101_3 := Aside0.mk hi101_3
            have HC101_3 := Aside0.mk hl101_3
            clear hi101_3 hl101_3
            replace p101 := eq_true p101
            replace q101 := eq_true q101
            go_wp2
            go_roundg k1
            case measure => have := HK1.out; omega
            case rel => exact ⟨(wrap64 (x5_1 + 1)), (by first | rfl | (simp; done) | (simp [*]; done)), H', ⟨by have := HK1.out; omega⟩, by repeat (first | exact Drawn0.refl _ | apply Drawn0.step)⟩
        · rw [if_neg c4] at H
          exact absurd H (by simp)
      · rw [if_neg c3] at H
        have c3b0 : decide (x5_1 < (l0.length : Int)) = false := decide_eq_false c3
        clear c3
        obtain rfl := Option.some.inj H
        go_wp2
        go_ret
        exact ⟨by first | rfl | (simp; done) | (simp [*]; done), by repeat (first | exact Drawn0.refl _ | apply Drawn0.step)⟩
end Go.Proofs.Ytdemgfbolcmcdaa.X
namespace Go.Proofs.Ytdemgfbolcmcdaa.X
open Go.RowKit Go.Proofs.YtdemgfbolcmcdaaW.PrintWords Go.Proofs.YtdemgfbolcmcdaaW.PrintLast Go.Proofs.YtdemgfbolcmcdaaW.PrintMore
attribute [local go_sem] max2_int min2_int max_two min_two max_three min_three max_four min_four
set_option linter.unusedVariables false
set_option linter.unusedSimpArgs false
def agateref10_Init.l0 : Nat → List (S63) → ByteArray → Int → Option (Int)
  | 0, _, _, _ => none
  | k + 1, x0, x1, x5 => if x5 < (x0.length : Int) then (if 0 ≤ x5 then (if ((rd_T63 x0 x5).f0).toList = x1.toList then (some x5) else (agateref10_Init.l0 k x0 x1 (wrap64 (x5 + 1)))) else (none)) else (some (-1))
def agateref10_Init.f (k : Nat) (l0 : List (S63)) (a1 : ByteArray) : Option (Int) := agateref10_Init.l0 k l0 a1 0
set_option maxHeartbeats 8000000 in
set_option maxRecDepth 100000 in
theorem agateref10_Init.calls (k : Nat) (A0 : Option Addr) (c0 : Nat) (l0 : List (S63)) (a1 : ByteArray) (r : Int) (w : World) (hr0 : Kd.C k63 w A0 l0.length l0) (hc0 : l0.length ≤ c0) (h : agateref10_Init.f k l0 a1 = some r) :
    Calls Try.prog 18 #[.slice A0 l0.length c0, .string a1] w fun e w' => e = .returned (.int .i64 r) ∧ Drawn0 w w' := by
  have HR0 := Aside0.mk hr0
  have HC0 := Aside0.mk hc0
  clear hr0 hc0
  have H : (agateref10_Init.l0 k l0 a1 0) = some r := h
  clear h
  have H' := Aside0.mk H
  clear H
  go_enter Try.func18, Try.ntmps18
  go_wp2
  go_loopg [5] k (fun kq v5 w' => ∃ (x5_1 : Int), v5 = .int .i64 x5_1 ∧ Aside0 (agateref10_Init.l0 kq l0 a1 x5_1 = some r) ∧ Aside0 (kq ≤ k) ∧ Drawn0 w w')
  case atStart => exact ⟨(0), (by first | rfl | (simp; done) | (simp [*]; done)), H', ⟨Nat.le_refl _⟩, by repeat (first | exact Drawn0.refl _ | apply Drawn0.step)⟩
  case round =>
    clear H'
    try clear c1
    try clear p2
    obtain ⟨x5_1, rfl, HA, HK1, ⟨m1, rfl⟩⟩ := hrel
    cases gk with
    | zero => exact absurd HA.out (by simp [agateref10_Init.l0])
    | succ k1 =>
      have H := HA.out
      clear HA
      simp only [agateref10_Init.l0] at H
      by_cases c3 : x5_1 < (l0.length : Int)
      · rw [if_pos c3] at H
        have c3b0 : decide (x5_1 < (l0.length : Int)) = true := decide_eq_true c3
        clear c3
        by_cases c4 : 0 ≤ x5_1
        · rw [if_pos c4] at H
          have c4b0 : decide (0 ≤ x5_1) = true := decide_eq_true c4
          clear c4
          by_cases c5 : ((rd_T63 l0 x5_1).f0).toList = a1.toList
          · rw [if_pos c5] at H
            have c5b0 : (((rd_T63 l0 x5_1).f0).toList == a1.toList) = true := beq_iff_eq.mpr c5
            have c5b1 : (((rd_T63 l0 x5_1).f0).toList != a1.toList) = false := bne_eq_false_iff_eq.mpr c5
            clear c5
            obtain rfl := Option.some.inj H
            have p101 : 0 ≤ (x5_1 : Int) := of_decide_eq_true (by first | (with_reducible assumption) | assumption)
            have q101 : x5_1 < (l0.length : Int) := of_decide_eq_true (by first | (with_reducible assumption) | assumption)
            obtain ⟨ad101, A101_2, c101_2, e101, hx101_0, hx101_1, hx101_2, hx101_3, hl101_2, hi101_2⟩ := at_T63 HR0.out x5_1 p101 q101
            cases e101
            have HR101_2 := Aside0.mk hi101_2
            have HC101_2 := Aside0.mk hl101_2
            clear hi101_2 hl101_2
            replace p101 := eq_true p101
            replace q101 := eq_true q101
            go_wp2
            go_ret
            exact ⟨by first | rfl | (simp; done) | (simp [*]; done), by repeat (first | exact Drawn0.refl _ | apply Drawn0.step)⟩
          · rw [if_neg c5] at H
            have c5b0 : (((rd_T63 l0 x5_1).f0).toList == a1.toList) = false := beq_eq_false_iff_ne.mpr c5
            have c5b1 : (((rd_T63 l0 x5_1).f0).toList != a1.toList) = true := bne_iff_ne.mpr c5
            have H' := Aside0.mk H
            clear H
            have p101 : 0 ≤ (x5_1 : Int) := of_decide_eq_true (by first | (with_reducible assumption) | assumption)
            have q101 : x5_1 < (l0.length : Int) := of_decide_eq_true (by first | (with_reducible assumption) | assumption)
            obtain ⟨ad101, A101_2, c101_2, e101, hx101_0, hx101_1, hx101_2, hx101_3, hl101_2, hi101_2⟩ := at_T63 HR0.out x5_1 p101 q101
            cases e101
            have HR101_2 := Aside0.mk hi101_2
            have HC101_2 := Aside0.mk hl101_2
            clear hi101_2 hl101_2
            replace p101 := eq_true p101
            replace q101 := eq_true q101
            go_wp2
            go_roundg k1
            case measure => have := HK1.out; omega
            case rel => exact ⟨(wrap64 (x5_1 + 1)), (by first | rfl | (simp; done) | (simp [*]; done)), H', ⟨by have := HK1.out; omega⟩, by repeat (first | exact Drawn0.refl _ | apply Drawn0.step)⟩
        · rw [if_neg c4] at H
          exact absurd H (by simp)
      · rw [if_neg c3] at H
        have c3b0 : decide (x5_1 < (l0.length : Int)) = false := decide_eq_false c3
        clear c3
        obtain rfl := Option.some.inj H
        go_wp2
        go_ret
        exact ⟨by first | rfl | (simp; done) | (simp [*]; done), by repeat (first | exact Drawn0.refl _ | apply Drawn0.step)⟩
end Go.Proofs.Ytdemgfbolcmcdaa.X
namespace Go.Proofs.Ytdemgfbolcmcdaa.X
open Go.RowKit Go.Proofs.YtdemgfbolcmcdaaW.PrintWords Go.Proofs.YtdemgfbolcmcdaaW.PrintLast Go.Proofs.YtdemgfbolcmcdaaW.PrintMore
attribute [local go_sem] max2_int min2_int max_two min_two max_three min_three max_four min_four
set_option linter.unusedVariables false
set_option linter.unusedSimpArgs false
def slices_Equal_int64_int64.l0 : Nat → List Int → List Int → Int → Int → Option (Bool)
 | 0, _, _, _, _ => none
 | k + 1, x0, x1, x12, x13 => if x13 < x12 then (if 0 ≤ x13 then (if x13 < (x0.length : Int) then (if x13 < (x1.length : Int) then (if (rd x0 x13) = (rd x1 x13) then (slices_Equal_int64_int64.l0 k x0 x1 x12 (wrap64 (x13 + 1))) else (some false)) else (none)) else (none)) else (none)) else (some true)
def slices_Equal_int64_int64.f (k : Nat) (l0 : List Int) (l1 : List Int) : Option (Bool) := if (l0.length : Int) = (l1.length : Int) then (slices_Equal_int64_int64.l0 k l0 l1 (l0.length : Int) 0) else (some false)
set_option maxHeartbeats 8000000 in
set_option maxRecDepth 100000 in
theorem slices_Equal_int64_int64.calls (k : Nat) (A0 : Option Addr) (c0 : Nat) (l0 : List Int) (A1 : Option Addr) (c1 : Nat) (l1 : List Int) (r : Bool) (w : World) (hr0 : Kd.C (Kd.int .i64) w A0 l0.length l0) (hc0 : l0.length ≤ c0) (hr1 : Kd.C (Kd.int .i64) w A1 l1.length l1) (hc1 : l1.length ≤ c1) (h : slices_Equal_int64_int64.f k l0 l1 = some r) :
  Calls Try.prog 43 #[.slice A0 l0.length c0, .slice A1 l1.length c1] w fun e w' => e = .returned (.bool r) ∧ Drawn0 w w' := by
 have HR0 := Aside0.mk hr0
 have HC0 := Aside0.mk hc0
 clear hr0 hc0
 have HR1 := Aside0.mk hr1
 have HC1 := Aside0.mk hc1
 clear hr1 hc1
 have H : (if (l0.length : Int) = (l1.length : Int) then (slices_Equal_int64_int64.l0 k l0 l1 (l0.length : Int) 0) else (some false)) = some r := h
 clear h
 by_cases c3 : (l0.length : Int) = (l1.length : Int)
 ·
  rw [if_pos c3] at H
  have c3b0 : ((l0.length : Int) == (l1.length : Int)) = true := beq_iff_eq.mpr c3
  have c3b1 : ((l0.length : Int) != (l1.length : Int)) = false := bne_eq_false_iff_eq.mpr c3
  have c3b2 : (l0.length == l1.length) = true := by first | simpa using c3 | (simp at c3 ⊢; omega)
  clear c3
  have H' := Aside0.mk H
  clear H
  go_enter Try.func43, Try.ntmps43
  go_wp2
  repeat (go_quiet (fail); try go_wp2)
  go_loopg [13] k (fun kq v13 w' => ∃ (x13_1 : Int), v13 = .int .i64 x13_1 ∧ Aside0 (slices_Equal_int64_int64.l0 kq l0 l1 (l0.length : Int) x13_1 = some r) ∧ Aside0 (kq ≤ k) ∧ Drawn0 w w')
  case atStart => exact ⟨(0), (by first | rfl | (simp; done) | (simp [*]; done)), H', ⟨Nat.le_refl _⟩, by repeat (first | exact Drawn0.refl _ | apply Drawn0.step)⟩
  case round =>
   clear H'
   try clear c1; try clear c3; try clear c3b0; try clear c3b1; try clear c3b2
   obtain ⟨x13_1, rfl, HA, HK1, ⟨m1, rfl⟩⟩ := hrel
   cases gk with
   | zero => exact absurd HA.out (by simp [slices_Equal_int64_int64.l0])
   | succ k1 =>
    have H := HA.out; clear HA
    simp only [slices_Equal_int64_int64.l0] at H
    by_cases c4 : x13_1 < (l0.length : Int)
    ·
     rw [if_pos c4] at H
     have c4b0 : decide (x13_1 < (l0.length : Int)) = true := decide_eq_true c4
     clear c4
     by_cases c5 : 0 ≤ x13_1
     ·
      rw [if_pos c5] at H
      have c5b0 : decide (0 ≤ x13_1) = true := decide_eq_true c5
      clear c5
      by_cases c6 : x13_1 < (l0.length : Int)
      ·
       rw [if_pos c6] at H
       have c6b0 : decide (x13_1 < (l0.length : Int)) = true := decide_eq_true c6
       clear c6
       by_cases c7 : x13_1 < (l1.length : Int)
       ·
        rw [if_pos c7] at H
        have c7b0 : decide (x13_1 < (l1.length : Int)) = true := decide_eq_true c7
        clear c7
        by_cases c8 : (rd l0 x13_1) = (rd l1 x13_1)
        ·
         rw [if_pos c8] at H
         have c8b0 : ((rd l0 x13_1) == (rd l1 x13_1)) = true := beq_iff_eq.mpr c8
         have c8b1 : ((rd l0 x13_1) != (rd l1 x13_1)) = false := bne_eq_false_iff_eq.mpr c8
         clear c8
         have H' := Aside0.mk H
         clear H
         have p101 : 0 ≤ (x13_1 : Int) := of_decide_eq_true (by first | (with_reducible assumption) | assumption)
         have q101 : x13_1 < (l0.length : Int) := of_decide_eq_true (by first | (with_reducible assumption) | assumption)
         obtain ⟨ad101, e101, hx101_0⟩ := Kd.at_int HR0.out x13_1 p101 q101
         cases e101
         replace p101 := eq_true p101
         replace q101 := eq_true q101
         have p102 : 0 ≤ (x13_1 : Int) := of_decide_eq_true (by first | (with_reducible assumption) | assumption)
         have q102 : x13_1 < (l1.length : Int) := of_decide_eq_true (by first | (with_reducible assumption) | assumption)
         obtain ⟨ad102, e102, hx102_0⟩ := Kd.at_int HR1.out x13_1 p102 q102
         cases e102
         replace p102 := eq_true p102
         replace q102 := eq_true q102
         go_wp2
         repeat (go_quiet (fail); try go_wp2)
         go_roundg k1
         case measure => have := HK1.out; omega
         case rel => exact ⟨(wrap64 (x13_1 + 1)), (by first | rfl | (simp; done) | (simp [*]; done)), H', ⟨by have := HK1.out; omega⟩, by repeat (first | exact Drawn0.refl _ | apply Drawn0.step)⟩
        ·
         rw [if_neg c8] at H
         have c8b0 : ((rd l0 x13_1) == (rd l1 x13_1)) = false := beq_eq_false_iff_ne.mpr c8
         have c8b1 : ((rd l0 x13_1) != (rd l1 x13_1)) = true := bne_iff_ne.mpr c8
         obtain rfl := Option.some.inj H
         have p101 : 0 ≤ (x13_1 : Int) := of_decide_eq_true (by first | (with_reducible assumption) | assumption)
         have q101 : x13_1 < (l0.length : Int) := of_decide_eq_true (by first | (with_reducible assumption) | assumption)
         obtain ⟨ad101, e101, hx101_0⟩ := Kd.at_int HR0.out x13_1 p101 q101
         cases e101
         replace p101 := eq_true p101
         replace q101 := eq_true q101
         have p102 : 0 ≤ (x13_1 : Int) := of_decide_eq_true (by first | (with_reducible assumption) | assumption)
         have q102 : x13_1 < (l1.length : Int) := of_decide_eq_true (by first | (with_reducible assumption) | assumption)
         obtain ⟨ad102, e102, hx102_0⟩ := Kd.at_int HR1.out x13_1 p102 q102
         cases e102
         replace p102 := eq_true p102
         replace q102 := eq_true q102
         go_wp2
         repeat (go_quiet (fail); try go_wp2)
         go_ret
         exact ⟨by first | rfl | (simp; done) | (simp [*]; done), by repeat (first | exact Drawn0.refl _ | apply Drawn0.step)⟩
       ·
        rw [if_neg c7] at H
        exact absurd H (by simp)
      ·
       exact absurd (of_decide_eq_true c4b0) c6
     ·
      rw [if_neg c5] at H
      exact absurd H (by simp)
    ·
     rw [if_neg c4] at H
     have c4b0 : decide (x13_1 < (l0.length : Int)) = false := decide_eq_false c4
     clear c4
     obtain rfl := Option.some.inj H
     go_wp2
     repeat (go_quiet (fail); try go_wp2)
     go_ret
     exact ⟨by first | rfl | (simp; done) | (simp [*]; done), by repeat (first | exact Drawn0.refl _ | apply Drawn0.step)⟩
 ·
  rw [if_neg c3] at H
  have c3b0 : ((l0.length : Int) == (l1.length : Int)) = false := beq_eq_false_iff_ne.mpr c3
  have c3b1 : ((l0.length : Int) != (l1.length : Int)) = true := bne_iff_ne.mpr c3
  have c3b2 : (l0.length == l1.length) = false := by first | simpa using c3 | (simp at c3 ⊢; omega)
  obtain rfl := Option.some.inj H
  go_enter Try.func43, Try.ntmps43
  go_wp2
  repeat (go_quiet (fail); try go_wp2)
  go_ret
  exact ⟨by first | rfl | (simp; done) | (simp [*]; done), by repeat (first | exact Drawn0.refl _ | apply Drawn0.step)⟩
end Go.Proofs.Ytdemgfbolcmcdaa.X
namespace Go.Proofs.Ytdemgfbolcmcdaa.X
open Go.RowKit Go.Proofs.YtdemgfbolcmcdaaW.PrintWords Go.Proofs.YtdemgfbolcmcdaaW.PrintLast Go.Proofs.YtdemgfbolcmcdaaW.PrintMore
attribute [local go_sem] max2_int min2_int max_two min_two max_three min_three max_four min_four
set_option linter.unusedVariables false
set_option linter.unusedSimpArgs false
def slices_Equal_int64_int64_s.f (l0 l1 : List Int) : Option Bool := if l0.length ≤ 1000000 then some (decide (l0 = l1)) else none
theorem slicesEqual_l0 (xs : List Int) : ∀ (ys pre qre : List Int) (k : Nat), xs.length < k → pre.length = qre.length → xs.length = ys.length → pre.length + xs.length ≤ 1000000 →
    slices_Equal_int64_int64.l0 k (pre ++ xs) (qre ++ ys) ((pre ++ xs).length : Int) (pre.length : Int) = some (decide (xs = ys)) := by
  induction xs with
  | nil =>
    intro ys pre qre k hk hp hl hb
    obtain ⟨k, rfl⟩ : ∃ m, k = m + 1 := ⟨k - 1, by omega⟩
    rw [slices_Equal_int64_int64.l0, if_neg (by simp), List.eq_nil_of_length_eq_zero hl.symm]; rfl
  | cons x xs ih =>
    intro ys pre qre k hk hp hl hb
    rw [List.length_cons] at hk hb
    obtain ⟨k, rfl⟩ : ∃ m, k = m + 1 := ⟨k - 1, by omega⟩
    cases ys with
    | nil => cases hl
    | cons y ys =>
      have hl' : xs.length = ys.length := Nat.succ.inj hl
      have ew : wrap64 ((pre.length : Int) + 1) = (((pre ++ [x]).length : Nat) : Int) := by
        rw [wrap64_id (by omega) (by omega), List.length_append, List.length_singleton]; rfl
      rw [slices_Equal_int64_int64.l0, if_pos (by rw [List.length_append, List.length_cons]; omega), if_pos (by omega), if_pos (by rw [List.length_append, List.length_cons]; omega), if_pos (by rw [List.length_append, List.length_cons]; omega), rd_mid pre x xs _ rfl, rd_mid qre y ys _ (by omega), ew]
      clear ew
      by_cases h : x = y
      · rw [if_pos h, show pre ++ x :: xs = (pre ++ [x]) ++ xs by simp, show qre ++ y :: ys = (qre ++ [y]) ++ ys by simp, ih ys _ _ k (by omega) (by simp; omega) hl' (by simp; omega)]
        congr 1
        rw [decide_eq_decide]
        exact ⟨fun g => by rw [h, g], fun g => (List.cons.inj g).2⟩
      · rw [if_neg h, decide_eq_false (fun g => h (List.cons.inj g).1)]
theorem slices_Equal_int64_int64_s.ev (l0 l1 : List Int) (r) (h : slices_Equal_int64_int64_s.f l0 l1 = some r) : ∃ k, slices_Equal_int64_int64.f k l0 l1 = some r := by
  unfold slices_Equal_int64_int64_s.f at h
  split at h
  · rename_i hs
    rw [← h]
    refine ⟨l0.length + 1, ?_⟩
    unfold slices_Equal_int64_int64.f
    by_cases hl : l0.length = l1.length
    · rw [if_pos (by omega)]
      exact slicesEqual_l0 l0 l1 [] [] _ (by omega) rfl hl (by simp; omega)
    · rw [if_neg (by omega), decide_eq_false (fun g => hl (by rw [g]))]
  · cases h
set_option maxHeartbeats 1000000 in
theorem slices_Equal_int64_int64_s.calls (A0 : Option Addr) (c0 : Nat) (l0 : List Int) (A1 : Option Addr) (c1 : Nat) (l1 : List Int) (r : Bool) (w : World) (hr0 : Kd.C (Kd.int .i64) w A0 l0.length l0) (hc0 : l0.length ≤ c0) (hr1 : Kd.C (Kd.int .i64) w A1 l1.length l1) (hc1 : l1.length ≤ c1) (h : slices_Equal_int64_int64_s.f l0 l1 = some r) :
    Calls Try.prog 43 #[.slice A0 l0.length c0, .slice A1 l1.length c1] w fun e w' => e = .returned (.bool r) ∧ Drawn0 w w' := by
  obtain ⟨k, hk⟩ := slices_Equal_int64_int64_s.ev l0 l1 _ h
  exact slices_Equal_int64_int64.calls k A0 c0 l0 A1 c1 l1 r w hr0 hc0 hr1 hc1 hk
end Go.Proofs.Ytdemgfbolcmcdaa.X
namespace Go.Proofs.Ytdemgfbolcmcdaa.X
open Go.RowKit Go.Proofs.YtdemgfbolcmcdaaW.PrintWords Go.Proofs.YtdemgfbolcmcdaaW.PrintLast Go.Proofs.YtdemgfbolcmcdaaW.PrintMore
attribute [local go_sem] max2_int min2_int max_two min_two max_three min_three max_four min_four
set_option linter.unusedVariables false
set_option linter.unusedSimpArgs false
def model_Attr_Same.j0 : Nat → Bool → ByteArray → Bool → Int → List Int → ByteArray → Bool → Int → List Int → Option (Bool)
 | 0, _, _, _, _, _, _, _, _, _ => none
 | k + 1, x5, x102000, x102001, x102002, x102003, x103000, x103001, x103002, x103003 => if x5 = true then (some false) else (if x102001 = true then (some (x102002 == x103002)) else ((slices_Equal_int64_int64_s.f x102003 x103003).bind fun t103 => (some t103)))
def model_Attr_Same.f (k : Nat) (a0_0 : ByteArray) (a0_1 : Bool) (a0_2 : Int) (l0_3 : List Int) (a1_0 : ByteArray) (a1_1 : Bool) (a1_2 : Int) (l1_3 : List Int) : Option (Bool) := if a0_0.toList = a1_0.toList then (model_Attr_Same.j0 k (a0_1 != a1_1) a0_0 a0_1 a0_2 l0_3 a1_0 a1_1 a1_2 l1_3) else (model_Attr_Same.j0 k true a0_0 a0_1 a0_2 l0_3 a1_0 a1_1 a1_2 l1_3)
set_option maxHeartbeats 8000000 in
set_option maxRecDepth 100000 in
theorem model_Attr_Same.calls (k : Nat) (a0_0 : ByteArray) (a0_1 : Bool) (a0_2 : Int) (A0_3 : Option Addr) (c0_3 : Nat) (l0_3 : List Int) (a1_0 : ByteArray) (a1_1 : Bool) (a1_2 : Int) (A1_3 : Option Addr) (c1_3 : Nat) (l1_3 : List Int) (r : Bool) (w : World) (hr0_3 : Kd.C (Kd.int .i64) w A0_3 l0_3.length l0_3) (hc0_3 : l0_3.length ≤ c0_3) (hr1_3 : Kd.C (Kd.int .i64) w A1_3 l1_3.length l1_3) (hc1_3 : l1_3.length ≤ c1_3) (h : model_Attr_Same.f k a0_0 a0_1 a0_2 l0_3 a1_0 a1_1 a1_2 l1_3 = some r) :
  Calls Try.prog 23 #[.agg #[.string a0_0, .bool a0_1, .int .i64 a0_2, .slice A0_3 l0_3.length c0_3], .agg #[.string a1_0, .bool a1_1, .int .i64 a1_2, .slice A1_3 l1_3.length c1_3]] w fun e w' => e = .returned (.bool r) ∧ Below w.heap.size w w' := by
 have hu35 := Try.underlying35
 have HR0_3 := Aside0.mk hr0_3
 have HC0_3 := Aside0.mk hc0_3
 clear hr0_3 hc0_3
 have HR1_3 := Aside0.mk hr1_3
 have HC1_3 := Aside0.mk hc1_3
 clear hr1_3 hc1_3
 have HB := Aside0.mk (Below.refl w.heap.size w)
 have H : (if a0_0.toList = a1_0.toList then (model_Attr_Same.j0 k (a0_1 != a1_1) a0_0 a0_1 a0_2 l0_3 a1_0 a1_1 a1_2 l1_3) else (model_Attr_Same.j0 k true a0_0 a0_1 a0_2 l0_3 a1_0 a1_1 a1_2 l1_3)) = some r := h
 clear h
 have HC3 := Aside0.mk H
 clear H
 go_enter Try.func23, Try.ntmps23
 go_upto_region 1 with (first | ((with_reducible refine gate_dst (N := 2) rfl ?_); refine box_event ?hg (N := 2) ?hd (cs := #[.string a0_0, .bool a0_1, .int .i64 a0_2, .slice A0_3 l0_3.length c0_3]) (t := 35) ?hr ?_; (case hd => rfl); (case hg => rfl); (case hr => first | (go_simp; done) | (go_simp; rfl)); intro gb101 hg w4 hbox hb; have n0_ := Aside0.mk (below_step (hbA HB) hb); have n1_ := Aside0.mk (hbox); have n2_ := Aside0.mk ((by rw [hg]; exact (below_size (hbA HB)) : w.heap.size ≤ gb101)); have n3_ := Aside0.mk ((by rw [hg]; exact (below_size (hbA HB)) : w.heap.size ≤ gb101)); clear HB; have HB := n0_; have BK101 := n1_; have GW101 := n2_; have GE101 := n3_; clear n0_ n1_ n2_ n3_; clear hb hbox hg) | ((with_reducible refine gate_dst (N := 3) rfl ?_); refine box_event ?hg (N := 3) ?hd (cs := #[.string a1_0, .bool a1_1, .int .i64 a1_2, .slice A1_3 l1_3.length c1_3]) (t := 35) ?hr ?_; (case hd => rfl); (case hg => rfl); (case hr => first | (go_simp; done) | (go_simp; rfl)); intro gb102 hg w5 hbox hb; have n0_ := Aside0.mk (blk_below (g := gb101) (bkA BK101) hb); have n1_ := Aside0.mk (below_step (hbA HB) hb); have n2_ := Aside0.mk (hbox); have n3_ := Aside0.mk ((by rw [hg]; exact (below_size (hbA HB)) : w.heap.size ≤ gb102)); have n4_ := Aside0.mk ((by rw [hg]; exact (below_size (hbA HB)) : w.heap.size ≤ gb102)); have n5_ := Aside0.mk ((by rw [hg]; exact Nat.ne_of_lt (blk_lt (g := gb101) (bkA BK101)) : gb101 ≠ gb102)); have n6_ := Aside0.mk ((by rw [hg]; exact Nat.ne_of_gt (blk_lt (g := gb101) (bkA BK101)) : gb102 ≠ gb101)); clear BK101; clear HB; have BK101 := n0_; have HB := n1_; have BK102 := n2_; have GW102 := n3_; have GE102 := n4_; have NB101_102 := n5_; have NB102_101 := n6_; clear n0_ n1_ n2_ n3_ n4_ n5_ n6_; clear hb hbox hg))
 (try simp only [Act.put, List.setIfInBounds_toArray, List.set_cons_zero, List.set_cons_succ])
 go_cut [5] (fun v5 wc => ∃ (kq : Nat) (x5_2 : Bool), v5 = .bool x5_2 ∧ Aside0 (model_Attr_Same.j0 kq x5_2 a0_0 a0_1 a0_2 l0_3 a1_0 a1_1 a1_2 l1_3 = some r) ∧ Aside0 (kq ≤ k) ∧ Aside0 (wc.heap[gb101]? = some (.cells #[.string a0_0, .bool a0_1, .int .i64 a0_2, (.slice A0_3 l0_3.length c0_3)] 35 (0, 0))) ∧ Aside0 (wc.heap[gb102]? = some (.cells #[.string a1_0, .bool a1_1, .int .i64 a1_2, (.slice A1_3 l1_3.length c1_3)] 35 (0, 0))) ∧ Aside0 (Below w.heap.size w wc))
 case first =>
  have H := HC3.out; clear HC3
  by_cases c6 : a0_0.toList = a1_0.toList
  ·
   rw [if_pos c6] at H
   have c6b0 : (a0_0.toList == a1_0.toList) = true := beq_iff_eq.mpr c6
   have c6b1 : (a0_0.toList != a1_0.toList) = false := bne_eq_false_iff_eq.mpr c6
   clear c6
   (first | rw [c6b0] | (simp only [i64_w, i32_w]; rw [c6b0]) | skip)
   have H' := Aside0.mk H
   clear H; have hnb7 := NB101_102.out; have hnc7 := NB102_101.out; have hcz8_0 : w5.cell? ⟨gb101, 0, none⟩ = some (.string a0_0) := bcA BK101 0; have hcz8_1 : w5.cell? ⟨gb101, 1, none⟩ = some (.bool a0_1) := bcA BK101 1; have hcz8_2 : w5.cell? ⟨gb101, 2, none⟩ = some (.int .i64 a0_2) := bcA BK101 2; have hcz8_3 : w5.cell? ⟨gb101, 3, none⟩ = some (.slice A0_3 l0_3.length c0_3) := bcA BK101 3; have hfz8_0 := blk_frozen BK101.out 0; have hfz8_1 := blk_frozen BK101.out 1; have hfz8_2 := blk_frozen BK101.out 2; have hfz8_3 := blk_frozen BK101.out 3; have hcz9_0 : w5.cell? ⟨gb102, 0, none⟩ = some (.string a1_0) := bcA BK102 0; have hcz9_1 : w5.cell? ⟨gb102, 1, none⟩ = some (.bool a1_1) := bcA BK102 1; have hcz9_2 : w5.cell? ⟨gb102, 2, none⟩ = some (.int .i64 a1_2) := bcA BK102 2; have hcz9_3 : w5.cell? ⟨gb102, 3, none⟩ = some (.slice A1_3 l1_3.length c1_3) := bcA BK102 3; have hfz9_0 := blk_frozen BK102.out 0; have hfz9_1 := blk_frozen BK102.out 1; have hfz9_2 := blk_frozen BK102.out 2; have hfz9_3 := blk_frozen BK102.out 3
   go_wp2
   go_meet
   case rel => exact ⟨_, ((a0_1 != a1_1)), (by first | rfl | (simp; done) | (simp [*]; done)), H', ⟨by first | omega | exact Nat.le_refl _⟩, ⟨bkA BK101⟩, ⟨bkA BK102⟩, ⟨hbA HB⟩⟩
  ·
   rw [if_neg c6] at H
   have c6b0 : (a0_0.toList == a1_0.toList) = false := beq_eq_false_iff_ne.mpr c6
   have c6b1 : (a0_0.toList != a1_0.toList) = true := bne_iff_ne.mpr c6
   (first | rw [c6b0] | (simp only [i64_w, i32_w]; rw [c6b0]) | skip)
   have H' := Aside0.mk H
   clear H; have hnb10 := NB101_102.out; have hnc10 := NB102_101.out; have hcz11_0 : w5.cell? ⟨gb101, 0, none⟩ = some (.string a0_0) := bcA BK101 0; have hcz11_1 : w5.cell? ⟨gb101, 1, none⟩ = some (.bool a0_1) := bcA BK101 1; have hcz11_2 : w5.cell? ⟨gb101, 2, none⟩ = some (.int .i64 a0_2) := bcA BK101 2; have hcz11_3 : w5.cell? ⟨gb101, 3, none⟩ = some (.slice A0_3 l0_3.length c0_3) := bcA BK101 3; have hfz11_0 := blk_frozen BK101.out 0; have hfz11_1 := blk_frozen BK101.out 1; have hfz11_2 := blk_frozen BK101.out 2; have hfz11_3 := blk_frozen BK101.out 3; have hcz12_0 : w5.cell? ⟨gb102, 0, none⟩ = some (.string a1_0) := bcA BK102 0; have hcz12_1 : w5.cell? ⟨gb102, 1, none⟩ = some (.bool a1_1) := bcA BK102 1; have hcz12_2 : w5.cell? ⟨gb102, 2, none⟩ = some (.int .i64 a1_2) := bcA BK102 2; have hcz12_3 : w5.cell? ⟨gb102, 3, none⟩ = some (.slice A1_3 l1_3.length c1_3) := bcA BK102 3; have hfz12_0 := blk_frozen BK102.out 0; have hfz12_1 := blk_frozen BK102.out 1; have hfz12_2 := blk_frozen BK102.out 2; have hfz12_3 := blk_frozen BK102.out 3
   go_wp2
   go_meet
   case rel => exact ⟨_, (true), (by first | rfl | (simp; done) | (simp [*]; done)), H', ⟨by first | omega | exact Nat.le_refl _⟩, ⟨bkA BK101⟩, ⟨bkA BK102⟩, ⟨hbA HB⟩⟩
 case rest =>
  clear HC3; try clear c6; try clear c6b0; try clear c6b1; try clear hcz11_0; try clear hcz11_1; try clear hcz11_2; try clear hcz11_3; try clear hcz12_0; try clear hcz12_1; try clear hcz12_2; try clear hcz12_3; try clear hcz8_0; try clear hcz8_1; try clear hcz8_2; try clear hcz8_3; try clear hcz9_0; try clear hcz9_1; try clear hcz9_2; try clear hcz9_3; try clear hfz11_0; try clear hfz11_1; try clear hfz11_2; try clear hfz11_3; try clear hfz12_0; try clear hfz12_1; try clear hfz12_2; try clear hfz12_3; try clear hfz8_0; try clear hfz8_1; try clear hfz8_2; try clear hfz8_3; try clear hfz9_0; try clear hfz9_1; try clear hfz9_2; try clear hfz9_3
  obtain ⟨kq, x5_2, rfl, HA, HJ2, BK101, BK102, HB⟩ := hcut
  cases kq with
  | zero => exact absurd HA.out (by simp [model_Attr_Same.j0])
  | succ kj2 =>
   have H := HA.out; clear HA
   simp only [model_Attr_Same.j0] at H
   by_cases c13 : x5_2 = true
   ·
    subst c13
    have H1 : (some false) = some r := by rw [if_pos rfl] at H; exact H
    clear H
    have H := H1
    clear H1
    obtain rfl := Option.some.inj H
    go_wp2
    go_ret
    exact ⟨by first | rfl | (simp [errW_none, errW_some] <;> rfl) | (simp [*, errW_none, errW_some] <;> rfl), hbA HB⟩
   ·
    replace c13 := Bool.eq_false_iff.mpr c13
    subst c13
    have H1 : (if a0_1 = true then (some (a0_2 == a1_2)) else ((slices_Equal_int64_int64_s.f l0_3 l1_3).bind fun t103 => (some t103))) = some r := by rw [if_neg (show ¬ (false = true) by decide)] at H; exact H
    clear H
    have H := H1
    clear H1
    by_cases c14 : a0_1 = true
    ·
     subst c14
     have H1 : (some (a0_2 == a1_2)) = some r := by rw [if_pos rfl] at H; exact H
     clear H
     have H := H1
     clear H1
     obtain rfl := Option.some.inj H
     have hnb15 := NB101_102.out; have hnc15 := NB102_101.out; have hcz16_0 : wc.cell? ⟨gb101, 0, none⟩ = some (.string a0_0) := bcA BK101 0; have hcz16_1 : wc.cell? ⟨gb101, 1, none⟩ = some (.bool true) := bcA BK101 1; have hcz16_2 : wc.cell? ⟨gb101, 2, none⟩ = some (.int .i64 a0_2) := bcA BK101 2; have hcz16_3 : wc.cell? ⟨gb101, 3, none⟩ = some (.slice A0_3 l0_3.length c0_3) := bcA BK101 3; have hfz16_0 := blk_frozen BK101.out 0; have hfz16_1 := blk_frozen BK101.out 1; have hfz16_2 := blk_frozen BK101.out 2; have hfz16_3 := blk_frozen BK101.out 3; have hcz17_0 : wc.cell? ⟨gb102, 0, none⟩ = some (.string a1_0) := bcA BK102 0; have hcz17_1 : wc.cell? ⟨gb102, 1, none⟩ = some (.bool a1_1) := bcA BK102 1; have hcz17_2 : wc.cell? ⟨gb102, 2, none⟩ = some (.int .i64 a1_2) := bcA BK102 2; have hcz17_3 : wc.cell? ⟨gb102, 3, none⟩ = some (.slice A1_3 l1_3.length c1_3) := bcA BK102 3; have hfz17_0 := blk_frozen BK102.out 0; have hfz17_1 := blk_frozen BK102.out 1; have hfz17_2 := blk_frozen BK102.out 2; have hfz17_3 := blk_frozen BK102.out 3
     go_wp2
     go_ret
     exact ⟨by first | rfl | (simp [errW_none, errW_some] <;> rfl) | (simp [*, errW_none, errW_some] <;> rfl), hbA HB⟩
    ·
     replace c14 := Bool.eq_false_iff.mpr c14
     subst c14
     have H1 : ((slices_Equal_int64_int64_s.f l0_3 l1_3).bind fun t103 => (some t103)) = some r := by rw [if_neg (show ¬ (false = true) by decide)] at H; exact H
     clear H
     have H := H1
     clear H1
     replace H := Option.bind_eq_some_iff.mp H
     obtain ⟨t103, A180, H⟩ := H
     replace H : (some t103) = some r := H
     have A18 := Aside0.mk A180
     clear A180
     obtain rfl := Option.some.inj H
     have hnb19 := NB101_102.out; have hnc19 := NB102_101.out; have hcz20_0 : wc.cell? ⟨gb101, 0, none⟩ = some (.string a0_0) := bcA BK101 0; have hcz20_1 : wc.cell? ⟨gb101, 1, none⟩ = some (.bool false) := bcA BK101 1; have hcz20_2 : wc.cell? ⟨gb101, 2, none⟩ = some (.int .i64 a0_2) := bcA BK101 2; have hcz20_3 : wc.cell? ⟨gb101, 3, none⟩ = some (.slice A0_3 l0_3.length c0_3) := bcA BK101 3; have hfz20_0 := blk_frozen BK101.out 0; have hfz20_1 := blk_frozen BK101.out 1; have hfz20_2 := blk_frozen BK101.out 2; have hfz20_3 := blk_frozen BK101.out 3; have hcz21_0 : wc.cell? ⟨gb102, 0, none⟩ = some (.string a1_0) := bcA BK102 0; have hcz21_1 : wc.cell? ⟨gb102, 1, none⟩ = some (.bool a1_1) := bcA BK102 1; have hcz21_2 : wc.cell? ⟨gb102, 2, none⟩ = some (.int .i64 a1_2) := bcA BK102 2; have hcz21_3 : wc.cell? ⟨gb102, 3, none⟩ = some (.slice A1_3 l1_3.length c1_3) := bcA BK102 3; have hfz21_0 := blk_frozen BK102.out 0; have hfz21_1 := blk_frozen BK102.out 1; have hfz21_2 := blk_frozen BK102.out 2; have hfz21_3 := blk_frozen BK102.out 3
     go_wp2_with (first | ((with_reducible refine gate_callee (f := 43) rfl ?_); refine goesL_ (some 30) rfl rfl Try.func43 (by kernel_rfl) rfl #[.slice A0_3 l0_3.length c0_3, .slice A1_3 l1_3.length c1_3] rfl (by (try simp only [List.map_toArray, List.map_cons, List.map_nil]); first | done | rfl | (simp only [List.length_drop, List.length_take]; rfl)) ?_; (with_reducible refine (slices_Equal_int64_int64_s.calls _ _ l0_3 _ _ l1_3 t103 _ ?side1 ?side2 ?side3 ?side4 A18.out).mono ?_); (case side1 => repeat (first | exact (Kd.C_below HR0_3.out HB.out) | (with_reducible refine Kd.C_alloc ?_ _) | (with_reducible refine Kd.C_drewN ?_ _) | (with_reducible refine Kd.C_drew ?_))); (case side2 => exact HC0_3.out); (case side3 => repeat (first | exact (Kd.C_below HR1_3.out HB.out) | (with_reducible refine Kd.C_alloc ?_ _) | (with_reducible refine Kd.C_drewN ?_ _) | (with_reducible refine Kd.C_drew ?_))); (case side4 => exact HC1_3.out); rintro e w' ⟨rfl, ⟨nd, rfl⟩⟩; refine ⟨_, rfl, ?_⟩))
     go_ret
     exact ⟨by first | rfl | (simp [errW_none, errW_some] <;> rfl) | (simp [*, errW_none, errW_some] <;> rfl), hbA HB⟩
end Go.Proofs.Ytdemgfbolcmcdaa.X
namespace Go.Proofs.Ytdemgfbolcmcdaa.X
open Go.RowKit Go.Proofs.YtdemgfbolcmcdaaW.PrintWords Go.Proofs.YtdemgfbolcmcdaaW.PrintLast Go.Proofs.YtdemgfbolcmcdaaW.PrintMore
attribute [local go_sem] max2_int min2_int max_two min_two max_three min_three max_four min_four
set_option linter.unusedVariables false
set_option linter.unusedSimpArgs false
def nmTen (l : List S51) : List ByteArray := l.map (fun x => x.f0)
set_option maxHeartbeats 8000000 in
theorem closTen.calls (e : S51) (A2 : Option Addr) (c2 : Nat) (gb : Nat) (nm : ByteArray) (w : World) (hb : w.heap[gb]? = some (.cells #[.string nm] 9 (0, 0))) :
    Calls Try.prog 41 #[.agg #[.string e.f0, .int .i64 e.f1, .slice A2 e.f2.length c2, .string e.f3], .pointer (some ⟨gb, 0, none⟩)] w fun e' w' => e' = .returned (.bool (e.f0.toList == nm.toList)) ∧ Below w.heap.size w w' := by
  have hu := Try.underlying51
  have HB0 := Aside0.mk hb
  have hc : w.cell? ⟨gb, 0, none⟩ = some (.string nm) := blk_cell hb 0
  clear hb
  go_enter Try.func41, Try.ntmps41
  have hlt : gb < w.heap.size := blk_lt HB0.out
  go_wp2
  go_ret
  exact ⟨rfl, below_alloc (Below.refl w.heap.size w) _⟩
set_option maxHeartbeats 8000000 in
set_option maxRecDepth 100000 in
theorem idxTen.calls (A0 : Option Addr) (c0 : Nat) (l0 : List S51) (gb : Nat) (nm : ByteArray) (w : World) (hr0 : Kd.C k51 w A0 l0.length l0) (hc0 : l0.length ≤ c0) (hb : w.heap[gb]? = some (.cells #[.string nm] 9 (0, 0))) :
    Calls Try.prog 40 #[.slice A0 l0.length c0, .func (Fn.func 41) #[] #[.pointer (some ⟨gb, 0, none⟩)]] w fun e w' => e = .returned (.int .i64 (idxS (nmTen l0) nm 0)) ∧ Below w.heap.size w w' := by
  have HR0 := Aside0.mk hr0
  have HB0 := Aside0.mk hb
  have HL := Aside0.mk hr0.2.1
  have HB := Aside0.mk (Below.refl w.heap.size w)
  clear hr0 hb hc0
  go_enter Try.func40, Try.ntmps40
  go_wp2
  go_loopg [8] l0.length (fun kq v8 w' => ∃ i : Nat, v8 = .int .i64 i ∧ Aside0 (i + kq = l0.length) ∧ i ≤ l0.length ∧ Aside0 (idxS (nmTen l0) nm 0 = idxS ((nmTen l0).drop i) nm i) ∧ Aside0 (Below w.heap.size w w'))
  case atStart => exact ⟨0, rfl, ⟨by omega⟩, Nat.zero_le _, ⟨rfl⟩, HB⟩
  case round =>
    clear HB
    obtain ⟨i, rfl, HK, hi, HI, HB⟩ := hrel
    by_cases hlt : i < l0.length
    · have hlt' : decide ((i : Int) < (l0.length : Int)) = true := by simpa using hlt
      obtain ⟨kk, rfl⟩ : ∃ m, gk = m + 1 := ⟨gk - 1, by have := HK.out; omega⟩
      have p101 : 0 ≤ (i : Int) := Int.natCast_nonneg i
      have q101 : (i : Int) < (l0.length : Int) := by omega
      obtain ⟨ad101, A2, c2, e101, hx101_0, hx101_1, hx101_2, hx101_3, hl101_2, hi101_2⟩ := at_T51 (Kd.C_below HR0.out HB.out) (i : Int) p101 q101
      cases e101
      clear hl101_2 hi101_2
      rw [Int.toNat_natCast] at hx101_0 hx101_1 hx101_2 hx101_3
      have hr : rd_T51 l0 (i : Int) = l0[i] := by simp [rd_T51, hlt]
      have hn : (nmTen l0).drop i = l0[i].f0 :: (nmTen l0).drop (i + 1) := by
        unfold nmTen
        rw [List.drop_eq_getElem_cons (by rw [List.length_map]; exact hlt), List.getElem_map]
      rw [hr] at hx101_0 hx101_1 hx101_2 hx101_3
      have HN := Aside0.mk hn
      clear hr hn
      have Hw : Aside0 (wrap64 ((i : Int) + 1) = (i : Int) + 1) := ⟨by have := HL.out; exact wrap64_id (by omega) (by omega)⟩
      replace p101 := eq_true p101
      replace q101 := eq_true q101
      go_wp2_with (first | (fail))
      refine (closTen.calls l0[i] A2 c2 gb nm _ (blk_below HB0.out HB.out)).mono ?_
      rintro e w8 ⟨rfl, hb⟩
      have n0_ := Aside0.mk (below_step HB.out hb)
      clear HB hb
      have HB := n0_
      clear n0_
      by_cases hx : l0[i].f0 = nm
      · have hq : (l0[i].f0.toList == nm.toList) = true := by rw [hx]; exact beq_self_eq_true _
        have HX : Aside0 (idxS (nmTen l0) nm 0 = (i : Int)) := ⟨by rw [HI.out, HN.out, idxS, if_pos hx]⟩
        clear hx
        go_wp2_with (first | (fail))
        go_ret
        exact ⟨by rw [HX.out]; rfl, HB.out⟩
      · have hq : (l0[i].f0.toList == nm.toList) = false := beq_eq_false_iff_ne.2 (fun h => hx (toList_inj.1 h))
        have HX : Aside0 (idxS (nmTen l0) nm 0 = idxS ((nmTen l0).drop (i + 1)) nm (i + 1)) := ⟨by rw [HI.out, HN.out, idxS, if_neg hx]⟩
        clear hx
        go_wp2_with (first | (fail))
        go_roundg kk
        case measure => have := HK.out; omega
        case rel => exact ⟨i + 1, by rw [Hw.out]; rfl, ⟨by have := HK.out; omega⟩, by omega, HX, HB⟩
    · have hlt' : decide ((i : Int) < (l0.length : Int)) = false := by simpa using hlt
      have HX : Aside0 (idxS (nmTen l0) nm 0 = -1) := ⟨by rw [HI.out, List.drop_of_length_le (by unfold nmTen; rw [List.length_map]; omega)]; rfl⟩
      go_wp2_with (first | (fail))
      go_ret
      exact ⟨by rw [HX.out]; rfl, HB.out⟩
end Go.Proofs.Ytdemgfbolcmcdaa.X
namespace Go.Proofs.Ytdemgfbolcmcdaa.X
open Go.RowKit Go.Proofs.YtdemgfbolcmcdaaW.PrintWords Go.Proofs.YtdemgfbolcmcdaaW.PrintLast Go.Proofs.YtdemgfbolcmcdaaW.PrintMore
attribute [local go_sem] max2_int min2_int max_two min_two max_three min_three max_four min_four
set_option linter.unusedVariables false
set_option linter.unusedSimpArgs false
def tenR (l : List S51) (nm : ByteArray) : S51 := if idxS (nmTen l) nm 0 < 0 then z51 else rd_T51 l (idxS (nmTen l) nm 0)
def model_Model_Init.f (a0_0 : Int) (l0_1 : List S79) (l0_2 : List S79) (l0_3 : List S51) (l0_4 : List S33) (a1 : ByteArray) : Option (ByteArray × Int × List Int × ByteArray × Bool) := if (tenR l0_3 a1).f2.length < 17592186044416 then some ((tenR l0_3 a1).f0, (tenR l0_3 a1).f1, (tenR l0_3 a1).f2, (tenR l0_3 a1).f3, decide (0 ≤ idxS (nmTen l0_3) a1 0)) else none
set_option maxHeartbeats 8000000 in
set_option maxRecDepth 100000 in
theorem model_Model_Init.calls (a0_0 : Int) (A0_1 : Option Addr) (c0_1 : Nat) (l0_1 : List S79) (A0_2 : Option Addr) (c0_2 : Nat) (l0_2 : List S79) (A0_3 : Option Addr) (c0_3 : Nat) (l0_3 : List S51) (A0_4 : Option Addr) (c0_4 : Nat) (l0_4 : List S33) (a1 : ByteArray) (r1 : ByteArray) (r2 : Int) (r3 : List Int) (r4 : ByteArray) (r5 : Bool) (w : World) (hr0_1 : Kd.C k79 w A0_1 l0_1.length l0_1) (hc0_1 : l0_1.length ≤ c0_1) (hr0_2 : Kd.C k79 w A0_2 l0_2.length l0_2) (hc0_2 : l0_2.length ≤ c0_2) (hr0_3 : Kd.C k51 w A0_3 l0_3.length l0_3) (hc0_3 : l0_3.length ≤ c0_3) (hr0_4 : Kd.C k33 w A0_4 l0_4.length l0_4) (hc0_4 : l0_4.length ≤ c0_4) (h : model_Model_Init.f a0_0 l0_1 l0_2 l0_3 l0_4 a1 = some (r1, r2, r3, r4, r5)) :
    Calls Try.prog 16 #[.agg #[Value.int IntKind.i64 a0_0, Value.slice A0_1 l0_1.length c0_1, Value.slice A0_2 l0_2.length c0_2, Value.slice A0_3 l0_3.length c0_3, Value.slice A0_4 l0_4.length c0_4], .string a1] w fun e w' => ∃ v2_ : Value, e = .returned (.tuple #[.agg #[.string r1, .int .i64 r2, v2_, .string r4], .bool r5]) ∧ Kd.R (Kd.int .i64) 2 w' w.heap.size (fun _ => True) v2_ r3 ∧ Below w.heap.size w w' := by
  unfold model_Model_Init.f at h
  by_cases hl2 : (tenR l0_3 a1).f2.length < 17592186044416
  case neg => rw [if_neg hl2] at h; cases h
  rw [if_pos hl2] at h
  obtain ⟨rfl, rfl, rfl, rfl, rfl⟩ : (tenR l0_3 a1).f0 = r1 ∧ (tenR l0_3 a1).f1 = r2 ∧ (tenR l0_3 a1).f2 = r3 ∧ (tenR l0_3 a1).f3 = r4 ∧ decide (0 ≤ idxS (nmTen l0_3) a1 0) = r5 := by
    have h2 := Option.some.inj h
    exact ⟨congrArg (·.1) h2, congrArg (·.2.1) h2, congrArg (·.2.2.1) h2, congrArg (·.2.2.2.1) h2, congrArg (·.2.2.2.2) h2⟩
  have hu := Try.underlying51
  have hu2 := Try.underlying26
  have HR0 := Aside0.mk hr0_3
  have HC0 := Aside0.mk hc0_3
  have HL2 := Aside0.mk hl2
  clear hr0_1 hc0_1 hr0_2 hc0_2 hr0_3 hc0_3 hr0_4 hc0_4 hl2 h
  go_enter Try.func16, Try.ntmps16
  go_wp2_with (first | (fail))
  have e1 : (w.alloc (Obj.cells #[Value.int IntKind.i64 a0_0, Value.slice A0_1 l0_1.length c0_1, Value.slice A0_2 l0_2.length c0_2, Value.slice A0_3 l0_3.length c0_3, Value.slice A0_4 l0_4.length c0_4] 26)).heap.size = w.heap.size + 1 := alloc_size _ _
  have e2 : ((w.alloc (Obj.cells #[Value.int IntKind.i64 a0_0, Value.slice A0_1 l0_1.length c0_1, Value.slice A0_2 l0_2.length c0_2, Value.slice A0_3 l0_3.length c0_3, Value.slice A0_4 l0_4.length c0_4] 26)).alloc (Obj.cells #[Value.string a1] 9)).heap.size = w.heap.size + 1 + 1 := by rw [alloc_size, e1]
  have BK0 := Aside0.mk (show (((w.alloc (Obj.cells #[Value.int IntKind.i64 a0_0, Value.slice A0_1 l0_1.length c0_1, Value.slice A0_2 l0_2.length c0_2, Value.slice A0_3 l0_3.length c0_3, Value.slice A0_4 l0_4.length c0_4] 26)).alloc (Obj.cells #[Value.string a1] 9)).alloc (Obj.cells #[Value.string { data := #[] }, Value.int IntKind.i64 0, Value.slice none 0 0, Value.string { data := #[] }] 51)).heap[w.heap.size]? = some (.cells #[Value.int IntKind.i64 a0_0, Value.slice A0_1 l0_1.length c0_1, Value.slice A0_2 l0_2.length c0_2, Value.slice A0_3 l0_3.length c0_3, Value.slice A0_4 l0_4.length c0_4] 26 (0, 0)) from blk_alloc (blk_alloc (blk_new w _) _) _)
  have BK1 := Aside0.mk (show (((w.alloc (Obj.cells #[Value.int IntKind.i64 a0_0, Value.slice A0_1 l0_1.length c0_1, Value.slice A0_2 l0_2.length c0_2, Value.slice A0_3 l0_3.length c0_3, Value.slice A0_4 l0_4.length c0_4] 26)).alloc (Obj.cells #[Value.string a1] 9)).alloc (Obj.cells #[Value.string { data := #[] }, Value.int IntKind.i64 0, Value.slice none 0 0, Value.string { data := #[] }] 51)).heap[w.heap.size + 1]? = some (.cells #[Value.string a1] 9 (0, 0)) from blk_alloc (by rw [← e1]; exact blk_new _ _) _)
  have BK2 := Aside0.mk (show (((w.alloc (Obj.cells #[Value.int IntKind.i64 a0_0, Value.slice A0_1 l0_1.length c0_1, Value.slice A0_2 l0_2.length c0_2, Value.slice A0_3 l0_3.length c0_3, Value.slice A0_4 l0_4.length c0_4] 26)).alloc (Obj.cells #[Value.string a1] 9)).alloc (Obj.cells #[Value.string { data := #[] }, Value.int IntKind.i64 0, Value.slice none 0 0, Value.string { data := #[] }] 51)).heap[w.heap.size + 1 + 1]? = some (.cells #[Value.string { data := #[] }, Value.int IntKind.i64 0, Value.slice none 0 0, Value.string { data := #[] }] 51 (0, 0)) from by rw [← e2]; exact blk_new _ _)
  have HB := Aside0.mk (below_alloc (below_alloc (below_alloc (Below.refl w.heap.size w) (Obj.cells #[Value.int IntKind.i64 a0_0, Value.slice A0_1 l0_1.length c0_1, Value.slice A0_2 l0_2.length c0_2, Value.slice A0_3 l0_3.length c0_3, Value.slice A0_4 l0_4.length c0_4] 26)) (Obj.cells #[Value.string a1] 9)) (Obj.cells #[Value.string { data := #[] }, Value.int IntKind.i64 0, Value.slice none 0 0, Value.string { data := #[] }] 51))
  clear e1 e2
  generalize (((w.alloc (Obj.cells #[Value.int IntKind.i64 a0_0, Value.slice A0_1 l0_1.length c0_1, Value.slice A0_2 l0_2.length c0_2, Value.slice A0_3 l0_3.length c0_3, Value.slice A0_4 l0_4.length c0_4] 26)).alloc (Obj.cells #[Value.string a1] 9)).alloc (Obj.cells #[Value.string { data := #[] }, Value.int IntKind.i64 0, Value.slice none 0 0, Value.string { data := #[] }] 51)) = w3 at BK0 BK1 BK2 HB ⊢
  refine (idxTen.calls A0_3 c0_3 l0_3 (w.heap.size + 1) a1 _ (Kd.C_below HR0.out HB.out) HC0.out BK1.out).mono ?_
  rintro e w8 ⟨rfl, hb⟩
  have n0_ := Aside0.mk (below_step HB.out hb)
  have n1_ := Aside0.mk (blk_below BK0.out hb)
  have n2_ := Aside0.mk (blk_below BK2.out hb)
  clear HB BK0 BK1 BK2 hb
  have HB := n0_; have BK0 := n1_; have BK2 := n2_
  clear n0_ n1_ n2_
  have g4 : w8.cell? ⟨w.heap.size, 3, none⟩ = some (.slice A0_3 l0_3.length c0_3) := blk_cell BK0.out 3
  rcases idxS_lt (nmTen l0_3) a1 0 with hx | ⟨j, hj, hx⟩
  · have HX := Aside0.mk (show tenR l0_3 a1 = z51 by unfold tenR; rw [hx]; rfl)
    have HX2 := Aside0.mk (show decide (0 ≤ idxS (nmTen l0_3) a1 0) = false by rw [hx]; rfl)
    rw [hx]
    clear hx
    have zf0 := blk_frozen BK2.out 0
    have zg0 : w8.cell? ⟨w.heap.size + 1 + 1, 0, none⟩ = some (Value.string ⟨#[]⟩) := blk_cell BK2.out 0
    have zf1 := blk_frozen BK2.out 1
    have zg1 : w8.cell? ⟨w.heap.size + 1 + 1, 1, none⟩ = some (Value.int IntKind.i64 0) := blk_cell BK2.out 1
    have zf2 := blk_frozen BK2.out 2
    have zg2 : w8.cell? ⟨w.heap.size + 1 + 1, 2, none⟩ = some (Value.slice none 0 0) := blk_cell BK2.out 2
    have zf3 := blk_frozen BK2.out 3
    have zg3 : w8.cell? ⟨w.heap.size + 1 + 1, 3, none⟩ = some (Value.string ⟨#[]⟩) := blk_cell BK2.out 3
    go_wp2_with (first | (fail))
    refine bodyPost_ret (results_cell_tmp_row rfl _ _ (w.heap.size + 1 + 1) 51 #[Value.string ⟨#[]⟩, Value.int IntKind.i64 0, Value.slice none 0 0, Value.string ⟨#[]⟩] (0, 0) _ rfl (by refine blk_put (cs := #[Value.string ⟨#[]⟩, Value.int IntKind.i64 0, Value.slice none 0 0, Value.string ⟨#[]⟩]) ?_ 3 _ rfl; refine blk_put (cs := #[Value.string ⟨#[]⟩, Value.int IntKind.i64 0, Value.slice none 0 0, Value.string ⟨#[]⟩]) ?_ 2 _ rfl; refine blk_put (cs := #[Value.string ⟨#[]⟩, Value.int IntKind.i64 0, Value.slice none 0 0, Value.string ⟨#[]⟩]) ?_ 1 _ rfl; refine blk_put (cs := #[Value.string ⟨#[]⟩, Value.int IntKind.i64 0, Value.slice none 0 0, Value.string ⟨#[]⟩]) ?_ 0 _ rfl; exact BK2.out) Try.underlying51 rfl (by kernel_rfl)) rfl ?_
    rw [HX.out, HX2.out]
    exact ⟨_, rfl, Kd.R_nil _ _ _ _ _, below_set (below_set (below_set (below_set HB.out (by omega)) (by omega)) (by omega)) (by omega)⟩
  · have hx0 : idxS (nmTen l0_3) a1 0 = (j : Int) := by rw [hx]; simp
    have hjl : j < l0_3.length := by unfold nmTen at hj; rw [List.length_map] at hj; exact hj
    have hr : rd_T51 l0_3 (j : Int) = l0_3[j] := by simp [rd_T51, hjl]
    obtain ⟨x, hxe⟩ : ∃ x, x = l0_3[j] := ⟨_, rfl⟩
    have HX := Aside0.mk (show tenR l0_3 a1 = x by unfold tenR; rw [hx0, if_neg (by omega), hr, hxe])
    have HX2 := Aside0.mk (show decide (0 ≤ idxS (nmTen l0_3) a1 0) = true by rw [hx0]; exact decide_eq_true (by omega))
    have hneg : decide ((j : Int) < 0) = false := decide_eq_false (by omega)
    have p101 : 0 ≤ (j : Int) := Int.natCast_nonneg j
    have q101 : (j : Int) < (l0_3.length : Int) := by omega
    obtain ⟨ad101, A4, c4, e101, hx101_0, hx101_1, hx101_2, hx101_3, hl4, hi4⟩ := at_T51 HR0.out (j : Int) p101 q101
    cases e101
    replace hx101_0 := (HB.out.cell (World.block_lt_of_cell? w _ hx101_0)).trans hx101_0
    replace hx101_1 := (HB.out.cell (World.block_lt_of_cell? w _ hx101_1)).trans hx101_1
    replace hx101_2 := (HB.out.cell (World.block_lt_of_cell? w _ hx101_2)).trans hx101_2
    replace hx101_3 := (HB.out.cell (World.block_lt_of_cell? w _ hx101_3)).trans hx101_3
    rw [Int.toNat_natCast] at hx101_0 hx101_1 hx101_2 hx101_3
    rw [hr, ← hxe] at hx101_0 hx101_1 hx101_2 hx101_3 hl4 hi4
    have HR4 := Aside0.mk hi4
    have HC4 := Aside0.mk hl4
    rw [hx0]
    clear hr hx hx0 hi4 hl4 hxe hj
    clear hjl
    replace p101 := eq_true p101
    replace q101 := eq_true q101
    go_wp2_with (first | (fail))
    have hbt := below_alloc (Below.refl w8.heap.size w8) (Obj.cells #[Value.string x.f0, Value.int IntKind.i64 x.f1, Value.slice A4 x.f2.length c4, Value.string x.f3] 51)
    have n0_ := Aside0.mk (below_step HB.out hbt)
    have n2_ := Aside0.mk (blk_below BK2.out hbt)
    have BKt := Aside0.mk (show (w8.alloc (Obj.cells #[Value.string x.f0, Value.int IntKind.i64 x.f1, Value.slice A4 x.f2.length c4, Value.string x.f3] 51)).heap[w8.heap.size]? = some (.cells #[Value.string x.f0, Value.int IntKind.i64 x.f1, Value.slice A4 x.f2.length c4, Value.string x.f3] 51 (0, 0)) from blk_new _ _)
    have HG := Aside0.mk (show w.heap.size + 1 + 1 < w8.heap.size from blk_lt BK2.out)
    clear HB BK0 BK2 hbt g4
    have HB := n0_; have BK2 := n2_
    clear n0_ n2_
    generalize w8.alloc (Obj.cells #[Value.string x.f0, Value.int IntKind.i64 x.f1, Value.slice A4 x.f2.length c4, Value.string x.f3] 51) = w10 at HB BK2 BKt ⊢
    refine (slices_Clone_int64.calls A4 c4 x.f2 x.f2 _ (Kd.C_below HR4.out HB.out) HC4.out (if_pos (by have := HL2.out; rw [HX.out] at this; omega))).mono ?_
    rintro e w11 ⟨v2, rfl, hR, hb⟩
    obtain ⟨A5, c5, rfl⟩ := Kd.R_slice hR
    have n0_ := Aside0.mk (below_step HB.out hb)
    have n1_ := Aside0.mk (blk_below BKt.out hb)
    have n2_ := Aside0.mk (blk_below BK2.out hb)
    have HO := Aside0.mk (Kd.R_mono (Kd.R_bound hR) (ok' := fun k => w10.heap.size ≤ k) (fun k hk => hk.2.1))
    have HS := Aside0.mk (show w.heap.size + 1 + 1 < w10.heap.size ∧ w8.heap.size < w10.heap.size ∧ w.heap.size ≤ w10.heap.size from ⟨blk_lt BK2.out, blk_lt BKt.out, below_size HB.out⟩)
    clear HB BKt BK2 hR hb
    have HB := n0_; have BKt := n1_; have BK2 := n2_
    clear n0_ n1_ n2_
    have tf2 := blk_frozen BKt.out 2
    have tg2 : w11.cell? ⟨w8.heap.size, 2, none⟩ = some (Value.slice A4 x.f2.length c4) := blk_cell BKt.out 2
    go_upto_region 6 with (fail)
    have n1_ := Aside0.mk (blk_put BKt.out 2 (Value.slice A5 x.f2.length c5) (cs' := #[Value.string x.f0, Value.int IntKind.i64 x.f1, Value.slice A5 x.f2.length c5, Value.string x.f3]) rfl)
    have n2_ := Aside0.mk (show (w11.setCell ⟨w8.heap.size, 2, none⟩ (Value.slice A5 x.f2.length c5)).heap[w.heap.size + 1 + 1]? = some (.cells #[Value.string { data := #[] }, Value.int IntKind.i64 0, Value.slice none 0 0, Value.string { data := #[] }] 51 (0, 0)) from blk_far BK2.out (by have := HG.out; show w.heap.size + 1 + 1 ≠ w8.heap.size; omega) _)
    have n0_ := Aside0.mk (below_set HB.out (by have := HG.out; omega : w.heap.size ≤ w8.heap.size) (j := 2) (v := Value.slice A5 x.f2.length c5))
    have n3_ := Aside0.mk (Kd.R_far (p := ⟨w8.heap.size, 2, none⟩) HO.out (fun k hk => by have := HS.out; show k ≠ w8.heap.size; omega) (Value.slice A5 x.f2.length c5))
    clear HB BKt BK2 HO tf2 tg2
    have HB := n0_; have BKt := n1_; have BK2 := n2_; have HO := n3_
    clear n0_ n1_ n2_ n3_
    generalize w11.setCell ⟨w8.heap.size, 2, none⟩ (Value.slice A5 x.f2.length c5) = w12 at HB BKt BK2 HO ⊢
    have zf0 := blk_frozen BK2.out 0
    have zg0 : w12.cell? ⟨w.heap.size + 1 + 1, 0, none⟩ = some (Value.string ⟨#[]⟩) := blk_cell BK2.out 0
    have zf1 := blk_frozen BK2.out 1
    have zg1 : w12.cell? ⟨w.heap.size + 1 + 1, 1, none⟩ = some (Value.int IntKind.i64 0) := blk_cell BK2.out 1
    have zf2 := blk_frozen BK2.out 2
    have zg2 : w12.cell? ⟨w.heap.size + 1 + 1, 2, none⟩ = some (Value.slice none 0 0) := blk_cell BK2.out 2
    have zf3 := blk_frozen BK2.out 3
    have zg3 : w12.cell? ⟨w.heap.size + 1 + 1, 3, none⟩ = some (Value.string ⟨#[]⟩) := blk_cell BK2.out 3
    have tf0 := blk_frozen BKt.out 0
    have tg0 : w12.cell? ⟨w8.heap.size, 0, none⟩ = some (Value.string x.f0) := blk_cell BKt.out 0
    have tf1 := blk_frozen BKt.out 1
    have tg1 : w12.cell? ⟨w8.heap.size, 1, none⟩ = some (Value.int IntKind.i64 x.f1) := blk_cell BKt.out 1
    have tf2 := blk_frozen BKt.out 2
    have tg2 : w12.cell? ⟨w8.heap.size, 2, none⟩ = some (Value.slice A5 x.f2.length c5) := blk_cell BKt.out 2
    have tf3 := blk_frozen BKt.out 3
    have tg3 : w12.cell? ⟨w8.heap.size, 3, none⟩ = some (Value.string x.f3) := blk_cell BKt.out 3
    go_wp2_with (first | (fail))
    refine bodyPost_ret (results_cell_tmp_row rfl _ _ (w.heap.size + 1 + 1) 51 #[Value.string x.f0, Value.int IntKind.i64 x.f1, Value.slice A5 x.f2.length c5, Value.string x.f3] (0, 0) _ rfl (by refine blk_put (cs := #[Value.string x.f0, Value.int IntKind.i64 x.f1, Value.slice A5 x.f2.length c5, Value.string ⟨#[]⟩]) ?_ 3 _ rfl; refine blk_put (cs := #[Value.string x.f0, Value.int IntKind.i64 x.f1, Value.slice none 0 0, Value.string ⟨#[]⟩]) ?_ 2 _ rfl; refine blk_put (cs := #[Value.string x.f0, Value.int IntKind.i64 0, Value.slice none 0 0, Value.string ⟨#[]⟩]) ?_ 1 _ rfl; refine blk_put (cs := #[Value.string ⟨#[]⟩, Value.int IntKind.i64 0, Value.slice none 0 0, Value.string ⟨#[]⟩]) ?_ 0 _ rfl; exact BK2.out) Try.underlying51 rfl (by kernel_rfl)) rfl ?_
    rw [HX.out, HX2.out]
    have hfar : ∀ k_ : Nat, w10.heap.size ≤ k_ → k_ ≠ w.heap.size + 1 + 1 := fun k_ h => by have := HS.out; omega
    exact ⟨_, rfl, Kd.R_mono (Kd.R_lower (Kd.R_far (Kd.R_far (Kd.R_far (Kd.R_far HO.out hfar _) hfar _) hfar _) hfar _) HS.out.2.2) (fun k_ h => trivial), below_set (below_set (below_set (below_set HB.out (by omega)) (by omega)) (by omega)) (by omega)⟩
end Go.Proofs.Ytdemgfbolcmcdaa.X
