import Derived.Test.YtdemgfbolcmcdaaMOpsAll3
import Derived.Test.YtdemgfbolcmcdaaMOpsAll4
import Derived.Test.YtdemgfbolcmcdaaMOpsAll6
namespace Go.Proofs.Ytdemgfbolcmcdaa.X
open Go.RowKit Go.Proofs.YtdemgfbolcmcdaaW.PrintWords Go.Proofs.YtdemgfbolcmcdaaW.PrintLast Go.Proofs.YtdemgfbolcmcdaaW.PrintMore
attribute [local go_sem] max2_int min2_int max_two min_two max_three min_three max_four min_four
set_option linter.unusedVariables false
set_option linter.unusedSimpArgs false
def agatelaw03_Ints.l0 : Nat → List Int → List Int → Int → Int → Option (Bool)
 | 0, _, _, _, _ => none
 | k + 1, x0, x1, x12, x13 => if x13 < x12 then (if 0 ≤ x13 then (if x13 < (x0.length : Int) then (if x13 < (x1.length : Int) then (if (rd x0 x13) = (rd x1 x13) then (agatelaw03_Ints.l0 k x0 x1 x12 (wrap64 (x13 + 1))) else (some false)) else (none)) else (none)) else (none)) else (some true)
def agatelaw03_Ints.f (k : Nat) (l0 : List Int) (l1 : List Int) : Option (Bool) := if (l0.length : Int) = (l1.length : Int) then (agatelaw03_Ints.l0 k l0 l1 (l0.length : Int) 0) else (some false)
set_option maxHeartbeats 8000000 in
set_option maxRecDepth 100000 in
theorem agatelaw03_Ints.calls (k : Nat) (A0 : Option Addr) (c0 : Nat) (l0 : List Int) (A1 : Option Addr) (c1 : Nat) (l1 : List Int) (r : Bool) (w : World) (hr0 : Kd.C (Kd.int .i64) w A0 l0.length l0) (hc0 : l0.length ≤ c0) (hr1 : Kd.C (Kd.int .i64) w A1 l1.length l1) (hc1 : l1.length ≤ c1) (h : agatelaw03_Ints.f k l0 l1 = some r) :
  Calls Try.prog 15 #[.slice A0 l0.length c0, .slice A1 l1.length c1] w fun e w' => e = .returned (.bool r) ∧ Drawn0 w w' := by
 have HR0 := Aside0.mk hr0
 have HC0 := Aside0.mk hc0
 clear hr0 hc0
 have HR1 := Aside0.mk hr1
 have HC1 := Aside0.mk hc1
 clear hr1 hc1
 have H : (if (l0.length : Int) = (l1.length : Int) then (agatelaw03_Ints.l0 k l0 l1 (l0.length : Int) 0) else (some false)) = some r := h
 clear h
 by_cases c3 : (l0.length : Int) = (l1.length : Int)
 ·
  rw [if_pos c3] at H
  have c3b0 : ((l0.length : Int) == (l1.length : Int)) = true := beq_iff_eq.mpr c3
  have c3b1 : ((l0.length : Int) != (l1.length : Int)) = false := bne_eq_false_iff_eq.mpr c3
  have c3b2 : (l0.length == l1.length) = true := by first | simpa using c3 | (simp at c3 ⊢; omega)
  clear c3
  have H' := Aside0.mk H
  clear H
  go_enter Try.func15, Try.ntmps15
  go_wp2
  repeat (go_quiet (fail); try go_wp2)
  go_loopg [13] k (fun kq v13 w' => ∃ (x13_1 : Int), v13 = .int .i64 x13_1 ∧ Aside0 (agatelaw03_Ints.l0 kq l0 l1 (l0.length : Int) x13_1 = some r) ∧ Aside0 (kq ≤ k) ∧ Drawn0 w w')
  case atStart => exact ⟨(0), (by first | rfl | (simp; done) | (simp [*]; done)), H', ⟨Nat.le_refl _⟩, by repeat (first | exact Drawn0.refl _ | apply Drawn0.step)⟩
  case round =>
   clear H'
   try clear c1; try clear c3; try clear c3b0; try clear c3b1; try clear c3b2
   obtain ⟨x13_1, rfl, HA, HK1, ⟨m1, rfl⟩⟩ := hrel
   cases gk with
   | zero => exact absurd HA.out (by simp [agatelaw03_Ints.l0])
   | succ k1 =>
    have H := HA.out; clear HA
    simp only [agatelaw03_Ints.l0] at H
    by_cases c4 : x13_1 < (l0.length : Int)
    ·
     rw [if_pos c4] at H
     have c4b0 : decide (x13_1 < (l0.length : Int)) = true := decide_eq_true c4
     clear c4
     by_cases c5 : 0 ≤ x13_1
     ·
      rw [if_pos c5] at H
      have c5b0 : decide (0 ≤ x13_1) = true := decide_eq_true c5
      clear c5
      by_cases c6 : x13_1 < (l0.length : Int)
      ·
       rw [if_pos c6] at H
       have c6b0 : decide (x13_1 < (l0.length : Int)) = true := decide_eq_true c6
       clear c6
       by_cases c7 : x13_1 < (l1.length : Int)
       ·
        rw [if_pos c7] at H
        have c7b0 : decide (x13_1 < (l1.length : Int)) = true := decide_eq_true c7
        clear c7
        by_cases c8 : (rd l0 x13_1) = (rd l1 x13_1)
        ·
         rw [if_pos c8] at H
         have c8b0 : ((rd l0 x13_1) == (rd l1 x13_1)) = true := beq_iff_eq.mpr c8
         have c8b1 : ((rd l0 x13_1) != (rd l1 x13_1)) = false := bne_eq_false_iff_eq.mpr c8
         clear c8
         have H' := Aside0.mk H
         clear H
         have p101 : 0 ≤ (x13_1 : Int) := of_decide_eq_true (by first | (with_reducible assumption) | assumption)
         have q101 : x13_1 < (l0.length : Int) := of_decide_eq_true (by first | (with_reducible assumption) | assumption)
         obtain ⟨ad101, e101, hx101_0⟩ := Kd.at_int HR0.out x13_1 p101 q101
         cases e101
         replace p101 := eq_true p101
         replace q101 := eq_true q101
         have p102 : 0 ≤ (x13_1 : Int) := of_decide_eq_true (by first | (with_reducible assumption) | assumption)
         have q102 : x13_1 < (l1.length : Int) := of_decide_eq_true (by first | (with_reducible assumption) | assumption)
         obtain ⟨ad102, e102, hx102_0⟩ := Kd.at_int HR1.out x13_1 p102 q102
         cases e102
         replace p102 := eq_true p102
         replace q102 := eq_true q102
         go_wp2
         repeat (go_quiet (fail); try go_wp2)
         go_roundg k1
         case measure => have := HK1.out; omega
         case rel => exact ⟨(wrap64 (x13_1 + 1)), (by first | rfl | (simp; done) | (simp [*]; done)), H', ⟨by have := HK1.out; omega⟩, by repeat (first | exact Drawn0.refl _ | apply Drawn0.step)⟩
        ·
         rw [if_neg c8] at H
         have c8b0 : ((rd l0 x13_1) == (rd l1 x13_1)) = false := beq_eq_false_iff_ne.mpr c8
         have c8b1 : ((rd l0 x13_1) != (rd l1 x13_1)) = true := bne_iff_ne.mpr c8
         obtain rfl := Option.some.inj H
         have p101 : 0 ≤ (x13_1 : Int) := of_decide_eq_true (by first | (with_reducible assumption) | assumption)
         have q101 : x13_1 < (l0.length : Int) := of_decide_eq_true (by first | (with_reducible assumption) | assumption)
         obtain ⟨ad101, e101, hx101_0⟩ := Kd.at_int HR0.out x13_1 p101 q101
         cases e101
         replace p101 := eq_true p101
         replace q101 := eq_true q101
         have p102 : 0 ≤ (x13_1 : Int) := of_decide_eq_true (by first | (with_reducible assumption) | assumption)
         have q102 : x13_1 < (l1.length : Int) := of_decide_eq_true (by first | (with_reducible assumption) | assumption)
         obtain ⟨ad102, e102, hx102_0⟩ := Kd.at_int HR1.out x13_1 p102 q102
         cases e102
         replace p102 := eq_true p102
         replace q102 := eq_true q102
         go_wp2
         repeat (go_quiet (fail); try go_wp2)
         go_ret
         exact ⟨by first | rfl | (simp; done) | (simp [*]; done), by repeat (first | exact Drawn0.refl _ | apply Drawn0.step)⟩
       ·
        rw [if_neg c7] at H
        exact absurd H (by simp)
      ·
       exact absurd (of_decide_eq_true c4b0) c6
     ·
      rw [if_neg c5] at H
      exact absurd H (by simp)
    ·
     rw [if_neg c4] at H
     have c4b0 : decide (x13_1 < (l0.length : Int)) = false := decide_eq_false c4
     clear c4
     obtain rfl := Option.some.inj H
     go_wp2
     repeat (go_quiet (fail); try go_wp2)
     go_ret
     exact ⟨by first | rfl | (simp; done) | (simp [*]; done), by repeat (first | exact Drawn0.refl _ | apply Drawn0.step)⟩
 ·
  rw [if_neg c3] at H
  have c3b0 : ((l0.length : Int) == (l1.length : Int)) = false := beq_eq_false_iff_ne.mpr c3
  have c3b1 : ((l0.length : Int) != (l1.length : Int)) = true := bne_iff_ne.mpr c3
  have c3b2 : (l0.length == l1.length) = false := by first | simpa using c3 | (simp at c3 ⊢; omega)
  obtain rfl := Option.some.inj H
  go_enter Try.func15, Try.ntmps15
  go_wp2
  repeat (go_quiet (fail); try go_wp2)
  go_ret
  exact ⟨by first | rfl | (simp; done) | (simp [*]; done), by repeat (first | exact Drawn0.refl _ | apply Drawn0.step)⟩
end Go.Proofs.Ytdemgfbolcmcdaa.X
namespace Go.Proofs.Ytdemgfbolcmcdaa.X
open Go.RowKit Go.Proofs.YtdemgfbolcmcdaaW.PrintWords Go.Proofs.YtdemgfbolcmcdaaW.PrintLast Go.Proofs.YtdemgfbolcmcdaaW.PrintMore
attribute [local go_sem] max2_int min2_int max_two min_two max_three min_three max_four min_four
set_option linter.unusedVariables false
set_option linter.unusedSimpArgs false
def agatelaw03_Ints_s.f (l0 l1 : List Int) : Option Bool := if l0.length < 9223372036854775807 then some (decide (l0 = l1)) else none
theorem agatelaw03_Ints_eval (l0 l1 : List Int) (hl : l0.length = l1.length) (hb : l0.length < 9223372036854775807) (d : Nat) : ∀ (k i : Nat), l0.length - i = d → i ≤ l0.length → d < k →
    agatelaw03_Ints.l0 k l0 l1 l0.length i = some (decide (l0.drop i = l1.drop i)) := by
  induction d with
  | zero =>
    intro k i hd hi hk
    obtain ⟨k, rfl⟩ : ∃ m, k = m + 1 := ⟨k - 1, by omega⟩
    simp only [agatelaw03_Ints.l0]
    rw [if_neg (by omega), List.drop_of_length_le (by omega), List.drop_of_length_le (by omega)]
    simp
  | succ d ih =>
    intro k i hd hi hk
    obtain ⟨k, rfl⟩ : ∃ m, k = m + 1 := ⟨k - 1, by omega⟩
    have h0 : i < l0.length := by omega
    have h1 : i < l1.length := by omega
    have e0 : rd l0 (i : Int) = l0[i] := by simp [rd, List.getD_eq_getElem?_getD, h0]
    have e1 : rd l1 (i : Int) = l1[i] := by simp [rd, List.getD_eq_getElem?_getD, h1]
    simp only [agatelaw03_Ints.l0, e0, e1]
    rw [if_pos (by omega), if_pos (by omega), if_pos (by omega), if_pos (by omega), List.drop_eq_getElem_cons h0, List.drop_eq_getElem_cons h1, wrap64_id (by omega) (by omega)]
    by_cases h : l0[i] = l1[i]
    · rw [if_pos h]
      refine (ih k (i + 1) (by omega) (by omega) (by omega)).trans ?_
      have hi : (l0[i] :: l0.drop (i + 1) = l1[i] :: l1.drop (i + 1)) ↔ l0.drop (i + 1) = l1.drop (i + 1) := by rw [List.cons.injEq]; exact ⟨fun g => g.2, fun g => ⟨h, g⟩⟩
      rw [decide_eq_decide.2 hi]
    · rw [if_neg h]
      have hi : ¬ (l0[i] :: l0.drop (i + 1) = l1[i] :: l1.drop (i + 1)) := by rw [List.cons.injEq]; exact fun g => h g.1
      rw [decide_eq_false hi]
theorem agatelaw03_Ints_s.ev (l0 l1 : List Int) (r) (h : agatelaw03_Ints_s.f l0 l1 = some r) : ∃ k, agatelaw03_Ints.f k l0 l1 = some r := by
  unfold agatelaw03_Ints_s.f at h
  split at h
  · rename_i hb
    rw [← h]
    refine ⟨l0.length + 1, ?_⟩
    unfold agatelaw03_Ints.f
    by_cases hl : l0.length = l1.length
    · rw [if_pos (by omega)]
      simpa using agatelaw03_Ints_eval l0 l1 hl hb l0.length (l0.length + 1) 0 (by omega) (by omega) (by omega)
    · rw [if_neg (by omega)]
      congr 1
      symm
      rw [decide_eq_false_iff_not]
      intro he
      exact hl (congrArg List.length he)
  · cases h
set_option maxHeartbeats 1000000 in
theorem agatelaw03_Ints_s.calls (A0 : Option Addr) (c0 : Nat) (l0 : List Int) (A1 : Option Addr) (c1 : Nat) (l1 : List Int) (r : Bool) (w : World) (hr0 : Kd.C (Kd.int .i64) w A0 l0.length l0) (hc0 : l0.length ≤ c0) (hr1 : Kd.C (Kd.int .i64) w A1 l1.length l1) (hc1 : l1.length ≤ c1) (h : agatelaw03_Ints_s.f l0 l1 = some r) :
    Calls Try.prog 15 #[.slice A0 l0.length c0, .slice A1 l1.length c1] w fun e w' => e = .returned (.bool r) ∧ Drawn0 w w' := by
  obtain ⟨k, hk⟩ := agatelaw03_Ints_s.ev l0 l1 _ h
  exact agatelaw03_Ints.calls k A0 c0 l0 A1 c1 l1 r w hr0 hc0 hr1 hc1 hk
end Go.Proofs.Ytdemgfbolcmcdaa.X
namespace Go.Proofs.Ytdemgfbolcmcdaa.X
open Go.RowKit Go.Proofs.YtdemgfbolcmcdaaW.PrintWords Go.Proofs.YtdemgfbolcmcdaaW.PrintLast Go.Proofs.YtdemgfbolcmcdaaW.PrintMore
attribute [local go_sem] max2_int min2_int max_two min_two max_three min_three max_four min_four
set_option linter.unusedVariables false
set_option linter.unusedSimpArgs false
def shape_Back.l0 : Nat → List Int → List Int → List Int → Int → Int → Option (List Int)
 | 0, _, _, _, _, _ => none
 | k + 1, x0, x5, x17, x18, x19 => if x19 < x18 then (if 0 ≤ x19 then (if x19 < (x17.length : Int) then (if x19 < (x0.length : Int) then (if (rd x0 x19) = 1 then (if x5.length < 17592186044416 then (shape_Back.l0 k x0 (x5 ++ [0]) x17 x18 (wrap64 (x19 + 1))) else (none)) else (if x5.length < 17592186044416 then (shape_Back.l0 k x0 (x5 ++ [rd x17 x19]) x17 x18 (wrap64 (x19 + 1))) else (none))) else (if x5.length < 17592186044416 then (shape_Back.l0 k x0 (x5 ++ [rd x17 x19]) x17 x18 (wrap64 (x19 + 1))) else (none))) else (none)) else (none)) else (some x5)
def shape_Back.f (k : Nat) (l0 : List Int) (l1 : List Int) : Option (List Int) := if 0 ≤ (mx (wrap64 ((l1.length : Int) - (l0.length : Int))) 0) then (if (mx (wrap64 ((l1.length : Int) - (l0.length : Int))) 0) ≤ (l1.length : Int) then (shape_Back.l0 k l0 ([] : List Int) (l1.drop ((mx (wrap64 ((l1.length : Int) - (l0.length : Int))) 0) : Int).toNat) ((l1.drop ((mx (wrap64 ((l1.length : Int) - (l0.length : Int))) 0) : Int).toNat).length : Int) 0) else (none)) else (none)
set_option maxHeartbeats 8000000 in
set_option maxRecDepth 100000 in
theorem shape_Back.calls (k : Nat) (A0 : Option Addr) (c0 : Nat) (l0 : List Int) (A1 : Option Addr) (c1 : Nat) (l1 : List Int) (r : List Int) (w : World) (hr0 : Kd.C (Kd.int .i64) w A0 l0.length l0) (hc0 : l0.length ≤ c0) (hr1 : Kd.C (Kd.int .i64) w A1 l1.length l1) (hc1 : l1.length ≤ c1) (h : shape_Back.f k l0 l1 = some r) :
  Calls Try.prog 79 #[.slice A0 l0.length c0, .slice A1 l1.length c1] w fun e w' => ∃ v0_ : Value, e = .returned (v0_) ∧ Kd.R (Kd.int .i64) 2 w' w.heap.size (fun _ => True) v0_ r ∧ Below w.heap.size w w' := by
 have HR0 := Aside0.mk hr0
 have HC0 := Aside0.mk hc0
 clear hr0 hc0
 have HR1 := Aside0.mk hr1
 have HC1 := Aside0.mk hc1
 clear hr1 hc1
 have HB := Aside0.mk (Below.refl w.heap.size w)
 have H : (if 0 ≤ (mx (wrap64 ((l1.length : Int) - (l0.length : Int))) 0) then (if (mx (wrap64 ((l1.length : Int) - (l0.length : Int))) 0) ≤ (l1.length : Int) then (shape_Back.l0 k l0 ([] : List Int) (l1.drop ((mx (wrap64 ((l1.length : Int) - (l0.length : Int))) 0) : Int).toNat) ((l1.drop ((mx (wrap64 ((l1.length : Int) - (l0.length : Int))) 0) : Int).toNat).length : Int) 0) else (none)) else (none)) = some r := h
 clear h
 obtain ⟨ji3, hji3⟩ : ∃ j_ : Int, (mx (wrap64 ((l1.length : Int) - (l0.length : Int))) 0) = j_ := ⟨_, rfl⟩
 replace H : (if 0 ≤ (ji3) then (if (ji3) ≤ (l1.length : Int) then (shape_Back.l0 k l0 ([] : List Int) (l1.drop ((ji3) : Int).toNat) ((l1.drop ((ji3) : Int).toNat).length : Int) 0) else (none)) else (none)) = some r := by first | (rw [hji3] at H; exact H) | (simp only [hji3] at H ⊢; exact H)
 (try (have hji3l : 0 ≤ ji3 := by (rw [← hji3]; unfold mx; (repeat' split) <;> omega)))
 (try (have hji3m : 0 ≤ ji3 := by omega))
 have hji3_ : (if (wrap64 ((l1.length : Int) - (l0.length : Int))) < 0 then 0 else (wrap64 ((l1.length : Int) - (l0.length : Int)))) = ji3 := hji3
 by_cases c4 : 0 ≤ (ji3)
 ·
  rw [if_pos c4] at H
  have c4b0 := eq_true c4
  have c4b1 : decide (0 ≤ (ji3)) = true := decide_eq_true c4
  clear c4
  by_cases c5 : (ji3) ≤ (l1.length : Int)
  ·
   rw [if_pos c5] at H
   have c5b0 := eq_true c5
   have c5b1 : decide ((ji3) ≤ (l1.length : Int)) = true := decide_eq_true c5
   clear c5
   have H' := Aside0.mk H
   clear H
   obtain ⟨i06, hi06, _, hsz6, _⟩ := info_parts info2
   obtain ⟨A6, hcut6, hA6, hC6⟩ := print_drop_of (P := Try.prog) (Value.int .i64) 0 27 2 .i64 Try.underlying27 hi06 hsz6 A1 c1 l1 (ji3) (of_decide_eq_true (by first | (with_reducible assumption) | assumption)) (of_decide_eq_true (by first | (with_reducible assumption) | assumption)) HC1.out
   have HR101 := Aside0.mk (Kd.C_of_reads (h1 := fun _ => rfl) (hA6 _ (Kd.reads_of_C HR1.out)))
   have HC101 := Aside0.mk hC6
   clear hA6 hC6 hi06 hsz6
   go_enter Try.func79, Try.ntmps79
   go_wp2
   go_loopg [5, 19] k (fun kq v5 v19 w' => ∃ (x5_1 : List Int) (x19_1 : Int), v19 = .int .i64 x19_1 ∧ Aside0 (shape_Back.l0 kq l0 x5_1 (l1.drop ((ji3) : Int).toNat) ((l1.drop ((ji3) : Int).toNat).length : Int) x19_1 = some r) ∧ Aside0 (kq ≤ k) ∧ Aside0 (Kd.R (Kd.int .i64) 2 w' w.heap.size (fun _ => True) v5 x5_1) ∧ Aside0 (Below w.heap.size w w'))
   case atStart => exact ⟨(([] : List Int)), (0), (by first | rfl | (simp; done) | (simp [*]; done)), H', ⟨Nat.le_refl _⟩, ⟨by first | exact Kd.R_nil _ _ _ _ _ | exact Kd.N_nil _ _ _ _ _ | exact Kd.V_nil _ _ _ _ _ | exact Kd.Q_nil _ _ _ _ _ | exact Kd.S_nil _ _ _ _ _⟩, ⟨hbA HB⟩⟩
   case round =>
    clear H'
    try clear c1; try clear c4; try clear c4b0; try clear c4b1; try clear c5; try clear c5b0; try clear c5b1
    obtain ⟨x5_1, x19_1, rfl, HA, HK1, HO_5, HB⟩ := hrel
    cases gk with
    | zero => exact absurd HA.out (by simp [shape_Back.l0])
    | succ k1 =>
     have H := HA.out; clear HA
     simp only [shape_Back.l0] at H
     by_cases c7 : x19_1 < ((l1.drop ((ji3) : Int).toNat).length : Int)
     ·
      rw [if_pos c7] at H
      have c7b0 : decide (x19_1 < ((l1.drop ((ji3) : Int).toNat).length : Int)) = true := decide_eq_true c7
      try have c7b0n := c7b0
      try simp only [List.length_drop] at c7b0n
      clear c7
      by_cases c8 : 0 ≤ x19_1
      ·
       rw [if_pos c8] at H
       have c8b0 : decide (0 ≤ x19_1) = true := decide_eq_true c8
       clear c8
       by_cases c9 : x19_1 < ((l1.drop ((ji3) : Int).toNat).length : Int)
       ·
        rw [if_pos c9] at H
        have c9b0 : decide (x19_1 < ((l1.drop ((ji3) : Int).toNat).length : Int)) = true := decide_eq_true c9
        try have c9b0n := c9b0
        try simp only [List.length_drop] at c9b0n
        clear c9
        by_cases c10 : x19_1 < (l0.length : Int)
        ·
         rw [if_pos c10] at H
         have c10b0 : decide (x19_1 < (l0.length : Int)) = true := decide_eq_true c10
         clear c10
         by_cases c11 : (rd l0 x19_1) = 1
         ·
          rw [if_pos c11] at H
          have c11b0 : ((rd l0 x19_1) == 1) = true := beq_iff_eq.mpr c11
          have c11b1 : ((rd l0 x19_1) != 1) = false := bne_eq_false_iff_eq.mpr c11
          clear c11
          by_cases c12 : x5_1.length < 17592186044416
          ·
           rw [if_pos c12] at H
           have LMc12 := Aside0.mk c12
           clear c12
           obtain ⟨y104, hy104⟩ : ∃ y_ : List Int, y_ = (x5_1 ++ [0]) := ⟨_, rfl⟩
           replace H : (shape_Back.l0 k1 l0 y104 (l1.drop ((ji3) : Int).toNat) ((l1.drop ((ji3) : Int).toNat).length : Int) (wrap64 (x19_1 + 1))) = some r := by first | (rw [hy104]; with_reducible exact H) | (have H2_ := (Option.bind_some _ _).symm.trans H; rw [hy104]; with_reducible exact H2_) | (have H2_ := (Option.bind_some _ _).symm.trans H; with_reducible exact H2_) | with_reducible exact H | (rw [hy104]; exact H) | exact H
           have Ny104 := Aside0.mk hy104
           clear hy104
           have H' := Aside0.mk H
           clear H
           have p102 : 0 ≤ (x19_1 : Int) := of_decide_eq_true (by first | (with_reducible assumption) | assumption)
           have q102 : x19_1 < ((l1.drop ((ji3) : Int).toNat).length : Int) := of_decide_eq_true (by first | (with_reducible assumption) | assumption)
           have q102n := q102
           try simp only [List.length_drop] at q102n
           replace q102n := eq_true q102n
           obtain ⟨ad102, e102, hx102_0⟩ := Kd.at_int HR101.out x19_1 p102 q102
           cases e102
           replace hx102_0 := (HB.out.cell (World.block_lt_of_cell? w _ hx102_0)).trans hx102_0
           replace p102 := eq_true p102
           replace q102 := eq_true q102
           have p103 : 0 ≤ (x19_1 : Int) := of_decide_eq_true (by first | (with_reducible assumption) | assumption)
           have q103 : x19_1 < (l0.length : Int) := of_decide_eq_true (by first | (with_reducible assumption) | assumption)
           obtain ⟨ad103, e103, hx103_0⟩ := Kd.at_int HR0.out x19_1 p103 q103
           cases e103
           replace hx103_0 := (HB.out.cell (World.block_lt_of_cell? w _ hx103_0)).trans hx103_0
           replace p103 := eq_true p103
           replace q103 := eq_true q103
           go_wp2_with (first | ((with_reducible refine gate_builtin (b := .append) (xs := #[.tmp 35, .tmp 37]) rfl ?_); at_builtin; refine Kd.R_append (Kd.int .i64) (w0 := w) w.heap.size rfl (.tmp 35) (.tmp 37) 27 2 (.int .i64 0) 8 rfl Try.underlying27 info2 rfl (by decide) (by omega) u5 x5_1 0 [.int .i64 0] (fun _ => True) (fun _ => False) rfl rfl ?aP (fun _ hk => hk.elim) ?aF ?aO ?aB ?aS ?aL ?_; (case aP => exact rfl); (case aB => exact (hbA HB)); (case aF => exact (fun _ _ => trivial)); (case aO => exact (krA HO_5)); (case aS => exact (below_size (hbA HB))); (case aL => have := LMc12.out; omega); intro v105 w13 ho hb hg hat; rw [← Ny104.out] at ho; have n0_ := Aside0.mk (hb); have n1_ := Aside0.mk (ho); clear HB; clear HO_5; have HB := n0_; have HO106 := n1_; clear n0_ n1_; clear ho hb hg hat))
           go_roundg k1
           case measure => have := HK1.out; omega
           case rel => exact ⟨(y104), (wrap64 (x19_1 + 1)), (by first | rfl | (simp; done) | (simp [*]; done)), H', ⟨by have := HK1.out; omega⟩, ⟨krA HO106⟩, ⟨hbA HB⟩⟩
          ·
           rw [if_neg c12] at H
           exact absurd H (by simp)
         ·
          rw [if_neg c11] at H
          have c11b0 : ((rd l0 x19_1) == 1) = false := beq_eq_false_iff_ne.mpr c11
          have c11b1 : ((rd l0 x19_1) != 1) = true := bne_iff_ne.mpr c11
          by_cases c14 : x5_1.length < 17592186044416
          ·
           rw [if_pos c14] at H
           have LMc14 := Aside0.mk c14
           clear c14
           obtain ⟨y107, hy107⟩ : ∃ y_ : List Int, y_ = (x5_1 ++ [rd (l1.drop ((ji3) : Int).toNat) x19_1]) := ⟨_, rfl⟩
           replace H : (shape_Back.l0 k1 l0 y107 (l1.drop ((ji3) : Int).toNat) ((l1.drop ((ji3) : Int).toNat).length : Int) (wrap64 (x19_1 + 1))) = some r := by first | (rw [hy107]; with_reducible exact H) | (have H2_ := (Option.bind_some _ _).symm.trans H; rw [hy107]; with_reducible exact H2_) | (have H2_ := (Option.bind_some _ _).symm.trans H; with_reducible exact H2_) | with_reducible exact H | (rw [hy107]; exact H) | exact H
           have Ny107 := Aside0.mk hy107
           clear hy107
           have H' := Aside0.mk H
           clear H
           have p102 : 0 ≤ (x19_1 : Int) := of_decide_eq_true (by first | (with_reducible assumption) | assumption)
           have q102 : x19_1 < ((l1.drop ((ji3) : Int).toNat).length : Int) := of_decide_eq_true (by first | (with_reducible assumption) | assumption)
           have q102n := q102
           try simp only [List.length_drop] at q102n
           replace q102n := eq_true q102n
           obtain ⟨ad102, e102, hx102_0⟩ := Kd.at_int HR101.out x19_1 p102 q102
           cases e102
           replace hx102_0 := (HB.out.cell (World.block_lt_of_cell? w _ hx102_0)).trans hx102_0
           replace p102 := eq_true p102
           replace q102 := eq_true q102
           have p103 : 0 ≤ (x19_1 : Int) := of_decide_eq_true (by first | (with_reducible assumption) | assumption)
           have q103 : x19_1 < (l0.length : Int) := of_decide_eq_true (by first | (with_reducible assumption) | assumption)
           obtain ⟨ad103, e103, hx103_0⟩ := Kd.at_int HR0.out x19_1 p103 q103
           cases e103
           replace hx103_0 := (HB.out.cell (World.block_lt_of_cell? w _ hx103_0)).trans hx103_0
           replace p103 := eq_true p103
           replace q103 := eq_true q103
           go_wp2_with (first | ((with_reducible refine gate_builtin (b := .append) (xs := #[.tmp 35, .tmp 37]) rfl ?_); at_builtin; refine Kd.R_append (Kd.int .i64) (w0 := w) w.heap.size rfl (.tmp 35) (.tmp 37) 27 2 (.int .i64 0) 8 rfl Try.underlying27 info2 rfl (by decide) (by omega) u5 x5_1 (rd (l1.drop ((ji3) : Int).toNat) x19_1) [.int .i64 (rd (l1.drop ((ji3) : Int).toNat) x19_1)] (fun _ => True) (fun _ => False) rfl rfl ?aP (fun _ hk => hk.elim) ?aF ?aO ?aB ?aS ?aL ?_; (case aP => exact rfl); (case aB => exact (hbA HB)); (case aF => exact (fun _ _ => trivial)); (case aO => exact (krA HO_5)); (case aS => exact (below_size (hbA HB))); (case aL => have := LMc14.out; omega); intro v108 w15 ho hb hg hat; rw [← Ny107.out] at ho; have n0_ := Aside0.mk (hb); have n1_ := Aside0.mk (ho); clear HB; clear HO_5; have HB := n0_; have HO109 := n1_; clear n0_ n1_; clear ho hb hg hat))
           go_roundg k1
           case measure => have := HK1.out; omega
           case rel => exact ⟨(y107), (wrap64 (x19_1 + 1)), (by first | rfl | (simp; done) | (simp [*]; done)), H', ⟨by have := HK1.out; omega⟩, ⟨krA HO109⟩, ⟨hbA HB⟩⟩
          ·
           rw [if_neg c14] at H
           exact absurd H (by simp)
        ·
         rw [if_neg c10] at H
         have c10b0 : decide (x19_1 < (l0.length : Int)) = false := decide_eq_false c10
         clear c10
         by_cases c16 : x5_1.length < 17592186044416
         ·
          rw [if_pos c16] at H
          have LMc16 := Aside0.mk c16
          clear c16
          obtain ⟨y110, hy110⟩ : ∃ y_ : List Int, y_ = (x5_1 ++ [rd (l1.drop ((ji3) : Int).toNat) x19_1]) := ⟨_, rfl⟩
          replace H : (shape_Back.l0 k1 l0 y110 (l1.drop ((ji3) : Int).toNat) ((l1.drop ((ji3) : Int).toNat).length : Int) (wrap64 (x19_1 + 1))) = some r := by first | (rw [hy110]; with_reducible exact H) | (have H2_ := (Option.bind_some _ _).symm.trans H; rw [hy110]; with_reducible exact H2_) | (have H2_ := (Option.bind_some _ _).symm.trans H; with_reducible exact H2_) | with_reducible exact H | (rw [hy110]; exact H) | exact H
          have Ny110 := Aside0.mk hy110
          clear hy110
          have H' := Aside0.mk H
          clear H
          have p102 : 0 ≤ (x19_1 : Int) := of_decide_eq_true (by first | (with_reducible assumption) | assumption)
          have q102 : x19_1 < ((l1.drop ((ji3) : Int).toNat).length : Int) := of_decide_eq_true (by first | (with_reducible assumption) | assumption)
          have q102n := q102
          try simp only [List.length_drop] at q102n
          replace q102n := eq_true q102n
          obtain ⟨ad102, e102, hx102_0⟩ := Kd.at_int HR101.out x19_1 p102 q102
          cases e102
          replace hx102_0 := (HB.out.cell (World.block_lt_of_cell? w _ hx102_0)).trans hx102_0
          replace p102 := eq_true p102
          replace q102 := eq_true q102
          go_wp2_with (first | ((with_reducible refine gate_builtin (b := .append) (xs := #[.tmp 35, .tmp 37]) rfl ?_); at_builtin; refine Kd.R_append (Kd.int .i64) (w0 := w) w.heap.size rfl (.tmp 35) (.tmp 37) 27 2 (.int .i64 0) 8 rfl Try.underlying27 info2 rfl (by decide) (by omega) u5 x5_1 (rd (l1.drop ((ji3) : Int).toNat) x19_1) [.int .i64 (rd (l1.drop ((ji3) : Int).toNat) x19_1)] (fun _ => True) (fun _ => False) rfl rfl ?aP (fun _ hk => hk.elim) ?aF ?aO ?aB ?aS ?aL ?_; (case aP => exact rfl); (case aB => exact (hbA HB)); (case aF => exact (fun _ _ => trivial)); (case aO => exact (krA HO_5)); (case aS => exact (below_size (hbA HB))); (case aL => have := LMc16.out; omega); intro v111 w17 ho hb hg hat; rw [← Ny110.out] at ho; have n0_ := Aside0.mk (hb); have n1_ := Aside0.mk (ho); clear HB; clear HO_5; have HB := n0_; have HO112 := n1_; clear n0_ n1_; clear ho hb hg hat))
          go_roundg k1
          case measure => have := HK1.out; omega
          case rel => exact ⟨(y110), (wrap64 (x19_1 + 1)), (by first | rfl | (simp; done) | (simp [*]; done)), H', ⟨by have := HK1.out; omega⟩, ⟨krA HO112⟩, ⟨hbA HB⟩⟩
         ·
          rw [if_neg c16] at H
          exact absurd H (by simp)
       ·
        exact absurd (of_decide_eq_true c7b0) c9
      ·
       rw [if_neg c8] at H
       exact absurd H (by simp)
     ·
      rw [if_neg c7] at H
      have c7b0 : decide (x19_1 < ((l1.drop ((ji3) : Int).toNat).length : Int)) = false := decide_eq_false c7
      try have c7b0n := c7b0
      try simp only [List.length_drop] at c7b0n
      clear c7
      obtain rfl := Option.some.inj H
      go_wp2
      go_ret
      exact ⟨_, by first | rfl | (simp [errW_none, errW_some] <;> rfl) | (simp only [← hji3]; first | rfl | (simp [errW_none, errW_some] <;> rfl)) | (simp [*, errW_none, errW_some] <;> rfl), krA HO_5, hbA HB⟩
  ·
   rw [if_neg c5] at H
   exact absurd H (by simp)
 ·
  rw [if_neg c4] at H
  exact absurd H (by simp)
end Go.Proofs.Ytdemgfbolcmcdaa.X
namespace Go.Proofs.Ytdemgfbolcmcdaa.X
open Go.RowKit Go.Proofs.YtdemgfbolcmcdaaW.PrintWords Go.Proofs.YtdemgfbolcmcdaaW.PrintLast Go.Proofs.YtdemgfbolcmcdaaW.PrintMore
attribute [local go_sem] max2_int min2_int max_two min_two max_three min_three max_four min_four
set_option linter.unusedVariables false
set_option linter.unusedSimpArgs false
theorem rd_mid (pre : List Int) (d : Int) (ds : List Int) (i : Int) (h : i = (pre.length : Int)) : rd (pre ++ d :: ds) i = d := by
  subst h; unfold rd; simp
def backL : List Int → List Int → List Int
  | d :: ds, p :: ps => (if d = 1 then 0 else p) :: backL ds ps
  | [], ps => ps
  | _, [] => []
end Go.Proofs.Ytdemgfbolcmcdaa.X
namespace Go.Proofs.Ytdemgfbolcmcdaa.X
open Go.RowKit Go.Proofs.YtdemgfbolcmcdaaW.PrintWords Go.Proofs.YtdemgfbolcmcdaaW.PrintLast Go.Proofs.YtdemgfbolcmcdaaW.PrintMore
attribute [local go_sem] max2_int min2_int max_two min_two max_three min_three max_four min_four
set_option linter.unusedVariables false
set_option linter.unusedSimpArgs false
def shape_Back_s.f (l0 l1 : List Int) : Option (List Int) := if l0.length ≤ 1000000 ∧ l1.length ≤ 1000000 then some (backL l0 (l1.drop (l1.length - l0.length))) else none
theorem shapeBack_l0 (ps : List Int) : ∀ (ds pre qre out : List Int) (k : Nat), ps.length < k → out.length ≤ pre.length → pre.length + ps.length ≤ 1000000 → pre.length = qre.length ∨ ds = [] → qre.length ≤ pre.length →
    shape_Back.l0 k (qre ++ ds) out (pre ++ ps) ((pre ++ ps).length : Int) (pre.length : Int) = some (out ++ backL ds ps) := by
  induction ps with
  | nil =>
    intro ds pre qre out k hk ho hb hq hr
    obtain ⟨k, rfl⟩ : ∃ m, k = m + 1 := ⟨k - 1, by omega⟩
    rw [shape_Back.l0, if_neg (by simp)]
    cases ds <;> simp [backL]
  | cons p ps ih =>
    intro ds pre qre out k hk ho hb hq hr
    rw [List.length_cons] at hk hb
    obtain ⟨k, rfl⟩ : ∃ m, k = m + 1 := ⟨k - 1, by omega⟩
    have ew : wrap64 ((pre.length : Int) + 1) = (((pre ++ [p]).length : Nat) : Int) := by
      rw [wrap64_id (by omega) (by omega), List.length_append, List.length_singleton]; rfl
    have eq1 : pre ++ p :: ps = (pre ++ [p]) ++ ps := by simp
    rw [shape_Back.l0, if_pos (by rw [List.length_append, List.length_cons]; omega), if_pos (by omega), if_pos (by rw [List.length_append, List.length_cons]; omega), rd_mid pre p ps _ rfl, ew]
    clear ew
    cases ds with
    | nil =>
      rw [List.append_nil, if_neg (by omega), if_pos (by omega), eq1]
      have := ih [] (pre ++ [p]) qre (out ++ [p]) k (by omega) (by simp; omega) (by simp; omega) (Or.inr rfl) (by simp; omega)
      rw [List.append_nil] at this
      rw [this]; simp [backL]
    | cons d ds =>
      have hq : pre.length = qre.length := by rcases hq with h | h; exact h; cases h
      have eq2 : qre ++ d :: ds = (qre ++ [d]) ++ ds := by simp
      rw [if_pos (by rw [List.length_append, List.length_cons]; omega), rd_mid qre d ds _ (by omega), eq1, eq2, backL]
      by_cases h : d = 1
      · rw [if_pos h, if_pos (by omega), if_pos h, ih ds (pre ++ [p]) (qre ++ [d]) (out ++ [0]) k (by omega) (by simp; omega) (by simp; omega) (Or.inl (by simp; omega)) (by simp; omega)]
        simp
      · rw [if_neg h, if_pos (by omega), if_neg h, ih ds (pre ++ [p]) (qre ++ [d]) (out ++ [p]) k (by omega) (by simp; omega) (by simp; omega) (Or.inl (by simp; omega)) (by simp; omega)]
        simp
theorem shape_Back_s.ev (l0 l1 : List Int) (r) (h : shape_Back_s.f l0 l1 = some r) : ∃ k, shape_Back.f k l0 l1 = some r := by
  unfold shape_Back_s.f at h
  split at h
  · rename_i hs
    obtain ⟨h0, h1⟩ := hs
    rw [← h]
    refine ⟨l1.length + 1, ?_⟩
    unfold shape_Back.f
    have em : mx (wrap64 ((l1.length : Int) - (l0.length : Int))) 0 = ((l1.length - l0.length : Nat) : Int) := by
      rw [wrap64_id (by omega) (by omega)]; unfold mx; split <;> omega
    rw [em, if_pos (by omega), if_pos (by omega), Int.toNat_natCast]
    exact shapeBack_l0 _ l0 [] [] [] _ (by rw [List.length_drop]; omega) (by simp) (by rw [List.length_drop]; simp; omega) (Or.inl rfl) (Nat.le_refl _)
  · cases h
set_option maxHeartbeats 1000000 in
theorem shape_Back_s.calls (A0 : Option Addr) (c0 : Nat) (l0 : List Int) (A1 : Option Addr) (c1 : Nat) (l1 : List Int) (r : List Int) (w : World) (hr0 : Kd.C (Kd.int .i64) w A0 l0.length l0) (hc0 : l0.length ≤ c0) (hr1 : Kd.C (Kd.int .i64) w A1 l1.length l1) (hc1 : l1.length ≤ c1) (h : shape_Back_s.f l0 l1 = some r) :
    Calls Try.prog 79 #[.slice A0 l0.length c0, .slice A1 l1.length c1] w fun e w' => ∃ v0_ : Value, e = .returned (v0_) ∧ Kd.R (Kd.int .i64) 2 w' w.heap.size (fun _ => True) v0_ r ∧ Below w.heap.size w w' := by
  obtain ⟨k, hk⟩ := shape_Back_s.ev l0 l1 _ h
  exact shape_Back.calls k A0 c0 l0 A1 c1 l1 r w hr0 hc0 hr1 hc1 hk
end Go.Proofs.Ytdemgfbolcmcdaa.X
