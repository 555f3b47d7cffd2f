import Derived.Test.YtgmggompdidcoaaGreatDoorMPbtensorWrites2
import Derived.Test.YtgmggompdidcoaaGreatDoorMPbtensorWrites5
import Derived.Test.YtgmggompdidcoaaGreatDoorMPbtensorWrites6
import Derived.Test.YtgmggompdidcoaaGreatDoorMPbtensorWrites3
import Derived.Test.YtgmggompdidcoaaGreatDoorMPbtensorWrites8
namespace Go.Proofs.YtgmggompdidcoaaGreatDoor.X
open Go.RowKit Go.Proofs.YtgmggompdidcoaaGreatDoorW.PrintWords Go.Proofs.YtgmggompdidcoaaGreatDoorW.PrintLast Go.Proofs.YtgmggompdidcoaaGreatDoorW.PrintMore
attribute [local go_sem] max2_int min2_int max_two min_two max_three min_three max_four min_four
set_option linter.unusedVariables false
set_option linter.unusedSimpArgs false
def agatelaw04_Awake.f : Option Bool := some true
theorem awake04_size : sizeK 14 = 8 := by decide
theorem awake04_word : wordK 7 = ⟨#[105, 110, 116]⟩ := by rfl
theorem agatelaw04_Awake.calls (r : Bool) (w : World) (h : agatelaw04_Awake.f = some r) :
    Calls Tryz.prog 48 #[] w fun e w' => e = .returned (.bool r) ∧ Below w.heap.size w w' := by
  obtain rfl := Option.some.inj h
  go_enter Tryz.func48, Tryz.ntmps48
  go_wp2_with (first | (fail))
  refine (kind_Size.calls 14 _).mono ?_
  rintro e w1 ⟨rfl, hb⟩
  rw [awake04_size]
  have HB := Aside0.mk hb
  clear hb
  go_wp2_with (first | (fail))
  refine (kind_String.calls 7 rfl _).mono ?_
  rintro e w2 ⟨rfl, hb⟩
  rw [awake04_word]
  have n0_ := Aside0.mk (below_step HB.out hb)
  clear HB hb
  have HB := n0_
  go_wp2_with (first | (fail))
  go_ret
  exact ⟨rfl, HB.out⟩
def agatelaw06_Awake.f : Option Bool := some true
theorem awake06_mul : cMulBits 4607182418800017408 4611686018427387904 4613937818241073152 4616189618054758400 = some (13840687554816376832, 4621819117588971520) := by decide +kernel
theorem awake06_re : floatBits .add .f64 13840687554816376832 0 = some 13840687554816376832 := by decide +kernel
theorem awake06_im : floatBits .add .f64 4621819117588971520 0 = some 4621819117588971520 := by decide +kernel
theorem awake06_done : doneS 13840687554816376832 4621819117588971520 [(4607182418800017408, 4611686018427387904), (4613937818241073152, 4616189618054758400)] = (13840687554816376832, 4621819117588971520, 0) := by decide +kernel
theorem awake06_eq1 : (FloatKind.f64.format.order 13840687554816376832 13840687554816376832 == some .eq) = true := by decide +kernel
theorem awake06_eq2 : (FloatKind.f64.format.order 4621819117588971520 4621819117588971520 == some .eq) = true := by decide +kernel
theorem agatelaw06_Awake.calls (r : Bool) (w : World) (h : agatelaw06_Awake.f = some r) :
    Calls Tryz.prog 50 #[] w fun e w' => e = .returned (.bool r) ∧ Below w.heap.size w w' := by
  obtain rfl := Option.some.inj h
  have q1 := awake06_eq1
  have q2 := awake06_eq2
  go_enter Tryz.func50, Tryz.ntmps50
  go_wp2_with (first | (fail))
  refine (gauss_Mul.calls _ _ _ _ _ _ _ _ awake06_mul awake06_re awake06_im _).mono ?_
  rintro e w9 ⟨rfl, hb⟩
  rw [awake06_done]
  have HB := Aside0.mk hb
  clear hb
  go_wp2_with (first | (fail))
  go_ret
  exact ⟨rfl, HB.out⟩
def agatelaw03_Ints.l0 : Nat → List Int → List Int → Int → Int → Option (Bool)
 | 0, _, _, _, _ => none
 | k + 1, x0, x1, x12, x13 => if x13 < x12 then (if 0 ≤ x13 then (if x13 < (x0.length : Int) then (if x13 < (x1.length : Int) then (if (rd x0 x13) = (rd x1 x13) then (agatelaw03_Ints.l0 k x0 x1 x12 (wrap64 (x13 + 1))) else (some false)) else (none)) else (none)) else (none)) else (some true)
def agatelaw03_Ints.f (k : Nat) (l0 : List Int) (l1 : List Int) : Option (Bool) := if (l0.length : Int) = (l1.length : Int) then (agatelaw03_Ints.l0 k l0 l1 (l0.length : Int) 0) else (some false)
set_option maxHeartbeats 8000000 in
set_option maxRecDepth 100000 in
theorem agatelaw03_Ints.calls (k : Nat) (A0 : Option Addr) (c0 : Nat) (l0 : List Int) (A1 : Option Addr) (c1 : Nat) (l1 : List Int) (r : Bool) (w : World) (hr0 : Kd.C (Kd.int .i64) w A0 l0.length l0) (hc0 : l0.length ≤ c0) (hr1 : Kd.C (Kd.int .i64) w A1 l1.length l1) (hc1 : l1.length ≤ c1) (h : agatelaw03_Ints.f k l0 l1 = some r) :
  Calls Tryz.prog 47 #[.slice A0 l0.length c0, .slice A1 l1.length c1] w fun e w' => e = .returned (.bool r) ∧ Drawn0 w w' := by
 have HR0 := mk0 hr0; have HC0 := mk0 hc0; clear hr0 hc0; have HR1 := mk0 hr1; have HC1 := mk0 hc1; clear hr1 hc1; have H : (if (l0.length : Int) = (l1.length : Int) then (agatelaw03_Ints.l0 k l0 l1 (l0.length : Int) 0) else (some false)) = some r := h; clear h
 by_cases c3 : (l0.length : Int) = (l1.length : Int)
 ·
  rw [if_pos c3] at H; have c3b0 := beq_iff_eq.mpr c3; have c3b1 := bne_eq_false_iff_eq.mpr c3; have c3b2 : (l0.length == l1.length) = true := by first | simpa using c3 | (simp at c3 ⊢; omega)
  clear c3; have H' := mk0 H; clear H
  go_enter Tryz.func47, Tryz.ntmps47
  go_wp2
  repeat (go_quiet (fail); try go_wp2)
  go_loopg [13] k (fun kq v13 w' => ∃ (x13_1 : Int), v13 = .int .i64 x13_1 ∧ Aside0 (agatelaw03_Ints.l0 kq l0 l1 (l0.length : Int) x13_1 = some r) ∧ Aside0 (kq ≤ k) ∧ Drawn0 w w')
  case atStart => exact ⟨(0), cl0, H', ⟨Nat.le_refl _⟩, by repeat (first | exact Drawn0.refl _ | apply Drawn0.step)⟩
  case round =>
   clear H'; try clear c1; try clear c3; try clear c3b0; try clear c3b1; try clear c3b2
   obtain ⟨x13_1, rfl, HA, HK1, ⟨m1, rfl⟩⟩ := hrel
   cases gk with
   | zero => exact absurd HA.out (by simp [agatelaw03_Ints.l0])
   | succ k1 =>
    have H := HA.out; clear HA
    simp only [agatelaw03_Ints.l0] at H
    by_cases c4 : x13_1 < (l0.length : Int)
    ·
     rw [if_pos c4] at H; have c4b0 := decide_eq_true c4; clear c4; replace H := ifS H; obtain ⟨c5, H⟩ := H; have c5b0 := decide_eq_true c5; clear c5
     by_cases c6 : x13_1 < (l0.length : Int)
     ·
      rw [if_pos c6] at H; have c6b0 := decide_eq_true c6; clear c6; replace H := ifS H; obtain ⟨c7, H⟩ := H; have c7b0 := decide_eq_true c7; clear c7
      by_cases c8 : (rd l0 x13_1) = (rd l1 x13_1)
      ·
       rw [if_pos c8] at H; have c8b0 := beq_iff_eq.mpr c8; have c8b1 := bne_eq_false_iff_eq.mpr c8; clear c8; have H' := mk0 H; clear H; have p101 : 0 ≤ (x13_1 : Int) := ofd; have q101 : x13_1 < (l0.length : Int) := ofd; obtain ⟨ad101, e101, hx101_0⟩ := Kd.at_int HR0.out x13_1 p101 q101; cases e101; replace p101 := eq_true p101; replace q101 := eq_true q101; have p102 : 0 ≤ (x13_1 : Int) := ofd; have q102 : x13_1 < (l1.length : Int) := ofd; obtain ⟨ad102, e102, hx102_0⟩ := Kd.at_int HR1.out x13_1 p102 q102; cases e102; replace p102 := eq_true p102; replace q102 := eq_true q102
       go_wp2
       repeat (go_quiet (fail); try go_wp2)
       go_roundg k1
       case measure => have := HK1.out; omega
       case rel => exact ⟨(wrap64 (x13_1 + 1)), cl0, H', cl2 HK1, by repeat (first | exact Drawn0.refl _ | apply Drawn0.step)⟩
      ·
       rw [if_neg c8] at H; have c8b0 := beq_eq_false_iff_ne.mpr c8; have c8b1 := bne_iff_ne.mpr c8; obtain rfl := Option.some.inj H; have p101 : 0 ≤ (x13_1 : Int) := ofd; have q101 : x13_1 < (l0.length : Int) := ofd; obtain ⟨ad101, e101, hx101_0⟩ := Kd.at_int HR0.out x13_1 p101 q101; cases e101; replace p101 := eq_true p101; replace q101 := eq_true q101; have p102 : 0 ≤ (x13_1 : Int) := ofd; have q102 : x13_1 < (l1.length : Int) := ofd; obtain ⟨ad102, e102, hx102_0⟩ := Kd.at_int HR1.out x13_1 p102 q102; cases e102; replace p102 := eq_true p102; replace q102 := eq_true q102
       go_wp2
       repeat (go_quiet (fail); try go_wp2)
       go_ret
       exact ⟨by first | rfl | (simp; done) | (simp [*]; done), by repeat (first | exact Drawn0.refl _ | apply Drawn0.step)⟩
     ·
      exact absurd (of_decide_eq_true c4b0) c6
    ·
     rw [if_neg c4] at H; have c4b0 := decide_eq_false c4; clear c4; obtain rfl := Option.some.inj H
     go_wp2
     repeat (go_quiet (fail); try go_wp2)
     go_ret
     exact ⟨by first | rfl | (simp; done) | (simp [*]; done), by repeat (first | exact Drawn0.refl _ | apply Drawn0.step)⟩
 ·
  rw [if_neg c3] at H; have c3b0 := beq_eq_false_iff_ne.mpr c3; have c3b1 := bne_iff_ne.mpr c3; have c3b2 : (l0.length == l1.length) = false := by first | simpa using c3 | (simp at c3 ⊢; omega)
  obtain rfl := Option.some.inj H
  go_enter Tryz.func47, Tryz.ntmps47
  go_wp2
  repeat (go_quiet (fail); try go_wp2)
  go_ret
  exact ⟨by first | rfl | (simp; done) | (simp [*]; done), by repeat (first | exact Drawn0.refl _ | apply Drawn0.step)⟩
def agatelaw03_Ints_s.f (l0 l1 : List Int) : Option Bool := if l0.length < 9223372036854775807 then some (decide (l0 = l1)) else none
theorem agatelaw03_Ints_eval (l0 l1 : List Int) (hl : l0.length = l1.length) (hb : l0.length < 9223372036854775807) (d : Nat) : ∀ (k i : Nat), l0.length - i = d → i ≤ l0.length → d < k →
    agatelaw03_Ints.l0 k l0 l1 l0.length i = some (decide (l0.drop i = l1.drop i)) := by
  induction d with
  | zero =>
    intro k i hd hi hk
    obtain ⟨k, rfl⟩ : ∃ m, k = m + 1 := ⟨k - 1, by omega⟩
    simp only [agatelaw03_Ints.l0]
    rw [if_neg (by omega), List.drop_of_length_le (by omega), List.drop_of_length_le (by omega)]
    simp
  | succ d ih =>
    intro k i hd hi hk
    obtain ⟨k, rfl⟩ : ∃ m, k = m + 1 := ⟨k - 1, by omega⟩
    have h0 : i < l0.length := by omega
    have h1 : i < l1.length := by omega
    have e0 : rd l0 (i : Int) = l0[i] := by simp [rd, List.getD_eq_getElem?_getD, h0]
    have e1 : rd l1 (i : Int) = l1[i] := by simp [rd, List.getD_eq_getElem?_getD, h1]
    simp only [agatelaw03_Ints.l0, e0, e1]
    rw [if_pos (by omega), if_pos (by omega), if_pos (by omega), if_pos (by omega), List.drop_eq_getElem_cons h0, List.drop_eq_getElem_cons h1, wrap64_id (by omega) (by omega)]
    by_cases h : l0[i] = l1[i]
    · rw [if_pos h]
      refine (ih k (i + 1) (by omega) (by omega) (by omega)).trans ?_
      have hi : (l0[i] :: l0.drop (i + 1) = l1[i] :: l1.drop (i + 1)) ↔ l0.drop (i + 1) = l1.drop (i + 1) := by rw [List.cons.injEq]; exact ⟨fun g => g.2, fun g => ⟨h, g⟩⟩
      rw [decide_eq_decide.2 hi]
    · rw [if_neg h]
      have hi : ¬ (l0[i] :: l0.drop (i + 1) = l1[i] :: l1.drop (i + 1)) := by rw [List.cons.injEq]; exact fun g => h g.1
      rw [decide_eq_false hi]
theorem agatelaw03_Ints_s.ev (l0 l1 : List Int) (r) (h : agatelaw03_Ints_s.f l0 l1 = some r) : ∃ k, agatelaw03_Ints.f k l0 l1 = some r := by
  unfold agatelaw03_Ints_s.f at h
  split at h
  · rename_i hb
    rw [← h]
    refine ⟨l0.length + 1, ?_⟩
    unfold agatelaw03_Ints.f
    by_cases hl : l0.length = l1.length
    · rw [if_pos (by omega)]
      simpa using agatelaw03_Ints_eval l0 l1 hl hb l0.length (l0.length + 1) 0 (by omega) (by omega) (by omega)
    · rw [if_neg (by omega)]
      congr 1
      symm
      rw [decide_eq_false_iff_not]
      intro he
      exact hl (congrArg List.length he)
  · cases h
set_option maxHeartbeats 1000000 in
theorem agatelaw03_Ints_s.calls (A0 : Option Addr) (c0 : Nat) (l0 : List Int) (A1 : Option Addr) (c1 : Nat) (l1 : List Int) (r : Bool) (w : World) (hr0 : Kd.C (Kd.int .i64) w A0 l0.length l0) (hc0 : l0.length ≤ c0) (hr1 : Kd.C (Kd.int .i64) w A1 l1.length l1) (hc1 : l1.length ≤ c1) (h : agatelaw03_Ints_s.f l0 l1 = some r) :
    Calls Tryz.prog 47 #[.slice A0 l0.length c0, .slice A1 l1.length c1] w fun e w' => e = .returned (.bool r) ∧ Drawn0 w w' := by
  obtain ⟨k, hk⟩ := agatelaw03_Ints_s.ev l0 l1 _ h
  exact agatelaw03_Ints.calls k A0 c0 l0 A1 c1 l1 r w hr0 hc0 hr1 hc1 hk
def shape_Back.l0 : Nat → List Int → List Int → List Int → Int → Int → Option (List Int)
 | 0, _, _, _, _, _ => none
 | k + 1, x0, x5, x17, x18, x19 => if x19 < x18 then (if 0 ≤ x19 then (if x19 < (x17.length : Int) then (if x19 < (x0.length : Int) then (if (rd x0 x19) = 1 then (if x5.length < 17592186044416 then (shape_Back.l0 k x0 (x5 ++ [0]) x17 x18 (wrap64 (x19 + 1))) else (none)) else (if x5.length < 17592186044416 then (shape_Back.l0 k x0 (x5 ++ [rd x17 x19]) x17 x18 (wrap64 (x19 + 1))) else (none))) else (if x5.length < 17592186044416 then (shape_Back.l0 k x0 (x5 ++ [rd x17 x19]) x17 x18 (wrap64 (x19 + 1))) else (none))) else (none)) else (none)) else (some x5)
def shape_Back.f (k : Nat) (l0 : List Int) (l1 : List Int) : Option (List Int) := if 0 ≤ (mx (wrap64 ((l1.length : Int) - (l0.length : Int))) 0) then (if (mx (wrap64 ((l1.length : Int) - (l0.length : Int))) 0) ≤ (l1.length : Int) then (shape_Back.l0 k l0 ([] : List Int) (l1.drop ((mx (wrap64 ((l1.length : Int) - (l0.length : Int))) 0) : Int).toNat) ((l1.drop ((mx (wrap64 ((l1.length : Int) - (l0.length : Int))) 0) : Int).toNat).length : Int) 0) else (none)) else (none)
set_option maxHeartbeats 8000000 in
set_option maxRecDepth 100000 in
theorem shape_Back.calls (k : Nat) (A0 : Option Addr) (c0 : Nat) (l0 : List Int) (A1 : Option Addr) (c1 : Nat) (l1 : List Int) (r : List Int) (w : World) (hr0 : Kd.C (Kd.int .i64) w A0 l0.length l0) (hc0 : l0.length ≤ c0) (hr1 : Kd.C (Kd.int .i64) w A1 l1.length l1) (hc1 : l1.length ≤ c1) (h : shape_Back.f k l0 l1 = some r) :
  Calls Tryz.prog 86 #[.slice A0 l0.length c0, .slice A1 l1.length c1] w fun e w' => ∃ v0_ : Value, e = .returned (v0_) ∧ Kd.R (Kd.int .i64) 2 w' w.heap.size (fun _ => True) v0_ r ∧ Below w.heap.size w w' := by
 have HR0 := mk0 hr0; have HC0 := mk0 hc0; clear hr0 hc0; have HR1 := mk0 hr1; have HC1 := mk0 hc1; clear hr1 hc1; have HB := mk0 (Below.refl w.heap.size w); have H : (if 0 ≤ (mx (wrap64 ((l1.length : Int) - (l0.length : Int))) 0) then (if (mx (wrap64 ((l1.length : Int) - (l0.length : Int))) 0) ≤ (l1.length : Int) then (shape_Back.l0 k l0 ([] : List Int) (l1.drop ((mx (wrap64 ((l1.length : Int) - (l0.length : Int))) 0) : Int).toNat) ((l1.drop ((mx (wrap64 ((l1.length : Int) - (l0.length : Int))) 0) : Int).toNat).length : Int) 0) else (none)) else (none)) = some r := h; clear h; obtain ⟨ji3, hji3⟩ : ∃ j_ : Int, (mx (wrap64 ((l1.length : Int) - (l0.length : Int))) 0) = j_ := ⟨_, rfl⟩; replace H : (if 0 ≤ (ji3) then (if (ji3) ≤ (l1.length : Int) then (shape_Back.l0 k l0 ([] : List Int) (l1.drop ((ji3) : Int).toNat) ((l1.drop ((ji3) : Int).toNat).length : Int) 0) else (none)) else (none)) = some r := by first | (rw [hji3] at H; exact H) | (simp only [hji3] at H ⊢; exact H)
 (try (have hji3l : 0 ≤ ji3 := by (rw [← hji3]; unfold mx; (repeat' split) <;> omega)))
 (try (have hji3m : 0 ≤ ji3 := by omega))
 have hji3_ : (if (wrap64 ((l1.length : Int) - (l0.length : Int))) < 0 then 0 else (wrap64 ((l1.length : Int) - (l0.length : Int)))) = ji3 := hji3; replace H := ifS H; obtain ⟨c4, H⟩ := H; have c4b0 := eq_true c4; have c4b1 := decide_eq_true c4; clear c4; replace H := ifS H; obtain ⟨c5, H⟩ := H; have c5b0 := eq_true c5; have c5b1 := decide_eq_true c5; clear c5; have H' := mk0 H; clear H; obtain ⟨i06, hi06, _, hsz6, _⟩ := info_parts info2; obtain ⟨A6, hcut6, hA6, hC6⟩ := print_drop_of (P := Tryz.prog) (Value.int .i64) 0 31 2 .i64 Tryz.underlying31 hi06 hsz6 A1 c1 l1 (ji3) (ofd) (ofd) HC1.out; have HR101 := mk0 (Kd.C_of_reads (h1 := fun _ => rfl) (hA6 _ (Kd.reads_of_C HR1.out))); have HC101 := mk0 hC6; clear hA6 hC6 hi06 hsz6
 go_enter Tryz.func86, Tryz.ntmps86
 go_wp2
 go_loopg [5, 19] k (fun kq v5 v19 w' => ∃ (x5_1 : List Int) (x19_1 : Int), v19 = .int .i64 x19_1 ∧ Aside0 (shape_Back.l0 kq l0 x5_1 (l1.drop ((ji3) : Int).toNat) ((l1.drop ((ji3) : Int).toNat).length : Int) x19_1 = some r) ∧ Aside0 (kq ≤ k) ∧ Aside0 (Kd.R (Kd.int .i64) 2 w' w.heap.size (fun _ => True) v5 x5_1) ∧ Aside0 (Below w.heap.size w w'))
 case atStart => exact ⟨(([] : List Int)), (0), cl0, H', ⟨Nat.le_refl _⟩, ⟨by first | exact Kd.R_nil _ _ _ _ _ | exact Kd.N_nil _ _ _ _ _ | exact Kd.V_nil _ _ _ _ _ | exact Kd.Q_nil _ _ _ _ _ | exact Kd.S_nil _ _ _ _ _⟩, ⟨hbA HB⟩⟩
 case round =>
  clear H'; try clear c1; try clear c4; try clear c4b0; try clear c4b1; try clear c5; try clear c5b0; try clear c5b1
  obtain ⟨x5_1, x19_1, rfl, HA, HK1, HO_5, HB⟩ := hrel
  cases gk with
  | zero => exact absurd HA.out (by simp [shape_Back.l0])
  | succ k1 =>
   have H := HA.out; clear HA
   simp only [shape_Back.l0] at H
   by_cases c7 : x19_1 < ((l1.drop ((ji3) : Int).toNat).length : Int)
   ·
    rw [if_pos c7] at H; have c7b0 := decide_eq_true c7; try have c7b0n := c7b0
    try simp only [List.length_drop] at c7b0n
    clear c7; replace H := ifS H; obtain ⟨c8, H⟩ := H; have c8b0 := decide_eq_true c8; clear c8
    by_cases c9 : x19_1 < ((l1.drop ((ji3) : Int).toNat).length : Int)
    ·
     rw [if_pos c9] at H; have c9b0 := decide_eq_true c9; try have c9b0n := c9b0
     try simp only [List.length_drop] at c9b0n
     clear c9
     by_cases c10 : x19_1 < (l0.length : Int)
     ·
      rw [if_pos c10] at H; have c10b0 := decide_eq_true c10; clear c10
      by_cases c11 : (rd l0 x19_1) = 1
      ·
       rw [if_pos c11] at H; have c11b0 := beq_iff_eq.mpr c11; have c11b1 := bne_eq_false_iff_eq.mpr c11; clear c11; replace H := ifS H; obtain ⟨c12, H⟩ := H; have LMc12 := mk0 c12; clear c12; obtain ⟨y104, hy104⟩ : ∃ y_ : List Int, y_ = (x5_1 ++ [0]) := ⟨_, rfl⟩; replace H : (shape_Back.l0 k1 l0 y104 (l1.drop ((ji3) : Int).toNat) ((l1.drop ((ji3) : Int).toNat).length : Int) (wrap64 (x19_1 + 1))) = some r := by first | (rw [hy104]; with_reducible exact H) | (have H2_ := (Option.bind_some _ _).symm.trans H; rw [hy104]; with_reducible exact H2_) | (have H2_ := (Option.bind_some _ _).symm.trans H; with_reducible exact H2_) | with_reducible exact H | (rw [hy104]; exact H) | exact H
       have Ny104 := mk0 hy104; clear hy104; have H' := mk0 H; clear H; have p102 : 0 ≤ (x19_1 : Int) := ofd; have q102 : x19_1 < ((l1.drop ((ji3) : Int).toNat).length : Int) := ofd; have q102n := q102
       try simp only [List.length_drop] at q102n
       replace q102n := eq_true q102n; obtain ⟨ad102, e102, hx102_0⟩ := Kd.at_int HR101.out x19_1 p102 q102; cases e102; replace hx102_0 := hbc HB hx102_0; replace p102 := eq_true p102; replace q102 := eq_true q102; have p103 : 0 ≤ (x19_1 : Int) := ofd; have q103 : x19_1 < (l0.length : Int) := ofd; obtain ⟨ad103, e103, hx103_0⟩ := Kd.at_int HR0.out x19_1 p103 q103; cases e103; replace hx103_0 := hbc HB hx103_0; replace p103 := eq_true p103; replace q103 := eq_true q103
       go_wp2_with (first | ((with_reducible refine gate_builtin (b := .append) (xs := #[.tmp 35, .tmp 37]) rfl ?_); at_builtin; refine Kd.R_append (Kd.int .i64) (w0 := w) w.heap.size rfl (.tmp 35) (.tmp 37) 31 2 (.int .i64 0) 8 rfl Tryz.underlying31 info2 rfl (by decide) (by omega) u5 x5_1 0 [.int .i64 0] (fun _ => True) (fun _ => False) rfl rfl ?aP (fun _ hk => hk.elim) ?aF ?aO ?aB ?aS ?aL ?_; (case aP => exact rfl); (case aB => exact (hbA HB)); (case aF => exact (fun _ _ => trivial)); (case aO => exact (krA HO_5)); (case aS => exact (below_size (hbA HB))); (case aL => have := LMc12.out; omega); intro v105 w13 ho hb hg hat; rw [← Ny104.out] at ho; replace HB := mk0 hb; have HO106 := mk0 ho; clear HO_5; clear ho hb hg hat))
       go_roundg k1
       case measure => have := HK1.out; omega
       case rel => exact ⟨(y104), (wrap64 (x19_1 + 1)), cl0, H', cl2 HK1, ⟨krA HO106⟩, ⟨hbA HB⟩⟩
      ·
       rw [if_neg c11] at H; have c11b0 := beq_eq_false_iff_ne.mpr c11; have c11b1 := bne_iff_ne.mpr c11; replace H := ifS H; obtain ⟨c14, H⟩ := H; have LMc14 := mk0 c14; clear c14; obtain ⟨y107, hy107⟩ : ∃ y_ : List Int, y_ = (x5_1 ++ [rd (l1.drop ((ji3) : Int).toNat) x19_1]) := ⟨_, rfl⟩; replace H : (shape_Back.l0 k1 l0 y107 (l1.drop ((ji3) : Int).toNat) ((l1.drop ((ji3) : Int).toNat).length : Int) (wrap64 (x19_1 + 1))) = some r := by first | (rw [hy107]; with_reducible exact H) | (have H2_ := (Option.bind_some _ _).symm.trans H; rw [hy107]; with_reducible exact H2_) | (have H2_ := (Option.bind_some _ _).symm.trans H; with_reducible exact H2_) | with_reducible exact H | (rw [hy107]; exact H) | exact H
       have Ny107 := mk0 hy107; clear hy107; have H' := mk0 H; clear H; have p102 : 0 ≤ (x19_1 : Int) := ofd; have q102 : x19_1 < ((l1.drop ((ji3) : Int).toNat).length : Int) := ofd; have q102n := q102
       try simp only [List.length_drop] at q102n
       replace q102n := eq_true q102n; obtain ⟨ad102, e102, hx102_0⟩ := Kd.at_int HR101.out x19_1 p102 q102; cases e102; replace hx102_0 := hbc HB hx102_0; replace p102 := eq_true p102; replace q102 := eq_true q102; have p103 : 0 ≤ (x19_1 : Int) := ofd; have q103 : x19_1 < (l0.length : Int) := ofd; obtain ⟨ad103, e103, hx103_0⟩ := Kd.at_int HR0.out x19_1 p103 q103; cases e103; replace hx103_0 := hbc HB hx103_0; replace p103 := eq_true p103; replace q103 := eq_true q103
       go_wp2_with (first | ((with_reducible refine gate_builtin (b := .append) (xs := #[.tmp 35, .tmp 37]) rfl ?_); at_builtin; refine Kd.R_append (Kd.int .i64) (w0 := w) w.heap.size rfl (.tmp 35) (.tmp 37) 31 2 (.int .i64 0) 8 rfl Tryz.underlying31 info2 rfl (by decide) (by omega) u5 x5_1 (rd (l1.drop ((ji3) : Int).toNat) x19_1) [.int .i64 (rd (l1.drop ((ji3) : Int).toNat) x19_1)] (fun _ => True) (fun _ => False) rfl rfl ?aP (fun _ hk => hk.elim) ?aF ?aO ?aB ?aS ?aL ?_; (case aP => exact rfl); (case aB => exact (hbA HB)); (case aF => exact (fun _ _ => trivial)); (case aO => exact (krA HO_5)); (case aS => exact (below_size (hbA HB))); (case aL => have := LMc14.out; omega); intro v108 w15 ho hb hg hat; rw [← Ny107.out] at ho; replace HB := mk0 hb; have HO109 := mk0 ho; clear HO_5; clear ho hb hg hat))
       go_roundg k1
       case measure => have := HK1.out; omega
       case rel => exact ⟨(y107), (wrap64 (x19_1 + 1)), cl0, H', cl2 HK1, ⟨krA HO109⟩, ⟨hbA HB⟩⟩
     ·
      rw [if_neg c10] at H; have c10b0 := decide_eq_false c10; clear c10; replace H := ifS H; obtain ⟨c16, H⟩ := H; have LMc16 := mk0 c16; clear c16; obtain ⟨y110, hy110⟩ : ∃ y_ : List Int, y_ = (x5_1 ++ [rd (l1.drop ((ji3) : Int).toNat) x19_1]) := ⟨_, rfl⟩; replace H : (shape_Back.l0 k1 l0 y110 (l1.drop ((ji3) : Int).toNat) ((l1.drop ((ji3) : Int).toNat).length : Int) (wrap64 (x19_1 + 1))) = some r := by first | (rw [hy110]; with_reducible exact H) | (have H2_ := (Option.bind_some _ _).symm.trans H; rw [hy110]; with_reducible exact H2_) | (have H2_ := (Option.bind_some _ _).symm.trans H; with_reducible exact H2_) | with_reducible exact H | (rw [hy110]; exact H) | exact H
      have Ny110 := mk0 hy110; clear hy110; have H' := mk0 H; clear H; have p102 : 0 ≤ (x19_1 : Int) := ofd; have q102 : x19_1 < ((l1.drop ((ji3) : Int).toNat).length : Int) := ofd; have q102n := q102
      try simp only [List.length_drop] at q102n
      replace q102n := eq_true q102n; obtain ⟨ad102, e102, hx102_0⟩ := Kd.at_int HR101.out x19_1 p102 q102; cases e102; replace hx102_0 := hbc HB hx102_0; replace p102 := eq_true p102; replace q102 := eq_true q102
      go_wp2_with (first | ((with_reducible refine gate_builtin (b := .append) (xs := #[.tmp 35, .tmp 37]) rfl ?_); at_builtin; refine Kd.R_append (Kd.int .i64) (w0 := w) w.heap.size rfl (.tmp 35) (.tmp 37) 31 2 (.int .i64 0) 8 rfl Tryz.underlying31 info2 rfl (by decide) (by omega) u5 x5_1 (rd (l1.drop ((ji3) : Int).toNat) x19_1) [.int .i64 (rd (l1.drop ((ji3) : Int).toNat) x19_1)] (fun _ => True) (fun _ => False) rfl rfl ?aP (fun _ hk => hk.elim) ?aF ?aO ?aB ?aS ?aL ?_; (case aP => exact rfl); (case aB => exact (hbA HB)); (case aF => exact (fun _ _ => trivial)); (case aO => exact (krA HO_5)); (case aS => exact (below_size (hbA HB))); (case aL => have := LMc16.out; omega); intro v111 w17 ho hb hg hat; rw [← Ny110.out] at ho; replace HB := mk0 hb; have HO112 := mk0 ho; clear HO_5; clear ho hb hg hat))
      go_roundg k1
      case measure => have := HK1.out; omega
      case rel => exact ⟨(y110), (wrap64 (x19_1 + 1)), cl0, H', cl2 HK1, ⟨krA HO112⟩, ⟨hbA HB⟩⟩
    ·
     exact absurd (of_decide_eq_true c7b0) c9
   ·
    rw [if_neg c7] at H; have c7b0 := decide_eq_false c7; try have c7b0n := c7b0
    try simp only [List.length_drop] at c7b0n
    clear c7; obtain rfl := Option.some.inj H
    go_wp2
    go_ret
    exact ⟨_, by first | rfl | (simp [errW_none, errW_some] <;> rfl) | (simp only [← hji3]; first | rfl | (simp [errW_none, errW_some] <;> rfl)) | (simp [*, errW_none, errW_some] <;> rfl), krA HO_5, hbA HB⟩
theorem rd_mid (pre : List Int) (d : Int) (ds : List Int) (i : Int) (h : i = (pre.length : Int)) : rd (pre ++ d :: ds) i = d := by
  subst h; unfold rd; simp
def backL : List Int → List Int → List Int
  | d :: ds, p :: ps => (if d = 1 then 0 else p) :: backL ds ps
  | [], ps => ps
  | _, [] => []
def shape_Back_s.f (l0 l1 : List Int) : Option (List Int) := if l0.length ≤ 1000000 ∧ l1.length ≤ 1000000 then some (backL l0 (l1.drop (l1.length - l0.length))) else none
theorem shapeBack_l0 (ps : List Int) : ∀ (ds pre qre out : List Int) (k : Nat), ps.length < k → out.length ≤ pre.length → pre.length + ps.length ≤ 1000000 → pre.length = qre.length ∨ ds = [] → qre.length ≤ pre.length →
    shape_Back.l0 k (qre ++ ds) out (pre ++ ps) ((pre ++ ps).length : Int) (pre.length : Int) = some (out ++ backL ds ps) := by
  induction ps with
  | nil =>
    intro ds pre qre out k hk ho hb hq hr
    obtain ⟨k, rfl⟩ : ∃ m, k = m + 1 := ⟨k - 1, by omega⟩
    rw [shape_Back.l0, if_neg (by simp)]
    cases ds <;> simp [backL]
  | cons p ps ih =>
    intro ds pre qre out k hk ho hb hq hr
    rw [List.length_cons] at hk hb
    obtain ⟨k, rfl⟩ : ∃ m, k = m + 1 := ⟨k - 1, by omega⟩
    have ew : wrap64 ((pre.length : Int) + 1) = (((pre ++ [p]).length : Nat) : Int) := by
      rw [wrap64_id (by omega) (by omega), List.length_append, List.length_singleton]; rfl
    have eq1 : pre ++ p :: ps = (pre ++ [p]) ++ ps := by simp
    rw [shape_Back.l0, if_pos (by rw [List.length_append, List.length_cons]; omega), if_pos (by omega), if_pos (by rw [List.length_append, List.length_cons]; omega), rd_mid pre p ps _ rfl, ew]
    clear ew
    cases ds with
    | nil =>
      rw [List.append_nil, if_neg (by omega), if_pos (by omega), eq1]
      have := ih [] (pre ++ [p]) qre (out ++ [p]) k (by omega) (by simp; omega) (by simp; omega) (Or.inr rfl) (by simp; omega)
      rw [List.append_nil] at this
      rw [this]; simp [backL]
    | cons d ds =>
      have hq : pre.length = qre.length := by rcases hq with h | h; exact h; cases h
      have eq2 : qre ++ d :: ds = (qre ++ [d]) ++ ds := by simp
      rw [if_pos (by rw [List.length_append, List.length_cons]; omega), rd_mid qre d ds _ (by omega), eq1, eq2, backL]
      by_cases h : d = 1
      · rw [if_pos h, if_pos (by omega), if_pos h, ih ds (pre ++ [p]) (qre ++ [d]) (out ++ [0]) k (by omega) (by simp; omega) (by simp; omega) (Or.inl (by simp; omega)) (by simp; omega)]
        simp
      · rw [if_neg h, if_pos (by omega), if_neg h, ih ds (pre ++ [p]) (qre ++ [d]) (out ++ [p]) k (by omega) (by simp; omega) (by simp; omega) (Or.inl (by simp; omega)) (by simp; omega)]
        simp
theorem shape_Back_s.ev (l0 l1 : List Int) (r) (h : shape_Back_s.f l0 l1 = some r) : ∃ k, shape_Back.f k l0 l1 = some r := by
  unfold shape_Back_s.f at h
  split at h
  · rename_i hs
    obtain ⟨h0, h1⟩ := hs
    rw [← h]
    refine ⟨l1.length + 1, ?_⟩
    unfold shape_Back.f
    have em : mx (wrap64 ((l1.length : Int) - (l0.length : Int))) 0 = ((l1.length - l0.length : Nat) : Int) := by
      rw [wrap64_id (by omega) (by omega)]; unfold mx; split <;> omega
    rw [em, if_pos (by omega), if_pos (by omega), Int.toNat_natCast]
    exact shapeBack_l0 _ l0 [] [] [] _ (by rw [List.length_drop]; omega) (by simp) (by rw [List.length_drop]; simp; omega) (Or.inl rfl) (Nat.le_refl _)
  · cases h
set_option maxHeartbeats 1000000 in
theorem shape_Back_s.calls (A0 : Option Addr) (c0 : Nat) (l0 : List Int) (A1 : Option Addr) (c1 : Nat) (l1 : List Int) (r : List Int) (w : World) (hr0 : Kd.C (Kd.int .i64) w A0 l0.length l0) (hc0 : l0.length ≤ c0) (hr1 : Kd.C (Kd.int .i64) w A1 l1.length l1) (hc1 : l1.length ≤ c1) (h : shape_Back_s.f l0 l1 = some r) :
    Calls Tryz.prog 86 #[.slice A0 l0.length c0, .slice A1 l1.length c1] w fun e w' => ∃ v0_ : Value, e = .returned (v0_) ∧ Kd.R (Kd.int .i64) 2 w' w.heap.size (fun _ => True) v0_ r ∧ Below w.heap.size w w' := by
  obtain ⟨k, hk⟩ := shape_Back_s.ev l0 l1 _ h
  exact shape_Back.calls k A0 c0 l0 A1 c1 l1 r w hr0 hc0 hr1 hc1 hk
def shape_wide.l0 : Nat → List Int → List Int → Int → Int → Option (List Int)
 | 0, _, _, _, _ => none
 | k + 1, x0, x5, x9, x10 => if x10 < x9 then (if x5.length < 17592186044416 then (shape_wide.l0 k x0 (x5 ++ [1]) x9 (wrap64 (x10 + 1))) else (none)) else (if x5.length + x0.length < 17592186044416 then (some (x5 ++ x0)) else (none))
def shape_wide.f (k : Nat) (l0 : List Int) (a1 : Int) : Option (List Int) := shape_wide.l0 k l0 ([] : List Int) (wrap64 (a1 - (l0.length : Int))) 0
set_option maxHeartbeats 8000000 in
set_option maxRecDepth 100000 in
theorem shape_wide.calls (k : Nat) (A0 : Option Addr) (c0 : Nat) (l0 : List Int) (a1 : Int) (r : List Int) (w : World) (hr0 : Kd.C (Kd.int .i64) w A0 l0.length l0) (hc0 : l0.length ≤ c0) (h : shape_wide.f k l0 a1 = some r) :
  Calls Tryz.prog 98 #[.slice A0 l0.length c0, .int .i64 a1] w fun e w' => ∃ v0_ : Value, e = .returned (v0_) ∧ Kd.R (Kd.int .i64) 2 w' w.heap.size (fun _ => True) v0_ r ∧ Below w.heap.size w w' := by
 have HR0 := mk0 hr0; have HC0 := mk0 hc0; clear hr0 hc0; have HB := mk0 (Below.refl w.heap.size w); have H : (shape_wide.l0 k l0 ([] : List Int) (wrap64 (a1 - (l0.length : Int))) 0) = some r := h; clear h; have H' := mk0 H; clear H
 go_enter Tryz.func98, Tryz.ntmps98
 go_wp2
 go_loopg [5, 10] k (fun kq v5 v10 w' => ∃ (x5_1 : List Int) (x10_1 : Int), v10 = .int .i64 x10_1 ∧ Aside0 (shape_wide.l0 kq l0 x5_1 (wrap64 (a1 - (l0.length : Int))) x10_1 = some r) ∧ Aside0 (kq ≤ k) ∧ Aside0 (Kd.R (Kd.int .i64) 2 w' w.heap.size (fun _ => True) v5 x5_1) ∧ Aside0 (Below w.heap.size w w'))
 case atStart => exact ⟨(([] : List Int)), (0), cl0, H', ⟨Nat.le_refl _⟩, ⟨by first | exact Kd.R_nil _ _ _ _ _ | exact Kd.N_nil _ _ _ _ _ | exact Kd.V_nil _ _ _ _ _ | exact Kd.Q_nil _ _ _ _ _ | exact Kd.S_nil _ _ _ _ _⟩, ⟨hbA HB⟩⟩
 case round =>
  clear H'; obtain ⟨x5_1, x10_1, rfl, HA, HK1, HO_5, HB⟩ := hrel
  cases gk with
  | zero => exact absurd HA.out (by simp [shape_wide.l0])
  | succ k1 =>
   have H := HA.out; clear HA
   simp only [shape_wide.l0] at H
   by_cases c3 : x10_1 < (wrap64 (a1 - (l0.length : Int)))
   ·
    rw [if_pos c3] at H; have c3b0 := decide_eq_true c3; clear c3; replace H := ifS H; obtain ⟨c4, H⟩ := H; have LMc4 := mk0 c4; clear c4; obtain ⟨y101, hy101⟩ : ∃ y_ : List Int, y_ = (x5_1 ++ [1]) := ⟨_, rfl⟩; replace H : (shape_wide.l0 k1 l0 y101 (wrap64 (a1 - (l0.length : Int))) (wrap64 (x10_1 + 1))) = some r := by first | (rw [hy101]; with_reducible exact H) | (have H2_ := (Option.bind_some _ _).symm.trans H; rw [hy101]; with_reducible exact H2_) | (have H2_ := (Option.bind_some _ _).symm.trans H; with_reducible exact H2_) | with_reducible exact H | (rw [hy101]; exact H) | exact H
    have Ny101 := mk0 hy101; clear hy101; have H' := mk0 H; clear H
    go_wp2_with (first | ((with_reducible refine gate_builtin (b := .append) (xs := #[.tmp 12, .tmp 13]) rfl ?_); at_builtin; refine Kd.R_append (Kd.int .i64) (w0 := w) w.heap.size rfl (.tmp 12) (.tmp 13) 31 2 (.int .i64 0) 8 rfl Tryz.underlying31 info2 rfl (by decide) (by omega) u5 x5_1 1 [.int .i64 1] (fun _ => True) (fun _ => False) rfl rfl ?aP (fun _ hk => hk.elim) ?aF ?aO ?aB ?aS ?aL ?_; (case aP => exact rfl); (case aB => exact (hbA HB)); (case aF => exact (fun _ _ => trivial)); (case aO => exact (krA HO_5)); (case aS => exact (below_size (hbA HB))); (case aL => have := LMc4.out; omega); intro v102 w5 ho hb hg hat; rw [← Ny101.out] at ho; replace HB := mk0 hb; have HO103 := mk0 ho; clear HO_5; clear ho hb hg hat))
    go_roundg k1
    case measure => have := HK1.out; omega
    case rel => exact ⟨(y101), (wrap64 (x10_1 + 1)), cl0, H', cl2 HK1, ⟨krA HO103⟩, ⟨hbA HB⟩⟩
   ·
    rw [if_neg c3] at H; have c3b0 := decide_eq_false c3; clear c3; replace H := ifS H; obtain ⟨c6, H⟩ := H; have LMc6 := mk0 c6; clear c6; obtain ⟨y104, hy104⟩ : ∃ y_ : List Int, y_ = (x5_1 ++ l0) := ⟨_, rfl⟩; replace H : (some y104) = some r := by first | (rw [hy104]; with_reducible exact H) | (have H2_ := (Option.bind_some _ _).symm.trans H; rw [hy104]; with_reducible exact H2_) | (have H2_ := (Option.bind_some _ _).symm.trans H; with_reducible exact H2_) | with_reducible exact H | (rw [hy104]; exact H) | exact H
    have Ny104 := mk0 hy104; clear hy104; obtain rfl := Option.some.inj H
    go_wp2_with (first | ((with_reducible refine gate_builtin (b := .append) (xs := #[.tmp 16, .tmp 17]) rfl ?_); at_builtin; refine Kd.R_append_rows (Kd.int .i64) (w0 := w) w.heap.size rfl (.tmp 16) (.tmp 17) 31 2 (.int .i64 0) 8 rfl Tryz.underlying31 info2 rfl (by decide) (by omega) u5 x5_1 l0 _ _ _ (fun _ => True) (fun _ => False) rfl rfl ?aO ?aR (fun _ _ h => h) (fun _ h => h.elim) ?aF ?aB ?aS ?aL ?_; (case aR => repeat (first | exact (Kd.C_below HR0.out HB.out) | (with_reducible refine Kd.C_alloc ?_ _) | (with_reducible refine Kd.C_drewN ?_ _) | (with_reducible refine Kd.C_drew ?_))); (case aB => exact (hbA HB)); (case aF => exact (fun _ _ => trivial)); (case aO => exact (krA HO_5)); (case aS => exact (below_size (hbA HB))); (case aL => have := LMc6.out; omega); intro v105 w7 ho hb hg hat; rw [← Ny104.out] at ho; replace HB := mk0 hb; have HO106 := mk0 ho; clear HO_5; clear ho hb hg hat))
    go_ret
    exact ⟨_, cl3, krA HO106, hbA HB⟩
def shape_wide_s.f (l0 : List Int) (a1 : Int) : Option (List Int) := if 0 ≤ a1 ∧ a1 ≤ 1000000 ∧ l0.length ≤ 1000000 then some (List.replicate (a1.toNat - l0.length) 1 ++ l0) else none
theorem shapeWide_l0 (l : List Int) (hl : l.length ≤ 1000000) (m : Nat) (hm : m ≤ 1000000) (d : Nat) : ∀ (k i : Nat), m - i = d → i ≤ m → d < k →
    shape_wide.l0 k l (List.replicate i 1) (m : Int) i = some (List.replicate m 1 ++ l) := by
  induction d with
  | zero =>
    intro k i hd hi hk
    obtain ⟨k, rfl⟩ : ∃ m, k = m + 1 := ⟨k - 1, by omega⟩
    obtain rfl : i = m := by omega
    rw [shape_wide.l0, if_neg (by omega), if_pos (by rw [List.length_replicate]; omega)]
  | succ d ih =>
    intro k i hd hi hk
    obtain ⟨k, rfl⟩ : ∃ m, k = m + 1 := ⟨k - 1, by omega⟩
    have ew : wrap64 ((i : Int) + 1) = ((i + 1 : Nat) : Int) := by rw [wrap64_id (by omega) (by omega)]; omega
    rw [shape_wide.l0, if_pos (by omega), if_pos (by rw [List.length_replicate]; omega), ew, ← List.replicate_succ']
    clear ew
    exact ih k (i + 1) (by omega) (by omega) (by omega)
theorem shape_wide_s.ev (l0 : List Int) (a1 : Int) (r) (h : shape_wide_s.f l0 a1 = some r) : ∃ k, shape_wide.f k l0 a1 = some r := by
  unfold shape_wide_s.f at h
  split at h
  · rename_i hs
    obtain ⟨h0, h1, h2⟩ := hs
    rw [← h]
    refine ⟨a1.toNat + 1, ?_⟩
    unfold shape_wide.f
    rw [wrap64_id (by omega) (by omega)]
    by_cases hc : (l0.length : Int) ≤ a1
    · have e : a1 - (l0.length : Int) = ((a1.toNat - l0.length : Nat) : Int) := by omega
      rw [e]
      exact shapeWide_l0 l0 h2 _ (by omega) _ (a1.toNat + 1) 0 rfl (by omega) (by omega)
    · have e : a1.toNat - l0.length = 0 := by omega
      rw [shape_wide.l0, if_neg (by omega), if_pos (by simp; omega), e]
      rfl
  · cases h
set_option maxHeartbeats 1000000 in
theorem shape_wide_s.calls (A0 : Option Addr) (c0 : Nat) (l0 : List Int) (a1 : Int) (r : List Int) (w : World) (hr0 : Kd.C (Kd.int .i64) w A0 l0.length l0) (hc0 : l0.length ≤ c0) (h : shape_wide_s.f l0 a1 = some r) :
    Calls Tryz.prog 98 #[.slice A0 l0.length c0, .int .i64 a1] w fun e w' => ∃ v0_ : Value, e = .returned (v0_) ∧ Kd.R (Kd.int .i64) 2 w' w.heap.size (fun _ => True) v0_ r ∧ Below w.heap.size w w' := by
  obtain ⟨k, hk⟩ := shape_wide_s.ev l0 a1 _ h
  exact shape_wide.calls k A0 c0 l0 a1 r w hr0 hc0 hk
end Go.Proofs.YtgmggompdidcoaaGreatDoor.X
namespace Go.Proofs.YtgmggompdidcoaaGreatDoor.X
open Go.RowKit Go.Proofs.YtgmggompdidcoaaGreatDoorW.PrintWords Go.Proofs.YtgmggompdidcoaaGreatDoorW.PrintLast Go.Proofs.YtgmggompdidcoaaGreatDoorW.PrintMore
attribute [local go_sem] max2_int min2_int max_two min_two max_three min_three max_four min_four
set_option linter.unusedVariables false
set_option linter.unusedSimpArgs false
mutual
def shape_Broadcast.l0 : Nat → List Int → List Int → List (List Int) → Int → Int → Option (List Int × Int)
 | 0, _, _, _, _, _ => none
 | k + 1, x0, x1, x19, x20, x21 => if x21 < x20 then (if 0 ≤ x21 then (if x21 < (x19.length : Int) then ((shape_Size_s.f (rd_L4 x19 x21)).bind fun bt105 => (if bt105.2 = 0 then (shape_Broadcast.l0 k x0 x1 x19 x20 (wrap64 (x21 + 1))) else (some (([] : List Int), bt105.2)))) else (none)) else (none)) else ((shape_wide_s.f x0 (mx (x0.length : Int) (x1.length : Int))).bind fun t107 => ((shape_wide_s.f x1 (mx (x0.length : Int) (x1.length : Int))).bind fun t110 => (shape_Broadcast.l1 k t107 t110 ([] : List Int) (mx (x0.length : Int) (x1.length : Int)) 0)))
def shape_Broadcast.l1 : Nat → List Int → List Int → List Int → Int → Int → Option (List Int × Int)
 | 0, _, _, _, _, _ => none
 | k + 1, x11, x12, x13, x45, x46 => if x46 < x45 then (if 0 ≤ x46 then (if x46 < (x11.length : Int) then (if x46 < (x12.length : Int) then (if (rd x11 x46) = (rd x12 x46) then (shape_Broadcast.j2 k x11 x12 x13 x46 x45 x46 true) else (shape_Broadcast.j2 k x11 x12 x13 x46 x45 x46 ((rd x12 x46) == 1))) else (none)) else (none)) else (none)) else ((shape_Size_s.f x13).bind fun bt113 => (if bt113.2 = 0 then (some (x13, 0)) else (some (([] : List Int), bt113.2))))
def shape_Broadcast.j2 : Nat → List Int → List Int → List Int → Int → Int → Int → Bool → Option (List Int × Int)
 | 0, _, _, _, _, _, _, _ => none
 | k + 1, x11, x12, x13, x14, x45, x46, x49 => if x49 = true then (if 0 ≤ x14 then (if x14 < (x11.length : Int) then (if x13.length < 17592186044416 then (shape_Broadcast.l1 k x11 x12 (x13 ++ [rd x11 x14]) x45 (wrap64 (x46 + 1))) else (none)) else (none)) else (none)) else (if 0 ≤ x14 then (if x14 < (x11.length : Int) then (if (rd x11 x14) = 1 then (if x14 < (x12.length : Int) then (if x13.length < 17592186044416 then (shape_Broadcast.l1 k x11 x12 (x13 ++ [rd x12 x14]) x45 (wrap64 (x46 + 1))) else (none)) else (none)) else (some (([] : List Int), 6))) else (none)) else (none))
end
def shape_Broadcast.f (k : Nat) (l0 : List Int) (l1 : List Int) : Option (List Int × Int) := (some (([l0, l1] : List (List Int)) : List (List Int))).bind fun y101 => (shape_Broadcast.l0 k l0 l1 y101 (y101.length : Int) 0)
attribute [local irreducible] Calls
set_option maxHeartbeats 8000000 in
set_option maxRecDepth 100000 in
theorem shape_Broadcast.calls (k : Nat) (P0_ : Nat → Prop) (A0 : Option Addr) (c0 : Nat) (l0 : List Int) (P1_ : Nat → Prop) (A1 : Option Addr) (c1 : Nat) (l1 : List Int) (r1 : List Int) (r2 : Int) (w : World) (hs0 : Kd.V (Kd.int .i64) 2 w w.heap.size (fun k_ => P0_ k_) (.slice A0 l0.length c0) l0) (hs1 : Kd.V (Kd.int .i64) 2 w w.heap.size (fun k_ => P1_ k_) (.slice A1 l1.length c1) l1) (h : shape_Broadcast.f k l0 l1 = some (r1, r2)) :
  Calls Tryz.prog 85 #[.slice A0 l0.length c0, .slice A1 l1.length c1] w fun e w' => ∃ v0_ : Value, e = .returned (.tuple #[v0_, .int .i64 r2]) ∧ Kd.R (Kd.int .i64) 2 w' w.heap.size (fun k_ => (w.heap.size ≤ k_)) v0_ r1 ∧ Below w.heap.size w w' := by
 have HO0 := mk0 (show Kd.V (Kd.int .i64) 2 w w.heap.size (fun k_ => ((P0_ k_ ∨ P1_ k_) ∨ w.heap.size ≤ k_)) (.slice A0 l0.length c0) l0 from Kd.V_mono hs0 (fun k_ hk => .inl (.inl hk))); have HO1 := mk0 (show Kd.V (Kd.int .i64) 2 w w.heap.size (fun k_ => ((P0_ k_ ∨ P1_ k_) ∨ w.heap.size ≤ k_)) (.slice A1 l1.length c1) l1 from Kd.V_mono hs1 (fun k_ hk => .inl (.inr hk))); have HB := mk0 (Below.refl w.heap.size w); have H : ((some (([l0, l1] : List (List Int)) : List (List Int))).bind fun y101 => (shape_Broadcast.l0 k l0 l1 y101 (y101.length : Int) 0)) = some (r1, r2) := h; clear h; obtain ⟨y101, hy101⟩ : ∃ y_ : List (List Int), y_ = (([l0, l1] : List (List Int))) := ⟨_, rfl⟩; replace H : (shape_Broadcast.l0 k l0 l1 y101 (y101.length : Int) 0) = some (r1, r2) := by first | (rw [hy101]; with_reducible exact H) | (have H2_ := (Option.bind_some _ _).symm.trans H; rw [hy101]; with_reducible exact H2_) | (have H2_ := (Option.bind_some _ _).symm.trans H; with_reducible exact H2_) | with_reducible exact H | (rw [hy101]; exact H) | exact H
 have Ny101 := mk0 hy101; clear hy101; have H' := mk0 H; clear H
 go_enter Tryz.func85, Tryz.ntmps85
 go_wp2_with (first | ((with_reducible refine gate_dst (N := 19) rfl ?_); refine Kd.N_lit (Kd.slice 2 (Kd.int .i64)) _ 31 ?hg (N' := 19) ?hd (xs := ([l0, l1] : List (List Int))) (inner := [.slice A0 l0.length c0, .slice A1 l1.length c1]) (ok := (fun k_ => ((P0_ k_ ∨ P1_ k_) ∨ w.heap.size ≤ k_))) (okp := (fun k_ => ((P0_ k_ ∨ P1_ k_) ∨ w.heap.size ≤ k_))) ?hr ?hp (fun _ hk => hk) ((show ∀ k_, w.heap.size ≤ k_ → (fun k_ => ((P0_ k_ ∨ P1_ k_) ∨ w.heap.size ≤ k_)) k_ from fun k_ hk => (.inr (Nat.le_trans (below_size (hbA HB)) hk))) _ (Nat.le_refl _)) (Below.refl _ _) (Nat.le_refl _) (by simp) ?_; (case hd => rfl); (case hg => rfl); (case hr => first | (go_simp; done) | (go_simp; rfl)); (case hp => exact (Reps.one (show Kd.FK (Kd.slice 2 (Kd.int .i64)) _ _ l0 [.slice A0 l0.length c0] from (Kd.FK_slice_mk (Kd.V_reads' (Kd.V_mono (ok' := (fun k_ => ((P0_ k_ ∨ P1_ k_) ∨ w.heap.size ≤ k_))) (HO0.out) (fun k_ hk => hk))).2.1 (Kd.V_F (Kd.V_mono (ok' := (fun k_ => ((P0_ k_ ∨ P1_ k_) ∨ w.heap.size ≤ k_))) (HO0.out) (fun k_ hk => hk))))) (Reps.one (show Kd.FK (Kd.slice 2 (Kd.int .i64)) _ _ l1 [.slice A1 l1.length c1] from (Kd.FK_slice_mk (Kd.V_reads' (Kd.V_mono (ok' := (fun k_ => ((P0_ k_ ∨ P1_ k_) ∨ w.heap.size ≤ k_))) (HO1.out) (fun k_ hk => hk))).2.1 (Kd.V_F (Kd.V_mono (ok' := (fun k_ => ((P0_ k_ ∨ P1_ k_) ∨ w.heap.size ≤ k_))) (HO1.out) (fun k_ hk => hk))))) (Reps.none _ _)))); intro v102 w3 ho4 hb hg_ hnew_; clear hg_ hnew_; (first | rw [← Ny101.out] at ho4 | (simp only [Int.reduceToNat] at ho4; rw [← Ny101.out] at ho4)); replace HO0 := mk0 (Kd.V_elder' (by (with_reducible repeat (first | apply Kd.V_alloc | apply Kd.V_drewN | apply Kd.V_drew)); exact HO0.out) (Kd.N_base ho4) hb); replace HO1 := mk0 (Kd.V_elder' (by (with_reducible repeat (first | apply Kd.V_alloc | apply Kd.V_drewN | apply Kd.V_drew)); exact HO1.out) (Kd.N_base ho4) hb); have HO103 := mk0 (Kd.N_lower ho4 (below_size (hbA HB))); replace HB := hbS HB hb; clear hb ho4; obtain ⟨Ao5, co5, eo5⟩ := Kd.N_slice HO103.out; subst eo5))
 repeat (go_quiet (first | ((with_reducible refine gate_dst (N := 19) rfl ?_); refine Kd.N_lit (Kd.slice 2 (Kd.int .i64)) _ 31 ?hg (N' := 19) ?hd (xs := ([l0, l1] : List (List Int))) (inner := [.slice A0 l0.length c0, .slice A1 l1.length c1]) (ok := (fun k_ => ((P0_ k_ ∨ P1_ k_) ∨ w.heap.size ≤ k_))) (okp := (fun k_ => ((P0_ k_ ∨ P1_ k_) ∨ w.heap.size ≤ k_))) ?hr ?hp (fun _ hk => hk) ((show ∀ k_, w.heap.size ≤ k_ → (fun k_ => ((P0_ k_ ∨ P1_ k_) ∨ w.heap.size ≤ k_)) k_ from fun k_ hk => (.inr (Nat.le_trans (below_size (hbA HB)) hk))) _ (Nat.le_refl _)) (Below.refl _ _) (Nat.le_refl _) (by simp) ?_; (case hd => rfl); (case hg => rfl); (case hr => first | (go_simp; done) | (go_simp; rfl)); (case hp => exact (Reps.one (show Kd.FK (Kd.slice 2 (Kd.int .i64)) _ _ l0 [.slice A0 l0.length c0] from (Kd.FK_slice_mk (Kd.V_reads' (Kd.V_mono (ok' := (fun k_ => ((P0_ k_ ∨ P1_ k_) ∨ w.heap.size ≤ k_))) (HO0.out) (fun k_ hk => hk))).2.1 (Kd.V_F (Kd.V_mono (ok' := (fun k_ => ((P0_ k_ ∨ P1_ k_) ∨ w.heap.size ≤ k_))) (HO0.out) (fun k_ hk => hk))))) (Reps.one (show Kd.FK (Kd.slice 2 (Kd.int .i64)) _ _ l1 [.slice A1 l1.length c1] from (Kd.FK_slice_mk (Kd.V_reads' (Kd.V_mono (ok' := (fun k_ => ((P0_ k_ ∨ P1_ k_) ∨ w.heap.size ≤ k_))) (HO1.out) (fun k_ hk => hk))).2.1 (Kd.V_F (Kd.V_mono (ok' := (fun k_ => ((P0_ k_ ∨ P1_ k_) ∨ w.heap.size ≤ k_))) (HO1.out) (fun k_ hk => hk))))) (Reps.none _ _)))); intro v102 w3 ho4 hb hg_ hnew_; clear hg_ hnew_; (first | rw [← Ny101.out] at ho4 | (simp only [Int.reduceToNat] at ho4; rw [← Ny101.out] at ho4)); replace HO0 := mk0 (Kd.V_elder' (by (with_reducible repeat (first | apply Kd.V_alloc | apply Kd.V_drewN | apply Kd.V_drew)); exact HO0.out) (Kd.N_base ho4) hb); replace HO1 := mk0 (Kd.V_elder' (by (with_reducible repeat (first | apply Kd.V_alloc | apply Kd.V_drewN | apply Kd.V_drew)); exact HO1.out) (Kd.N_base ho4) hb); have HO103 := mk0 (Kd.N_lower ho4 (below_size (hbA HB))); replace HB := hbS HB hb; clear hb ho4; obtain ⟨Ao5, co5, eo5⟩ := Kd.N_slice HO103.out; subst eo5)); try go_wp2_with (first | ((with_reducible refine gate_dst (N := 19) rfl ?_); refine Kd.N_lit (Kd.slice 2 (Kd.int .i64)) _ 31 ?hg (N' := 19) ?hd (xs := ([l0, l1] : List (List Int))) (inner := [.slice A0 l0.length c0, .slice A1 l1.length c1]) (ok := (fun k_ => ((P0_ k_ ∨ P1_ k_) ∨ w.heap.size ≤ k_))) (okp := (fun k_ => ((P0_ k_ ∨ P1_ k_) ∨ w.heap.size ≤ k_))) ?hr ?hp (fun _ hk => hk) ((show ∀ k_, w.heap.size ≤ k_ → (fun k_ => ((P0_ k_ ∨ P1_ k_) ∨ w.heap.size ≤ k_)) k_ from fun k_ hk => (.inr (Nat.le_trans (below_size (hbA HB)) hk))) _ (Nat.le_refl _)) (Below.refl _ _) (Nat.le_refl _) (by simp) ?_; (case hd => rfl); (case hg => rfl); (case hr => first | (go_simp; done) | (go_simp; rfl)); (case hp => exact (Reps.one (show Kd.FK (Kd.slice 2 (Kd.int .i64)) _ _ l0 [.slice A0 l0.length c0] from (Kd.FK_slice_mk (Kd.V_reads' (Kd.V_mono (ok' := (fun k_ => ((P0_ k_ ∨ P1_ k_) ∨ w.heap.size ≤ k_))) (HO0.out) (fun k_ hk => hk))).2.1 (Kd.V_F (Kd.V_mono (ok' := (fun k_ => ((P0_ k_ ∨ P1_ k_) ∨ w.heap.size ≤ k_))) (HO0.out) (fun k_ hk => hk))))) (Reps.one (show Kd.FK (Kd.slice 2 (Kd.int .i64)) _ _ l1 [.slice A1 l1.length c1] from (Kd.FK_slice_mk (Kd.V_reads' (Kd.V_mono (ok' := (fun k_ => ((P0_ k_ ∨ P1_ k_) ∨ w.heap.size ≤ k_))) (HO1.out) (fun k_ hk => hk))).2.1 (Kd.V_F (Kd.V_mono (ok' := (fun k_ => ((P0_ k_ ∨ P1_ k_) ∨ w.heap.size ≤ k_))) (HO1.out) (fun k_ hk => hk))))) (Reps.none _ _)))); intro v102 w3 ho4 hb hg_ hnew_; clear hg_ hnew_; (first | rw [← Ny101.out] at ho4 | (simp only [Int.reduceToNat] at ho4; rw [← Ny101.out] at ho4)); replace HO0 := mk0 (Kd.V_elder' (by (with_reducible repeat (first | apply Kd.V_alloc | apply Kd.V_drewN | apply Kd.V_drew)); exact HO0.out) (Kd.N_base ho4) hb); replace HO1 := mk0 (Kd.V_elder' (by (with_reducible repeat (first | apply Kd.V_alloc | apply Kd.V_drewN | apply Kd.V_drew)); exact HO1.out) (Kd.N_base ho4) hb); have HO103 := mk0 (Kd.N_lower ho4 (below_size (hbA HB))); replace HB := hbS HB hb; clear hb ho4; obtain ⟨Ao5, co5, eo5⟩ := Kd.N_slice HO103.out; subst eo5)))
 go_loopg [21] k (fun kq v21 w' => ∃ (x21_1 : Int), v21 = .int .i64 x21_1 ∧ Aside0 (shape_Broadcast.l0 kq l0 l1 y101 (y101.length : Int) x21_1 = some (r1, r2)) ∧ Aside0 (kq ≤ k) ∧ Aside0 (Kd.V (Kd.int .i64) 2 w' w.heap.size (fun k_ => ((P0_ k_ ∨ P1_ k_) ∨ w.heap.size ≤ k_) ∧ some k_ ≠ ((.slice Ao5 y101.length co5) : Value).ownBlock) (.slice A0 l0.length c0) l0) ∧ Aside0 (Kd.V (Kd.int .i64) 2 w' w.heap.size (fun k_ => ((P0_ k_ ∨ P1_ k_) ∨ w.heap.size ≤ k_) ∧ some k_ ≠ ((.slice Ao5 y101.length co5) : Value).ownBlock) (.slice A1 l1.length c1) l1) ∧ Aside0 (Kd.N (Kd.slice 2 (Kd.int .i64)) 31 w' w.heap.size (fun k_ => ((P0_ k_ ∨ P1_ k_) ∨ w.heap.size ≤ k_)) (.slice Ao5 y101.length co5) y101) ∧ Aside0 (Below w.heap.size w w'))
 case atStart => exact ⟨(0), cl0, H', ⟨Nat.le_refl _⟩, ⟨by (with_reducible repeat (first | apply Kd.V_alloc | apply Kd.V_drewN | apply Kd.V_drew)); exact HO0.out⟩, ⟨by (with_reducible repeat (first | apply Kd.V_alloc | apply Kd.V_drewN | apply Kd.V_drew)); exact HO1.out⟩, ⟨by (with_reducible repeat (first | apply Kd.N_alloc | apply Kd.N_drewN | apply Kd.N_drew)); exact HO103.out⟩, ⟨hbA HB⟩⟩
 case round =>
  clear H'; try clear c1
  obtain ⟨x21_1, rfl, HA, HK1, HO_0, HO_1, HO_19, HB⟩ := hrel
  cases gk with
  | zero => exact absurd HA.out (by simp [shape_Broadcast.l0])
  | succ k1 =>
   have H := HA.out; clear HA
   simp only [shape_Broadcast.l0] at H
   by_cases c6 : x21_1 < (y101.length : Int)
   ·
    rw [if_pos c6] at H; have c6b0 := decide_eq_true c6; clear c6; replace H := ifS H; obtain ⟨c7, H⟩ := H; have c7b0 := decide_eq_true c7; clear c7
    by_cases c8 : x21_1 < (y101.length : Int)
    ·
     rw [if_pos c8] at H; have c8b0 := decide_eq_true c8; clear c8; replace H := Option.bind_eq_some_iff.mp H; obtain ⟨⟨t105, t106⟩, A90, H⟩ := H; replace H : (if t106 = 0 then (shape_Broadcast.l0 k1 l0 l1 y101 (y101.length : Int) (wrap64 (x21_1 + 1))) else (some (([] : List Int), t106))) = some (r1, r2) := H; have A9 := mk0 A90; clear A90
     by_cases c10 : t106 = 0
     ·
      rw [if_pos c10] at H; have c10b0 := beq_iff_eq.mpr c10; have c10b1 := bne_eq_false_iff_eq.mpr c10; clear c10; have H' := mk0 H; clear H; have p104 : 0 ≤ (x21_1 : Int) := ofd; have q104 : x21_1 < (y101.length : Int) := ofd; obtain ⟨ad104, A104_0, c104_0, e104, hx104_0, hl104_0, hi104_0⟩ := at_L4 (Kd.N_reads' HO_19.out).2.2 x21_1 p104 q104; cases e104; obtain ⟨ce104, hce104, hMe104, hcc104⟩ := Kd.N_get HO_19.out [] x21_1 p104 (by first | exact q104 | exact ofd | (have e_ := (Kd.N_reads' HO_19.out).1; omega))
      obtain ⟨ua104_0, uc104_0, rfl, ul104_0, ge104_0⟩ := Kd.FK_slice_open hMe104; have hv104_0 := hcc104 0 _ rfl
      rw [Nat.add_zero, show ((Kd.slice 2 (Kd.int .i64))).sz = 1 from rfl, Nat.mul_one] at hv104_0
      replace hv104_0 := Option.some.inj (hv104_0.symm.trans hx104_0); injection hv104_0 with hva_ hvn_ hvc_
      rw [hva_] at ge104_0
      rw [hvc_] at ul104_0
      have HL104_0 := mk0 (show Kd.V (Kd.int .i64) 2 _ w.heap.size _ _ (rd_L4 y101 x21_1) from Kd.V_mk ul104_0 ge104_0); clear hva_ hvn_ hvc_ ge104_0 ul104_0; clear hcc104 hce104; have HR104_0 := mk0 hi104_0; have HC104_0 := mk0 hl104_0; clear hi104_0 hl104_0; replace p104 := eq_true p104; replace q104 := eq_true q104
      go_wp2_with (first | (go_at_call 57; (with_reducible refine (shape_Size_s.calls _ _ (rd_L4 y101 x21_1) t105 t106 _ ?side1 ?side2 A9.out).mono ?_); (case side1 => repeat (first | exact (by repeat (first | (with_reducible exact HR104_0.out) | (with_reducible refine Kd.C_alloc ?_ _) | (with_reducible refine Kd.C_drewN ?_ _) | (with_reducible refine Kd.C_drew ?_) | exact HR104_0.out)) | (with_reducible refine Kd.C_alloc ?_ _) | (with_reducible refine Kd.C_drewN ?_ _) | (with_reducible refine Kd.C_drew ?_))); (case side2 => exact HC104_0.out); rintro e w11 ⟨rfl, hb⟩; replace HO_0 := mk0 (Kd.V_below (by (with_reducible repeat (first | apply Kd.V_alloc | apply Kd.V_drewN | apply Kd.V_drew)); exact HO_0.out) hb); replace HO_1 := mk0 (Kd.V_below (by (with_reducible repeat (first | apply Kd.V_alloc | apply Kd.V_drewN | apply Kd.V_drew)); exact HO_1.out) hb); replace HO_19 := mk0 (Kd.N_below (by (with_reducible repeat (first | apply Kd.N_alloc | apply Kd.N_drewN | apply Kd.N_drew)); exact HO_19.out) hb); replace HL104_0 := mk0 (Kd.V_below (by (with_reducible repeat (first | apply Kd.V_alloc | apply Kd.V_drewN | apply Kd.V_drew)); exact HL104_0.out) hb); replace HR104_0 := mk0 (Kd.C_below (by repeat (first | (with_reducible exact HR104_0.out) | (with_reducible refine Kd.C_alloc ?_ _) | (with_reducible refine Kd.C_drewN ?_ _) | (with_reducible refine Kd.C_drew ?_) | exact HR104_0.out)) hb); replace HB := hbS HB hb; (try clear hb)))
      repeat (go_quiet (first | (go_at_call 57; (with_reducible refine (shape_Size_s.calls _ _ (rd_L4 y101 x21_1) t105 t106 _ ?side1 ?side2 A9.out).mono ?_); (case side1 => repeat (first | exact (by repeat (first | (with_reducible exact HR104_0.out) | (with_reducible refine Kd.C_alloc ?_ _) | (with_reducible refine Kd.C_drewN ?_ _) | (with_reducible refine Kd.C_drew ?_) | exact HR104_0.out)) | (with_reducible refine Kd.C_alloc ?_ _) | (with_reducible refine Kd.C_drewN ?_ _) | (with_reducible refine Kd.C_drew ?_))); (case side2 => exact HC104_0.out); rintro e w11 ⟨rfl, hb⟩; replace HO_0 := mk0 (Kd.V_below (by (with_reducible repeat (first | apply Kd.V_alloc | apply Kd.V_drewN | apply Kd.V_drew)); exact HO_0.out) hb); replace HO_1 := mk0 (Kd.V_below (by (with_reducible repeat (first | apply Kd.V_alloc | apply Kd.V_drewN | apply Kd.V_drew)); exact HO_1.out) hb); replace HO_19 := mk0 (Kd.N_below (by (with_reducible repeat (first | apply Kd.N_alloc | apply Kd.N_drewN | apply Kd.N_drew)); exact HO_19.out) hb); replace HL104_0 := mk0 (Kd.V_below (by (with_reducible repeat (first | apply Kd.V_alloc | apply Kd.V_drewN | apply Kd.V_drew)); exact HL104_0.out) hb); replace HR104_0 := mk0 (Kd.C_below (by repeat (first | (with_reducible exact HR104_0.out) | (with_reducible refine Kd.C_alloc ?_ _) | (with_reducible refine Kd.C_drewN ?_ _) | (with_reducible refine Kd.C_drew ?_) | exact HR104_0.out)) hb); replace HB := hbS HB hb; (try clear hb))); try go_wp2_with (first | (go_at_call 57; (with_reducible refine (shape_Size_s.calls _ _ (rd_L4 y101 x21_1) t105 t106 _ ?side1 ?side2 A9.out).mono ?_); (case side1 => repeat (first | exact (by repeat (first | (with_reducible exact HR104_0.out) | (with_reducible refine Kd.C_alloc ?_ _) | (with_reducible refine Kd.C_drewN ?_ _) | (with_reducible refine Kd.C_drew ?_) | exact HR104_0.out)) | (with_reducible refine Kd.C_alloc ?_ _) | (with_reducible refine Kd.C_drewN ?_ _) | (with_reducible refine Kd.C_drew ?_))); (case side2 => exact HC104_0.out); rintro e w11 ⟨rfl, hb⟩; replace HO_0 := mk0 (Kd.V_below (by (with_reducible repeat (first | apply Kd.V_alloc | apply Kd.V_drewN | apply Kd.V_drew)); exact HO_0.out) hb); replace HO_1 := mk0 (Kd.V_below (by (with_reducible repeat (first | apply Kd.V_alloc | apply Kd.V_drewN | apply Kd.V_drew)); exact HO_1.out) hb); replace HO_19 := mk0 (Kd.N_below (by (with_reducible repeat (first | apply Kd.N_alloc | apply Kd.N_drewN | apply Kd.N_drew)); exact HO_19.out) hb); replace HL104_0 := mk0 (Kd.V_below (by (with_reducible repeat (first | apply Kd.V_alloc | apply Kd.V_drewN | apply Kd.V_drew)); exact HL104_0.out) hb); replace HR104_0 := mk0 (Kd.C_below (by repeat (first | (with_reducible exact HR104_0.out) | (with_reducible refine Kd.C_alloc ?_ _) | (with_reducible refine Kd.C_drewN ?_ _) | (with_reducible refine Kd.C_drew ?_) | exact HR104_0.out)) hb); replace HB := hbS HB hb; (try clear hb))))
      go_roundg k1
      case measure => have := HK1.out; omega
      case rel => exact ⟨(wrap64 (x21_1 + 1)), cl0, H', cl2 HK1, ⟨by (with_reducible repeat (first | apply Kd.V_alloc | apply Kd.V_drewN | apply Kd.V_drew)); exact HO_0.out⟩, ⟨by (with_reducible repeat (first | apply Kd.V_alloc | apply Kd.V_drewN | apply Kd.V_drew)); exact HO_1.out⟩, ⟨by (with_reducible repeat (first | apply Kd.N_alloc | apply Kd.N_drewN | apply Kd.N_drew)); exact HO_19.out⟩, ⟨hbA HB⟩⟩
     ·
      rw [if_neg c10] at H; have c10b0 := beq_eq_false_iff_ne.mpr c10; have c10b1 := bne_iff_ne.mpr c10
      simp only [Option.some.injEq, Prod.mk.injEq] at H
      obtain ⟨rfl, rfl⟩ := H; have p104 : 0 ≤ (x21_1 : Int) := ofd; have q104 : x21_1 < (y101.length : Int) := ofd; obtain ⟨ad104, A104_0, c104_0, e104, hx104_0, hl104_0, hi104_0⟩ := at_L4 (Kd.N_reads' HO_19.out).2.2 x21_1 p104 q104; cases e104; obtain ⟨ce104, hce104, hMe104, hcc104⟩ := Kd.N_get HO_19.out [] x21_1 p104 (by first | exact q104 | exact ofd | (have e_ := (Kd.N_reads' HO_19.out).1; omega))
      obtain ⟨ua104_0, uc104_0, rfl, ul104_0, ge104_0⟩ := Kd.FK_slice_open hMe104; have hv104_0 := hcc104 0 _ rfl
      rw [Nat.add_zero, show ((Kd.slice 2 (Kd.int .i64))).sz = 1 from rfl, Nat.mul_one] at hv104_0
      replace hv104_0 := Option.some.inj (hv104_0.symm.trans hx104_0); injection hv104_0 with hva_ hvn_ hvc_
      rw [hva_] at ge104_0
      rw [hvc_] at ul104_0
      have HL104_0 := mk0 (show Kd.V (Kd.int .i64) 2 _ w.heap.size _ _ (rd_L4 y101 x21_1) from Kd.V_mk ul104_0 ge104_0); clear hva_ hvn_ hvc_ ge104_0 ul104_0; clear hcc104 hce104; have HR104_0 := mk0 hi104_0; have HC104_0 := mk0 hl104_0; clear hi104_0 hl104_0; replace p104 := eq_true p104; replace q104 := eq_true q104
      go_wp2_with (first | (go_at_call 57; (with_reducible refine (shape_Size_s.calls _ _ (rd_L4 y101 x21_1) t105 t106 _ ?side1 ?side2 A9.out).mono ?_); (case side1 => repeat (first | exact (by repeat (first | (with_reducible exact HR104_0.out) | (with_reducible refine Kd.C_alloc ?_ _) | (with_reducible refine Kd.C_drewN ?_ _) | (with_reducible refine Kd.C_drew ?_) | exact HR104_0.out)) | (with_reducible refine Kd.C_alloc ?_ _) | (with_reducible refine Kd.C_drewN ?_ _) | (with_reducible refine Kd.C_drew ?_))); (case side2 => exact HC104_0.out); rintro e w12 ⟨rfl, hb⟩; replace HO_0 := mk0 (Kd.V_below (by (with_reducible repeat (first | apply Kd.V_alloc | apply Kd.V_drewN | apply Kd.V_drew)); exact HO_0.out) hb); replace HO_1 := mk0 (Kd.V_below (by (with_reducible repeat (first | apply Kd.V_alloc | apply Kd.V_drewN | apply Kd.V_drew)); exact HO_1.out) hb); replace HO_19 := mk0 (Kd.N_below (by (with_reducible repeat (first | apply Kd.N_alloc | apply Kd.N_drewN | apply Kd.N_drew)); exact HO_19.out) hb); replace HL104_0 := mk0 (Kd.V_below (by (with_reducible repeat (first | apply Kd.V_alloc | apply Kd.V_drewN | apply Kd.V_drew)); exact HL104_0.out) hb); replace HR104_0 := mk0 (Kd.C_below (by repeat (first | (with_reducible exact HR104_0.out) | (with_reducible refine Kd.C_alloc ?_ _) | (with_reducible refine Kd.C_drewN ?_ _) | (with_reducible refine Kd.C_drew ?_) | exact HR104_0.out)) hb); replace HB := hbS HB hb; (try clear hb)))
      repeat (go_quiet (first | (go_at_call 57; (with_reducible refine (shape_Size_s.calls _ _ (rd_L4 y101 x21_1) t105 t106 _ ?side1 ?side2 A9.out).mono ?_); (case side1 => repeat (first | exact (by repeat (first | (with_reducible exact HR104_0.out) | (with_reducible refine Kd.C_alloc ?_ _) | (with_reducible refine Kd.C_drewN ?_ _) | (with_reducible refine Kd.C_drew ?_) | exact HR104_0.out)) | (with_reducible refine Kd.C_alloc ?_ _) | (with_reducible refine Kd.C_drewN ?_ _) | (with_reducible refine Kd.C_drew ?_))); (case side2 => exact HC104_0.out); rintro e w12 ⟨rfl, hb⟩; replace HO_0 := mk0 (Kd.V_below (by (with_reducible repeat (first | apply Kd.V_alloc | apply Kd.V_drewN | apply Kd.V_drew)); exact HO_0.out) hb); replace HO_1 := mk0 (Kd.V_below (by (with_reducible repeat (first | apply Kd.V_alloc | apply Kd.V_drewN | apply Kd.V_drew)); exact HO_1.out) hb); replace HO_19 := mk0 (Kd.N_below (by (with_reducible repeat (first | apply Kd.N_alloc | apply Kd.N_drewN | apply Kd.N_drew)); exact HO_19.out) hb); replace HL104_0 := mk0 (Kd.V_below (by (with_reducible repeat (first | apply Kd.V_alloc | apply Kd.V_drewN | apply Kd.V_drew)); exact HL104_0.out) hb); replace HR104_0 := mk0 (Kd.C_below (by repeat (first | (with_reducible exact HR104_0.out) | (with_reducible refine Kd.C_alloc ?_ _) | (with_reducible refine Kd.C_drewN ?_ _) | (with_reducible refine Kd.C_drew ?_) | exact HR104_0.out)) hb); replace HB := hbS HB hb; (try clear hb))); try go_wp2_with (first | (go_at_call 57; (with_reducible refine (shape_Size_s.calls _ _ (rd_L4 y101 x21_1) t105 t106 _ ?side1 ?side2 A9.out).mono ?_); (case side1 => repeat (first | exact (by repeat (first | (with_reducible exact HR104_0.out) | (with_reducible refine Kd.C_alloc ?_ _) | (with_reducible refine Kd.C_drewN ?_ _) | (with_reducible refine Kd.C_drew ?_) | exact HR104_0.out)) | (with_reducible refine Kd.C_alloc ?_ _) | (with_reducible refine Kd.C_drewN ?_ _) | (with_reducible refine Kd.C_drew ?_))); (case side2 => exact HC104_0.out); rintro e w12 ⟨rfl, hb⟩; replace HO_0 := mk0 (Kd.V_below (by (with_reducible repeat (first | apply Kd.V_alloc | apply Kd.V_drewN | apply Kd.V_drew)); exact HO_0.out) hb); replace HO_1 := mk0 (Kd.V_below (by (with_reducible repeat (first | apply Kd.V_alloc | apply Kd.V_drewN | apply Kd.V_drew)); exact HO_1.out) hb); replace HO_19 := mk0 (Kd.N_below (by (with_reducible repeat (first | apply Kd.N_alloc | apply Kd.N_drewN | apply Kd.N_drew)); exact HO_19.out) hb); replace HL104_0 := mk0 (Kd.V_below (by (with_reducible repeat (first | apply Kd.V_alloc | apply Kd.V_drewN | apply Kd.V_drew)); exact HL104_0.out) hb); replace HR104_0 := mk0 (Kd.C_below (by repeat (first | (with_reducible exact HR104_0.out) | (with_reducible refine Kd.C_alloc ?_ _) | (with_reducible refine Kd.C_drewN ?_ _) | (with_reducible refine Kd.C_drew ?_) | exact HR104_0.out)) hb); replace HB := hbS HB hb; (try clear hb))))
      go_ret2
      exact ⟨_, cl3, by first | exact Kd.R_nil _ _ _ _ _ | exact Kd.N_nil _ _ _ _ _ | exact Kd.V_nil _ _ _ _ _ | exact Kd.Q_nil _ _ _ _ _ | exact Kd.S_nil _ _ _ _ _, hbA HB⟩
    ·
     exact absurd (of_decide_eq_true c6b0) c8
   ·
    rw [if_neg c6] at H; have c6b0 := decide_eq_false c6; clear c6; obtain ⟨ji13, hji13⟩ : ∃ j_ : Int, (mx (l0.length : Int) (l1.length : Int)) = j_ := ⟨_, rfl⟩; replace H : ((shape_wide_s.f l0 (ji13)).bind fun t107 => ((shape_wide_s.f l1 (ji13)).bind fun t110 => (shape_Broadcast.l1 k1 t107 t110 ([] : List Int) ji13 0))) = some (r1, r2) := by first | (rw [hji13] at H; exact H) | (simp only [hji13] at H ⊢; exact H)
    have hji13_ : (if (l0.length : Int) < (l1.length : Int) then (l1.length : Int) else (l0.length : Int)) = ji13 := hji13; have hji13N : (if l0.length < l1.length then (l1.length : Int) else (l0.length : Int)) = ji13 := by have h_ := hji13_; simp only [Int.ofNat_lt] at h_; exact h_
    replace H := bnd H; obtain ⟨t107, A14, H⟩ := H; replace H := bnd H; obtain ⟨t110, A15, H⟩ := H; have H' := mk0 H; clear H
    go_wp2_with (first | (go_at_call 98; (with_reducible refine (shape_wide_s.calls _ _ l0 ji13 t107 _ ?side1 ?side2 A14.out).mono ?_); (case side1 => repeat (first | exact (Kd.V_reads' HO_0.out).2.2 | (with_reducible refine Kd.C_alloc ?_ _) | (with_reducible refine Kd.C_drewN ?_ _) | (with_reducible refine Kd.C_drew ?_))); (case side2 => exact (Kd.V_reads' HO_0.out).2.1); rintro e w16 ⟨v108, rfl, ho0, hb⟩; replace HO_0 := mk0 (Kd.V_elder' (by (with_reducible repeat (first | apply Kd.V_alloc | apply Kd.V_drewN | apply Kd.V_drew)); exact HO_0.out) (Kd.R_base ho0) hb); replace HO_1 := mk0 (Kd.V_elder' (by (with_reducible repeat (first | apply Kd.V_alloc | apply Kd.V_drewN | apply Kd.V_drew)); exact HO_1.out) (Kd.R_base ho0) hb); replace HO_19 := mk0 (Kd.N_elder' (by (with_reducible repeat (first | apply Kd.N_alloc | apply Kd.N_drewN | apply Kd.N_drew)); exact HO_19.out) (Kd.R_base ho0) hb); have HO109 := mk0 (Kd.R_lower (Kd.R_newM (M := fun k_ => (w.heap.size ≤ k_)) ho0 (below_size (hbA HB)) (fun k_ h_ => h_)) (below_size (hbA HB))); replace HB := hbS HB hb; (try clear hb); (try clear ho0)) | (go_at_call 98; (with_reducible refine (shape_wide_s.calls _ _ l1 ji13 t110 _ ?side1 ?side2 A15.out).mono ?_); (case side1 => repeat (first | exact (Kd.V_reads' HO_1.out).2.2 | (with_reducible refine Kd.C_alloc ?_ _) | (with_reducible refine Kd.C_drewN ?_ _) | (with_reducible refine Kd.C_drew ?_))); (case side2 => exact (Kd.V_reads' HO_1.out).2.1); rintro e w17 ⟨v111, rfl, ho0, hb⟩; replace HO_0 := mk0 (Kd.V_elder' (by (with_reducible repeat (first | apply Kd.V_alloc | apply Kd.V_drewN | apply Kd.V_drew)); exact HO_0.out) (Kd.R_base ho0) hb); replace HO_1 := mk0 (Kd.V_elder' (by (with_reducible repeat (first | apply Kd.V_alloc | apply Kd.V_drewN | apply Kd.V_drew)); exact HO_1.out) (Kd.R_base ho0) hb); replace HO_19 := mk0 (Kd.N_elder' (by (with_reducible repeat (first | apply Kd.N_alloc | apply Kd.N_drewN | apply Kd.N_drew)); exact HO_19.out) (Kd.R_base ho0) hb); have HO112 := mk0 (Kd.R_lower (Kd.R_new' (Kd.R_newM (M := fun k_ => (w.heap.size ≤ k_)) ho0 (below_size (hbA HB)) (fun k_ h_ => h_)) (Kd.R_lt (krA HO109))) (below_size (hbA HB))); replace HO109 := mk0 (Kd.R_elder' (krA HO109) (Kd.R_base ho0) hb); replace HB := hbS HB hb; (try clear hb); (try clear ho0)))
    repeat (go_quiet (first | (go_at_call 98; (with_reducible refine (shape_wide_s.calls _ _ l0 ji13 t107 _ ?side1 ?side2 A14.out).mono ?_); (case side1 => repeat (first | exact (Kd.V_reads' HO_0.out).2.2 | (with_reducible refine Kd.C_alloc ?_ _) | (with_reducible refine Kd.C_drewN ?_ _) | (with_reducible refine Kd.C_drew ?_))); (case side2 => exact (Kd.V_reads' HO_0.out).2.1); rintro e w16 ⟨v108, rfl, ho0, hb⟩; replace HO_0 := mk0 (Kd.V_elder' (by (with_reducible repeat (first | apply Kd.V_alloc | apply Kd.V_drewN | apply Kd.V_drew)); exact HO_0.out) (Kd.R_base ho0) hb); replace HO_1 := mk0 (Kd.V_elder' (by (with_reducible repeat (first | apply Kd.V_alloc | apply Kd.V_drewN | apply Kd.V_drew)); exact HO_1.out) (Kd.R_base ho0) hb); replace HO_19 := mk0 (Kd.N_elder' (by (with_reducible repeat (first | apply Kd.N_alloc | apply Kd.N_drewN | apply Kd.N_drew)); exact HO_19.out) (Kd.R_base ho0) hb); have HO109 := mk0 (Kd.R_lower (Kd.R_newM (M := fun k_ => (w.heap.size ≤ k_)) ho0 (below_size (hbA HB)) (fun k_ h_ => h_)) (below_size (hbA HB))); replace HB := hbS HB hb; (try clear hb); (try clear ho0)) | (go_at_call 98; (with_reducible refine (shape_wide_s.calls _ _ l1 ji13 t110 _ ?side1 ?side2 A15.out).mono ?_); (case side1 => repeat (first | exact (Kd.V_reads' HO_1.out).2.2 | (with_reducible refine Kd.C_alloc ?_ _) | (with_reducible refine Kd.C_drewN ?_ _) | (with_reducible refine Kd.C_drew ?_))); (case side2 => exact (Kd.V_reads' HO_1.out).2.1); rintro e w17 ⟨v111, rfl, ho0, hb⟩; replace HO_0 := mk0 (Kd.V_elder' (by (with_reducible repeat (first | apply Kd.V_alloc | apply Kd.V_drewN | apply Kd.V_drew)); exact HO_0.out) (Kd.R_base ho0) hb); replace HO_1 := mk0 (Kd.V_elder' (by (with_reducible repeat (first | apply Kd.V_alloc | apply Kd.V_drewN | apply Kd.V_drew)); exact HO_1.out) (Kd.R_base ho0) hb); replace HO_19 := mk0 (Kd.N_elder' (by (with_reducible repeat (first | apply Kd.N_alloc | apply Kd.N_drewN | apply Kd.N_drew)); exact HO_19.out) (Kd.R_base ho0) hb); have HO112 := mk0 (Kd.R_lower (Kd.R_new' (Kd.R_newM (M := fun k_ => (w.heap.size ≤ k_)) ho0 (below_size (hbA HB)) (fun k_ h_ => h_)) (Kd.R_lt (krA HO109))) (below_size (hbA HB))); replace HO109 := mk0 (Kd.R_elder' (krA HO109) (Kd.R_base ho0) hb); replace HB := hbS HB hb; (try clear hb); (try clear ho0))); try go_wp2_with (first | (go_at_call 98; (with_reducible refine (shape_wide_s.calls _ _ l0 ji13 t107 _ ?side1 ?side2 A14.out).mono ?_); (case side1 => repeat (first | exact (Kd.V_reads' HO_0.out).2.2 | (with_reducible refine Kd.C_alloc ?_ _) | (with_reducible refine Kd.C_drewN ?_ _) | (with_reducible refine Kd.C_drew ?_))); (case side2 => exact (Kd.V_reads' HO_0.out).2.1); rintro e w16 ⟨v108, rfl, ho0, hb⟩; replace HO_0 := mk0 (Kd.V_elder' (by (with_reducible repeat (first | apply Kd.V_alloc | apply Kd.V_drewN | apply Kd.V_drew)); exact HO_0.out) (Kd.R_base ho0) hb); replace HO_1 := mk0 (Kd.V_elder' (by (with_reducible repeat (first | apply Kd.V_alloc | apply Kd.V_drewN | apply Kd.V_drew)); exact HO_1.out) (Kd.R_base ho0) hb); replace HO_19 := mk0 (Kd.N_elder' (by (with_reducible repeat (first | apply Kd.N_alloc | apply Kd.N_drewN | apply Kd.N_drew)); exact HO_19.out) (Kd.R_base ho0) hb); have HO109 := mk0 (Kd.R_lower (Kd.R_newM (M := fun k_ => (w.heap.size ≤ k_)) ho0 (below_size (hbA HB)) (fun k_ h_ => h_)) (below_size (hbA HB))); replace HB := hbS HB hb; (try clear hb); (try clear ho0)) | (go_at_call 98; (with_reducible refine (shape_wide_s.calls _ _ l1 ji13 t110 _ ?side1 ?side2 A15.out).mono ?_); (case side1 => repeat (first | exact (Kd.V_reads' HO_1.out).2.2 | (with_reducible refine Kd.C_alloc ?_ _) | (with_reducible refine Kd.C_drewN ?_ _) | (with_reducible refine Kd.C_drew ?_))); (case side2 => exact (Kd.V_reads' HO_1.out).2.1); rintro e w17 ⟨v111, rfl, ho0, hb⟩; replace HO_0 := mk0 (Kd.V_elder' (by (with_reducible repeat (first | apply Kd.V_alloc | apply Kd.V_drewN | apply Kd.V_drew)); exact HO_0.out) (Kd.R_base ho0) hb); replace HO_1 := mk0 (Kd.V_elder' (by (with_reducible repeat (first | apply Kd.V_alloc | apply Kd.V_drewN | apply Kd.V_drew)); exact HO_1.out) (Kd.R_base ho0) hb); replace HO_19 := mk0 (Kd.N_elder' (by (with_reducible repeat (first | apply Kd.N_alloc | apply Kd.N_drewN | apply Kd.N_drew)); exact HO_19.out) (Kd.R_base ho0) hb); have HO112 := mk0 (Kd.R_lower (Kd.R_new' (Kd.R_newM (M := fun k_ => (w.heap.size ≤ k_)) ho0 (below_size (hbA HB)) (fun k_ h_ => h_)) (Kd.R_lt (krA HO109))) (below_size (hbA HB))); replace HO109 := mk0 (Kd.R_elder' (krA HO109) (Kd.R_base ho0) hb); replace HB := hbS HB hb; (try clear hb); (try clear ho0))))
    go_loopg [13, 46] k1 (fun kq v13 v46 w' => ∃ (x13_2 : List Int) (x46_2 : Int), v46 = .int .i64 x46_2 ∧ Aside0 (shape_Broadcast.l1 kq t107 t110 x13_2 ji13 x46_2 = some (r1, r2)) ∧ Aside0 (kq ≤ k1) ∧ Aside0 (Kd.R (Kd.int .i64) 2 w' w.heap.size (fun k_ => (w.heap.size ≤ k_) ∧ some k_ ≠ (v111 : Value).ownBlock ∧ some k_ ≠ (v13 : Value).ownBlock) v108 t107) ∧ Aside0 (Kd.R (Kd.int .i64) 2 w' w.heap.size (fun k_ => (w.heap.size ≤ k_) ∧ some k_ ≠ (v108 : Value).ownBlock ∧ some k_ ≠ (v13 : Value).ownBlock) v111 t110) ∧ Aside0 (Kd.R (Kd.int .i64) 2 w' w.heap.size (fun k_ => (w.heap.size ≤ k_) ∧ some k_ ≠ (v108 : Value).ownBlock ∧ some k_ ≠ (v111 : Value).ownBlock) v13 x13_2) ∧ Aside0 (Below w.heap.size w w'))
    case atStart => exact ⟨(([] : List Int)), (0), cl0, H', ⟨Nat.le_refl _⟩, ⟨by (with_reducible repeat (first | apply Kd.R_alloc | apply Kd.R_drewN | apply Kd.R_drew)); exact Kd.R_mono HO109.out (fun _ hk => ⟨hk.1.1, ⟨hk.2, (by simp [Value.ownBlock])⟩⟩)⟩, ⟨by (with_reducible repeat (first | apply Kd.R_alloc | apply Kd.R_drewN | apply Kd.R_drew)); exact Kd.R_mono HO112.out (fun _ hk => ⟨hk.1.1, ⟨hk.2, (by simp [Value.ownBlock])⟩⟩)⟩, ⟨by first | exact Kd.R_nil _ _ _ _ _ | exact Kd.N_nil _ _ _ _ _ | exact Kd.V_nil _ _ _ _ _ | exact Kd.Q_nil _ _ _ _ _ | exact Kd.S_nil _ _ _ _ _⟩, ⟨hbA HB⟩⟩
    case round =>
     clear H'; obtain ⟨x13_2, x46_2, rfl, HA, HK2, HO_11, HO_12, HO_13, HB⟩ := hrel
     cases gk with
     | zero => exact absurd HA.out (by simp [shape_Broadcast.l1])
     | succ k2 =>
      have H := HA.out; clear HA
      simp only [shape_Broadcast.l1] at H
      by_cases c18 : x46_2 < ji13
      ·
       rw [if_pos c18] at H; have c18b0 := decide_eq_true c18; clear c18; have HC19 := mk0 H; clear H
       go_upto_region 15 with (fail)
       repeat (go_quiet (fail); go_upto_region 15 with (fail))
       go_cut [49] (fun v49 wc => ∃ (kq : Nat) (x49_18 : Bool), v49 = .bool x49_18 ∧ Aside0 (shape_Broadcast.j2 kq t107 t110 x13_2 x46_2 ji13 x46_2 x49_18 = some (r1, r2)) ∧ Aside0 (kq ≤ k2) ∧ Aside0 (Kd.R (Kd.int .i64) 2 wc w.heap.size (fun k_ => (w.heap.size ≤ k_) ∧ some k_ ≠ (v111 : Value).ownBlock ∧ some k_ ≠ (u13 : Value).ownBlock) v108 t107) ∧ Aside0 (Kd.R (Kd.int .i64) 2 wc w.heap.size (fun k_ => (w.heap.size ≤ k_) ∧ some k_ ≠ (v108 : Value).ownBlock ∧ some k_ ≠ (u13 : Value).ownBlock) v111 t110) ∧ Aside0 (Kd.R (Kd.int .i64) 2 wc w.heap.size (fun k_ => (w.heap.size ≤ k_) ∧ some k_ ≠ (v108 : Value).ownBlock ∧ some k_ ≠ (v111 : Value).ownBlock) u13 x13_2) ∧ Aside0 (Below w.heap.size w wc))
       case first =>
        have H := HC19.out; clear HC19; replace H := ifS H; obtain ⟨c20, H⟩ := H; have c20b0 := decide_eq_true c20; clear c20
        (first | rw [c20b0] | (simp only [i64_w, i32_w]; rw [c20b0]) | skip)
        replace H := ifS H; obtain ⟨c21, H⟩ := H; have c21b0 := decide_eq_true c21; clear c21; replace H := ifS H; obtain ⟨c22, H⟩ := H; have c22b0 := decide_eq_true c22; clear c22
        by_cases c23 : (rd t107 x46_2) = (rd t110 x46_2)
        ·
         rw [if_pos c23] at H; have c23b0 := beq_iff_eq.mpr c23; have c23b1 := bne_eq_false_iff_eq.mpr c23; clear c23; have H' := mk0 H; clear H; obtain ⟨Ao24, co24, eo24⟩ := Kd.R_slice HO_11.out; subst eo24; have p115 : 0 ≤ (x46_2 : Int) := ofd; have q115 : x46_2 < (t107.length : Int) := ofd; obtain ⟨ad115, e115, hx115_0⟩ := Kd.at_int (Kd.R_reads' HO_11.out).2.2 x46_2 p115 q115; cases e115; replace p115 := eq_true p115; replace q115 := eq_true q115; obtain ⟨Ao25, co25, eo25⟩ := Kd.R_slice HO_12.out; subst eo25; have p116 : 0 ≤ (x46_2 : Int) := ofd; have q116 : x46_2 < (t110.length : Int) := ofd; obtain ⟨ad116, e116, hx116_0⟩ := Kd.at_int (Kd.R_reads' HO_12.out).2.2 x46_2 p116 q116; cases e116; replace p116 := eq_true p116; replace q116 := eq_true q116
         go_wp2
         repeat (go_quiet (fail); try go_wp2)
         go_meet
         case rel => exact ⟨_, (true), cl0, H', ⟨by have := HK1.out; have := HK2.out; first | omega | exact Nat.le_refl _⟩, ⟨krA HO_11⟩, ⟨krA HO_12⟩, ⟨krA HO_13⟩, ⟨hbA HB⟩⟩
        ·
         rw [if_neg c23] at H; have c23b0 := beq_eq_false_iff_ne.mpr c23; have c23b1 := bne_iff_ne.mpr c23; have H' := mk0 H; clear H; obtain ⟨Ao26, co26, eo26⟩ := Kd.R_slice HO_11.out; subst eo26; have p115 : 0 ≤ (x46_2 : Int) := ofd; have q115 : x46_2 < (t107.length : Int) := ofd; obtain ⟨ad115, e115, hx115_0⟩ := Kd.at_int (Kd.R_reads' HO_11.out).2.2 x46_2 p115 q115; cases e115; replace p115 := eq_true p115; replace q115 := eq_true q115; obtain ⟨Ao27, co27, eo27⟩ := Kd.R_slice HO_12.out; subst eo27; have p116 : 0 ≤ (x46_2 : Int) := ofd; have q116 : x46_2 < (t110.length : Int) := ofd; obtain ⟨ad116, e116, hx116_0⟩ := Kd.at_int (Kd.R_reads' HO_12.out).2.2 x46_2 p116 q116; cases e116; replace p116 := eq_true p116; replace q116 := eq_true q116; have p117 : 0 ≤ (x46_2 : Int) := ofd; have q117 : x46_2 < (t110.length : Int) := ofd; obtain ⟨ad117, e117, hx117_0⟩ := Kd.at_int (Kd.R_reads' HO_12.out).2.2 x46_2 p117 q117; obtain rfl : ad116 = ad117 := (by injection e117); replace p117 := eq_true p117; replace q117 := eq_true q117
         go_wp2
         repeat (go_quiet (fail); try go_wp2)
         go_meet
         case rel => exact ⟨_, (((rd t110 x46_2) == 1)), cl0, H', ⟨by have := HK1.out; have := HK2.out; first | omega | exact Nat.le_refl _⟩, ⟨krA HO_11⟩, ⟨krA HO_12⟩, ⟨krA HO_13⟩, ⟨hbA HB⟩⟩
       case rest =>
        clear HC19; try clear c1; try clear c6; try clear c6b0; try clear c18; try clear c18b0
        obtain ⟨kq, x49_18, rfl, HA, HJ18, HO_11, HO_12, HO_13, HB⟩ := hcut
        cases kq with
        | zero => exact absurd HA.out (by simp [shape_Broadcast.j2])
        | succ kj18 =>
         have H := HA.out; clear HA
         simp only [shape_Broadcast.j2] at H
         by_cases c28 : x49_18 = true
         ·
          subst c28; have H1 : (if 0 ≤ x46_2 then (if x46_2 < (t107.length : Int) then (if x13_2.length < 17592186044416 then (shape_Broadcast.l1 kj18 t107 t110 (x13_2 ++ [rd t107 x46_2]) ji13 (wrap64 (x46_2 + 1))) else (none)) else (none)) else (none)) = some (r1, r2) := by rw [if_pos rfl] at H; exact H
          clear H; have H := H1; clear H1; replace H := ifS H; obtain ⟨c29, H⟩ := H; have c29b0 := decide_eq_true c29; clear c29; replace H := ifS H; obtain ⟨c30, H⟩ := H; have c30b0 := decide_eq_true c30; clear c30; replace H := ifS H; obtain ⟨c31, H⟩ := H; have LMc31 := mk0 c31; clear c31; obtain ⟨y119, hy119⟩ : ∃ y_ : List Int, y_ = (x13_2 ++ [rd t107 x46_2]) := ⟨_, rfl⟩; replace H : (shape_Broadcast.l1 kj18 t107 t110 y119 ji13 (wrap64 (x46_2 + 1))) = some (r1, r2) := by first | (rw [hy119]; with_reducible exact H) | (have H2_ := (Option.bind_some _ _).symm.trans H; rw [hy119]; with_reducible exact H2_) | (have H2_ := (Option.bind_some _ _).symm.trans H; with_reducible exact H2_) | with_reducible exact H | (rw [hy119]; exact H) | exact H
          have Ny119 := mk0 hy119; clear hy119; have H' := mk0 H; clear H; obtain ⟨Ao32, co32, eo32⟩ := Kd.R_slice HO_11.out; subst eo32; have p118 : 0 ≤ (x46_2 : Int) := ofd; have q118 : x46_2 < (t107.length : Int) := ofd; obtain ⟨ad118, e118, hx118_0⟩ := Kd.at_int (Kd.R_reads' HO_11.out).2.2 x46_2 p118 q118; cases e118; replace p118 := eq_true p118; replace q118 := eq_true q118
          go_wp2_with (first | ((with_reducible refine gate_builtin (b := .append) (xs := #[.tmp 66, .tmp 71]) rfl ?_); at_builtin; refine Kd.R_append (Kd.int .i64) (w0 := w) w.heap.size rfl (.tmp 66) (.tmp 71) 31 2 (.int .i64 0) 8 rfl Tryz.underlying31 info2 rfl (by decide) (by omega) u13 x13_2 (rd t107 x46_2) [.int .i64 (rd t107 x46_2)] (fun k_ => (w.heap.size ≤ k_) ∧ some k_ ≠ (.slice (some ad118) t107.length co32 : Value).ownBlock ∧ some k_ ≠ (v111 : Value).ownBlock) (fun _ => False) rfl rfl ?aP (fun _ hk => hk.elim) ?aF ?aO ?aB ?aS ?aL ?_; (case aP => exact rfl); (case aB => exact (hbA HB)); (case aF => exact (fun k_ hk => ⟨(Nat.le_trans (below_size (hbA HB)) hk), Kd.fresh' (Kd.R_lt (krA HO_11)) k_ hk, Kd.fresh' (Kd.R_lt (krA HO_12)) k_ hk⟩)); (case aO => exact (krA HO_13)); (case aS => exact (below_size (hbA HB))); (case aL => have := LMc31.out; omega); intro v120 w33 ho hb hg hat; rw [← Ny119.out] at ho; replace HO_11 := mk0 (Kd.R_after (ok := (fun k_ => (w.heap.size ≤ k_) ∧ some k_ ≠ (v111 : Value).ownBlock)) (by (with_reducible repeat (first | apply Kd.R_alloc | apply Kd.R_drewN | apply Kd.R_drew)); exact Kd.R_mono HO_11.out (fun _ hk => ⟨⟨hk.1, hk.2.1⟩, hk.2.2⟩)) hg hat); replace HO_12 := mk0 (Kd.R_after (ok := (fun k_ => (w.heap.size ≤ k_) ∧ some k_ ≠ (.slice (some ad118) t107.length co32 : Value).ownBlock)) (by (with_reducible repeat (first | apply Kd.R_alloc | apply Kd.R_drewN | apply Kd.R_drew)); exact Kd.R_mono HO_12.out (fun _ hk => ⟨⟨hk.1, hk.2.1⟩, hk.2.2⟩)) hg hat); replace HB := mk0 hb; have HO121 := mk0 ho; clear HO_13; clear ho hb hg hat))
          repeat (go_quiet (first | ((with_reducible refine gate_builtin (b := .append) (xs := #[.tmp 66, .tmp 71]) rfl ?_); at_builtin; refine Kd.R_append (Kd.int .i64) (w0 := w) w.heap.size rfl (.tmp 66) (.tmp 71) 31 2 (.int .i64 0) 8 rfl Tryz.underlying31 info2 rfl (by decide) (by omega) u13 x13_2 (rd t107 x46_2) [.int .i64 (rd t107 x46_2)] (fun k_ => (w.heap.size ≤ k_) ∧ some k_ ≠ (.slice (some ad118) t107.length co32 : Value).ownBlock ∧ some k_ ≠ (v111 : Value).ownBlock) (fun _ => False) rfl rfl ?aP (fun _ hk => hk.elim) ?aF ?aO ?aB ?aS ?aL ?_; (case aP => exact rfl); (case aB => exact (hbA HB)); (case aF => exact (fun k_ hk => ⟨(Nat.le_trans (below_size (hbA HB)) hk), Kd.fresh' (Kd.R_lt (krA HO_11)) k_ hk, Kd.fresh' (Kd.R_lt (krA HO_12)) k_ hk⟩)); (case aO => exact (krA HO_13)); (case aS => exact (below_size (hbA HB))); (case aL => have := LMc31.out; omega); intro v120 w33 ho hb hg hat; rw [← Ny119.out] at ho; replace HO_11 := mk0 (Kd.R_after (ok := (fun k_ => (w.heap.size ≤ k_) ∧ some k_ ≠ (v111 : Value).ownBlock)) (by (with_reducible repeat (first | apply Kd.R_alloc | apply Kd.R_drewN | apply Kd.R_drew)); exact Kd.R_mono HO_11.out (fun _ hk => ⟨⟨hk.1, hk.2.1⟩, hk.2.2⟩)) hg hat); replace HO_12 := mk0 (Kd.R_after (ok := (fun k_ => (w.heap.size ≤ k_) ∧ some k_ ≠ (.slice (some ad118) t107.length co32 : Value).ownBlock)) (by (with_reducible repeat (first | apply Kd.R_alloc | apply Kd.R_drewN | apply Kd.R_drew)); exact Kd.R_mono HO_12.out (fun _ hk => ⟨⟨hk.1, hk.2.1⟩, hk.2.2⟩)) hg hat); replace HB := mk0 hb; have HO121 := mk0 ho; clear HO_13; clear ho hb hg hat)); try go_wp2_with (first | ((with_reducible refine gate_builtin (b := .append) (xs := #[.tmp 66, .tmp 71]) rfl ?_); at_builtin; refine Kd.R_append (Kd.int .i64) (w0 := w) w.heap.size rfl (.tmp 66) (.tmp 71) 31 2 (.int .i64 0) 8 rfl Tryz.underlying31 info2 rfl (by decide) (by omega) u13 x13_2 (rd t107 x46_2) [.int .i64 (rd t107 x46_2)] (fun k_ => (w.heap.size ≤ k_) ∧ some k_ ≠ (.slice (some ad118) t107.length co32 : Value).ownBlock ∧ some k_ ≠ (v111 : Value).ownBlock) (fun _ => False) rfl rfl ?aP (fun _ hk => hk.elim) ?aF ?aO ?aB ?aS ?aL ?_; (case aP => exact rfl); (case aB => exact (hbA HB)); (case aF => exact (fun k_ hk => ⟨(Nat.le_trans (below_size (hbA HB)) hk), Kd.fresh' (Kd.R_lt (krA HO_11)) k_ hk, Kd.fresh' (Kd.R_lt (krA HO_12)) k_ hk⟩)); (case aO => exact (krA HO_13)); (case aS => exact (below_size (hbA HB))); (case aL => have := LMc31.out; omega); intro v120 w33 ho hb hg hat; rw [← Ny119.out] at ho; replace HO_11 := mk0 (Kd.R_after (ok := (fun k_ => (w.heap.size ≤ k_) ∧ some k_ ≠ (v111 : Value).ownBlock)) (by (with_reducible repeat (first | apply Kd.R_alloc | apply Kd.R_drewN | apply Kd.R_drew)); exact Kd.R_mono HO_11.out (fun _ hk => ⟨⟨hk.1, hk.2.1⟩, hk.2.2⟩)) hg hat); replace HO_12 := mk0 (Kd.R_after (ok := (fun k_ => (w.heap.size ≤ k_) ∧ some k_ ≠ (.slice (some ad118) t107.length co32 : Value).ownBlock)) (by (with_reducible repeat (first | apply Kd.R_alloc | apply Kd.R_drewN | apply Kd.R_drew)); exact Kd.R_mono HO_12.out (fun _ hk => ⟨⟨hk.1, hk.2.1⟩, hk.2.2⟩)) hg hat); replace HB := mk0 hb; have HO121 := mk0 ho; clear HO_13; clear ho hb hg hat)))
          go_roundg kj18
          case measure => have := HK1.out; have := HK2.out; have := HJ18.out; omega
          case rel => exact ⟨(y119), (wrap64 (x46_2 + 1)), cl0, H', ⟨by have := HK1.out; have := HK2.out; have := HJ18.out; omega⟩, ⟨by (with_reducible repeat (first | apply Kd.R_alloc | apply Kd.R_drewN | apply Kd.R_drew)); exact Kd.R_mono HO_11.out (fun _ hk => ⟨hk.1.1, ⟨hk.1.2, hk.2⟩⟩)⟩, ⟨by (with_reducible repeat (first | apply Kd.R_alloc | apply Kd.R_drewN | apply Kd.R_drew)); exact Kd.R_mono HO_12.out (fun _ hk => ⟨hk.1.1, ⟨hk.1.2, hk.2⟩⟩)⟩, ⟨krA HO121⟩, ⟨hbA HB⟩⟩
         ·
          replace c28 := Bool.eq_false_iff.mpr c28; subst c28; have H1 : (if 0 ≤ x46_2 then (if x46_2 < (t107.length : Int) then (if (rd t107 x46_2) = 1 then (if x46_2 < (t110.length : Int) then (if x13_2.length < 17592186044416 then (shape_Broadcast.l1 kj18 t107 t110 (x13_2 ++ [rd t110 x46_2]) ji13 (wrap64 (x46_2 + 1))) else (none)) else (none)) else (some (([] : List Int), 6))) else (none)) else (none)) = some (r1, r2) := by rw [if_neg (show ¬ (false = true) by decide)] at H; exact H
          clear H; have H := H1; clear H1; replace H := ifS H; obtain ⟨c34, H⟩ := H; have c34b0 := decide_eq_true c34; clear c34; replace H := ifS H; obtain ⟨c35, H⟩ := H; have c35b0 := decide_eq_true c35; clear c35
          by_cases c36 : (rd t107 x46_2) = 1
          ·
           rw [if_pos c36] at H; have c36b0 := beq_iff_eq.mpr c36; have c36b1 := bne_eq_false_iff_eq.mpr c36; clear c36; replace H := ifS H; obtain ⟨c37, H⟩ := H; have c37b0 := decide_eq_true c37; clear c37; replace H := ifS H; obtain ⟨c38, H⟩ := H; have LMc38 := mk0 c38; clear c38; obtain ⟨y124, hy124⟩ : ∃ y_ : List Int, y_ = (x13_2 ++ [rd t110 x46_2]) := ⟨_, rfl⟩; replace H : (shape_Broadcast.l1 kj18 t107 t110 y124 ji13 (wrap64 (x46_2 + 1))) = some (r1, r2) := by first | (rw [hy124]; with_reducible exact H) | (have H2_ := (Option.bind_some _ _).symm.trans H; rw [hy124]; with_reducible exact H2_) | (have H2_ := (Option.bind_some _ _).symm.trans H; with_reducible exact H2_) | with_reducible exact H | (rw [hy124]; exact H) | exact H
           have Ny124 := mk0 hy124; clear hy124; have H' := mk0 H; clear H; obtain ⟨Ao39, co39, eo39⟩ := Kd.R_slice HO_11.out; subst eo39; have p122 : 0 ≤ (x46_2 : Int) := ofd; have q122 : x46_2 < (t107.length : Int) := ofd; obtain ⟨ad122, e122, hx122_0⟩ := Kd.at_int (Kd.R_reads' HO_11.out).2.2 x46_2 p122 q122; cases e122; replace p122 := eq_true p122; replace q122 := eq_true q122; obtain ⟨Ao40, co40, eo40⟩ := Kd.R_slice HO_12.out; subst eo40; have p123 : 0 ≤ (x46_2 : Int) := ofd; have q123 : x46_2 < (t110.length : Int) := ofd; obtain ⟨ad123, e123, hx123_0⟩ := Kd.at_int (Kd.R_reads' HO_12.out).2.2 x46_2 p123 q123; cases e123; replace p123 := eq_true p123; replace q123 := eq_true q123
           go_wp2_with (first | ((with_reducible refine gate_builtin (b := .append) (xs := #[.tmp 79, .tmp 84]) rfl ?_); at_builtin; refine Kd.R_append (Kd.int .i64) (w0 := w) w.heap.size rfl (.tmp 79) (.tmp 84) 31 2 (.int .i64 0) 8 rfl Tryz.underlying31 info2 rfl (by decide) (by omega) u13 x13_2 (rd t110 x46_2) [.int .i64 (rd t110 x46_2)] (fun k_ => (w.heap.size ≤ k_) ∧ some k_ ≠ (.slice (some ad122) t107.length co39 : Value).ownBlock ∧ some k_ ≠ (.slice (some ad123) t110.length co40 : Value).ownBlock) (fun _ => False) rfl rfl ?aP (fun _ hk => hk.elim) ?aF ?aO ?aB ?aS ?aL ?_; (case aP => exact rfl); (case aB => exact (hbA HB)); (case aF => exact (fun k_ hk => ⟨(Nat.le_trans (below_size (hbA HB)) hk), Kd.fresh' (Kd.R_lt (krA HO_11)) k_ hk, Kd.fresh' (Kd.R_lt (krA HO_12)) k_ hk⟩)); (case aO => exact (krA HO_13)); (case aS => exact (below_size (hbA HB))); (case aL => have := LMc38.out; omega); intro v125 w41 ho hb hg hat; rw [← Ny124.out] at ho; replace HO_11 := mk0 (Kd.R_after (ok := (fun k_ => (w.heap.size ≤ k_) ∧ some k_ ≠ (.slice (some ad123) t110.length co40 : Value).ownBlock)) (by (with_reducible repeat (first | apply Kd.R_alloc | apply Kd.R_drewN | apply Kd.R_drew)); exact Kd.R_mono HO_11.out (fun _ hk => ⟨⟨hk.1, hk.2.1⟩, hk.2.2⟩)) hg hat); replace HO_12 := mk0 (Kd.R_after (ok := (fun k_ => (w.heap.size ≤ k_) ∧ some k_ ≠ (.slice (some ad122) t107.length co39 : Value).ownBlock)) (by (with_reducible repeat (first | apply Kd.R_alloc | apply Kd.R_drewN | apply Kd.R_drew)); exact Kd.R_mono HO_12.out (fun _ hk => ⟨⟨hk.1, hk.2.1⟩, hk.2.2⟩)) hg hat); replace HB := mk0 hb; have HO126 := mk0 ho; clear HO_13; clear ho hb hg hat))
           repeat (go_quiet (first | ((with_reducible refine gate_builtin (b := .append) (xs := #[.tmp 79, .tmp 84]) rfl ?_); at_builtin; refine Kd.R_append (Kd.int .i64) (w0 := w) w.heap.size rfl (.tmp 79) (.tmp 84) 31 2 (.int .i64 0) 8 rfl Tryz.underlying31 info2 rfl (by decide) (by omega) u13 x13_2 (rd t110 x46_2) [.int .i64 (rd t110 x46_2)] (fun k_ => (w.heap.size ≤ k_) ∧ some k_ ≠ (.slice (some ad122) t107.length co39 : Value).ownBlock ∧ some k_ ≠ (.slice (some ad123) t110.length co40 : Value).ownBlock) (fun _ => False) rfl rfl ?aP (fun _ hk => hk.elim) ?aF ?aO ?aB ?aS ?aL ?_; (case aP => exact rfl); (case aB => exact (hbA HB)); (case aF => exact (fun k_ hk => ⟨(Nat.le_trans (below_size (hbA HB)) hk), Kd.fresh' (Kd.R_lt (krA HO_11)) k_ hk, Kd.fresh' (Kd.R_lt (krA HO_12)) k_ hk⟩)); (case aO => exact (krA HO_13)); (case aS => exact (below_size (hbA HB))); (case aL => have := LMc38.out; omega); intro v125 w41 ho hb hg hat; rw [← Ny124.out] at ho; replace HO_11 := mk0 (Kd.R_after (ok := (fun k_ => (w.heap.size ≤ k_) ∧ some k_ ≠ (.slice (some ad123) t110.length co40 : Value).ownBlock)) (by (with_reducible repeat (first | apply Kd.R_alloc | apply Kd.R_drewN | apply Kd.R_drew)); exact Kd.R_mono HO_11.out (fun _ hk => ⟨⟨hk.1, hk.2.1⟩, hk.2.2⟩)) hg hat); replace HO_12 := mk0 (Kd.R_after (ok := (fun k_ => (w.heap.size ≤ k_) ∧ some k_ ≠ (.slice (some ad122) t107.length co39 : Value).ownBlock)) (by (with_reducible repeat (first | apply Kd.R_alloc | apply Kd.R_drewN | apply Kd.R_drew)); exact Kd.R_mono HO_12.out (fun _ hk => ⟨⟨hk.1, hk.2.1⟩, hk.2.2⟩)) hg hat); replace HB := mk0 hb; have HO126 := mk0 ho; clear HO_13; clear ho hb hg hat)); try go_wp2_with (first | ((with_reducible refine gate_builtin (b := .append) (xs := #[.tmp 79, .tmp 84]) rfl ?_); at_builtin; refine Kd.R_append (Kd.int .i64) (w0 := w) w.heap.size rfl (.tmp 79) (.tmp 84) 31 2 (.int .i64 0) 8 rfl Tryz.underlying31 info2 rfl (by decide) (by omega) u13 x13_2 (rd t110 x46_2) [.int .i64 (rd t110 x46_2)] (fun k_ => (w.heap.size ≤ k_) ∧ some k_ ≠ (.slice (some ad122) t107.length co39 : Value).ownBlock ∧ some k_ ≠ (.slice (some ad123) t110.length co40 : Value).ownBlock) (fun _ => False) rfl rfl ?aP (fun _ hk => hk.elim) ?aF ?aO ?aB ?aS ?aL ?_; (case aP => exact rfl); (case aB => exact (hbA HB)); (case aF => exact (fun k_ hk => ⟨(Nat.le_trans (below_size (hbA HB)) hk), Kd.fresh' (Kd.R_lt (krA HO_11)) k_ hk, Kd.fresh' (Kd.R_lt (krA HO_12)) k_ hk⟩)); (case aO => exact (krA HO_13)); (case aS => exact (below_size (hbA HB))); (case aL => have := LMc38.out; omega); intro v125 w41 ho hb hg hat; rw [← Ny124.out] at ho; replace HO_11 := mk0 (Kd.R_after (ok := (fun k_ => (w.heap.size ≤ k_) ∧ some k_ ≠ (.slice (some ad123) t110.length co40 : Value).ownBlock)) (by (with_reducible repeat (first | apply Kd.R_alloc | apply Kd.R_drewN | apply Kd.R_drew)); exact Kd.R_mono HO_11.out (fun _ hk => ⟨⟨hk.1, hk.2.1⟩, hk.2.2⟩)) hg hat); replace HO_12 := mk0 (Kd.R_after (ok := (fun k_ => (w.heap.size ≤ k_) ∧ some k_ ≠ (.slice (some ad122) t107.length co39 : Value).ownBlock)) (by (with_reducible repeat (first | apply Kd.R_alloc | apply Kd.R_drewN | apply Kd.R_drew)); exact Kd.R_mono HO_12.out (fun _ hk => ⟨⟨hk.1, hk.2.1⟩, hk.2.2⟩)) hg hat); replace HB := mk0 hb; have HO126 := mk0 ho; clear HO_13; clear ho hb hg hat)))
           go_roundg kj18
           case measure => have := HK1.out; have := HK2.out; have := HJ18.out; omega
           case rel => exact ⟨(y124), (wrap64 (x46_2 + 1)), cl0, H', ⟨by have := HK1.out; have := HK2.out; have := HJ18.out; omega⟩, ⟨by (with_reducible repeat (first | apply Kd.R_alloc | apply Kd.R_drewN | apply Kd.R_drew)); exact Kd.R_mono HO_11.out (fun _ hk => ⟨hk.1.1, ⟨hk.1.2, hk.2⟩⟩)⟩, ⟨by (with_reducible repeat (first | apply Kd.R_alloc | apply Kd.R_drewN | apply Kd.R_drew)); exact Kd.R_mono HO_12.out (fun _ hk => ⟨hk.1.1, ⟨hk.1.2, hk.2⟩⟩)⟩, ⟨krA HO126⟩, ⟨hbA HB⟩⟩
          ·
           rw [if_neg c36] at H; have c36b0 := beq_eq_false_iff_ne.mpr c36; have c36b1 := bne_iff_ne.mpr c36
           simp only [Option.some.injEq, Prod.mk.injEq] at H
           obtain ⟨rfl, rfl⟩ := H; obtain ⟨Ao42, co42, eo42⟩ := Kd.R_slice HO_11.out; subst eo42; have p122 : 0 ≤ (x46_2 : Int) := ofd; have q122 : x46_2 < (t107.length : Int) := ofd; obtain ⟨ad122, e122, hx122_0⟩ := Kd.at_int (Kd.R_reads' HO_11.out).2.2 x46_2 p122 q122; cases e122; replace p122 := eq_true p122; replace q122 := eq_true q122
           go_wp2
           repeat (go_quiet (fail); try go_wp2)
           go_ret2
           exact ⟨_, by first | rfl | (simp [errW_none, errW_some] <;> rfl) | (simp only [← hji13]; first | rfl | (simp [errW_none, errW_some] <;> rfl)) | (simp [*, errW_none, errW_some] <;> rfl), by first | exact Kd.R_nil _ _ _ _ _ | exact Kd.N_nil _ _ _ _ _ | exact Kd.V_nil _ _ _ _ _ | exact Kd.Q_nil _ _ _ _ _ | exact Kd.S_nil _ _ _ _ _, hbA HB⟩
      ·
       rw [if_neg c18] at H; have c18b0 := decide_eq_false c18; clear c18; replace H := Option.bind_eq_some_iff.mp H; obtain ⟨⟨t113, t114⟩, A430, H⟩ := H; replace H : (if t114 = 0 then (some (x13_2, 0)) else (some (([] : List Int), t114))) = some (r1, r2) := H; have A43 := mk0 A430; clear A430
       by_cases c44 : t114 = 0
       ·
        rw [if_pos c44] at H; have c44b0 := beq_iff_eq.mpr c44; have c44b1 := bne_eq_false_iff_eq.mpr c44; clear c44
        simp only [Option.some.injEq, Prod.mk.injEq] at H
        obtain ⟨rfl, rfl⟩ := H; obtain ⟨Ao45, co45, eo45⟩ := Kd.R_slice HO_13.out; subst eo45
        go_wp2_with (first | (go_at_call 57; (with_reducible refine (shape_Size_s.calls _ _ x13_2 t113 t114 _ ?side1 ?side2 A43.out).mono ?_); (case side1 => repeat (first | exact (Kd.R_reads' HO_13.out).2.2 | (with_reducible refine Kd.C_alloc ?_ _) | (with_reducible refine Kd.C_drewN ?_ _) | (with_reducible refine Kd.C_drew ?_))); (case side2 => exact (Kd.R_reads' HO_13.out).2.1); rintro e w46 ⟨rfl, hb⟩; replace HO_11 := mk0 (Kd.R_below (krA HO_11) hb); replace HO_12 := mk0 (Kd.R_below (krA HO_12) hb); replace HO_13 := mk0 (Kd.R_below (krA HO_13) hb); replace HB := hbS HB hb; (try clear hb)))
        repeat (go_quiet (first | (go_at_call 57; (with_reducible refine (shape_Size_s.calls _ _ x13_2 t113 t114 _ ?side1 ?side2 A43.out).mono ?_); (case side1 => repeat (first | exact (Kd.R_reads' HO_13.out).2.2 | (with_reducible refine Kd.C_alloc ?_ _) | (with_reducible refine Kd.C_drewN ?_ _) | (with_reducible refine Kd.C_drew ?_))); (case side2 => exact (Kd.R_reads' HO_13.out).2.1); rintro e w46 ⟨rfl, hb⟩; replace HO_11 := mk0 (Kd.R_below (krA HO_11) hb); replace HO_12 := mk0 (Kd.R_below (krA HO_12) hb); replace HO_13 := mk0 (Kd.R_below (krA HO_13) hb); replace HB := hbS HB hb; (try clear hb))); try go_wp2_with (first | (go_at_call 57; (with_reducible refine (shape_Size_s.calls _ _ x13_2 t113 t114 _ ?side1 ?side2 A43.out).mono ?_); (case side1 => repeat (first | exact (Kd.R_reads' HO_13.out).2.2 | (with_reducible refine Kd.C_alloc ?_ _) | (with_reducible refine Kd.C_drewN ?_ _) | (with_reducible refine Kd.C_drew ?_))); (case side2 => exact (Kd.R_reads' HO_13.out).2.1); rintro e w46 ⟨rfl, hb⟩; replace HO_11 := mk0 (Kd.R_below (krA HO_11) hb); replace HO_12 := mk0 (Kd.R_below (krA HO_12) hb); replace HO_13 := mk0 (Kd.R_below (krA HO_13) hb); replace HB := hbS HB hb; (try clear hb))))
        go_ret2
        exact ⟨_, by first | rfl | (simp [errW_none, errW_some] <;> rfl) | (simp only [← hji13]; first | rfl | (simp [errW_none, errW_some] <;> rfl)) | (simp [*, errW_none, errW_some] <;> rfl), by (with_reducible repeat (first | apply Kd.R_alloc | apply Kd.R_drewN | apply Kd.R_drew)); exact Kd.R_mono HO_13.out (fun _ hk => hk.1), hbA HB⟩
       ·
        rw [if_neg c44] at H; have c44b0 := beq_eq_false_iff_ne.mpr c44; have c44b1 := bne_iff_ne.mpr c44
        simp only [Option.some.injEq, Prod.mk.injEq] at H
        obtain ⟨rfl, rfl⟩ := H; obtain ⟨Ao47, co47, eo47⟩ := Kd.R_slice HO_13.out; subst eo47
        go_wp2_with (first | (go_at_call 57; (with_reducible refine (shape_Size_s.calls _ _ x13_2 t113 t114 _ ?side1 ?side2 A43.out).mono ?_); (case side1 => repeat (first | exact (Kd.R_reads' HO_13.out).2.2 | (with_reducible refine Kd.C_alloc ?_ _) | (with_reducible refine Kd.C_drewN ?_ _) | (with_reducible refine Kd.C_drew ?_))); (case side2 => exact (Kd.R_reads' HO_13.out).2.1); rintro e w48 ⟨rfl, hb⟩; replace HO_11 := mk0 (Kd.R_below (krA HO_11) hb); replace HO_12 := mk0 (Kd.R_below (krA HO_12) hb); replace HO_13 := mk0 (Kd.R_below (krA HO_13) hb); replace HB := hbS HB hb; (try clear hb)))
        repeat (go_quiet (first | (go_at_call 57; (with_reducible refine (shape_Size_s.calls _ _ x13_2 t113 t114 _ ?side1 ?side2 A43.out).mono ?_); (case side1 => repeat (first | exact (Kd.R_reads' HO_13.out).2.2 | (with_reducible refine Kd.C_alloc ?_ _) | (with_reducible refine Kd.C_drewN ?_ _) | (with_reducible refine Kd.C_drew ?_))); (case side2 => exact (Kd.R_reads' HO_13.out).2.1); rintro e w48 ⟨rfl, hb⟩; replace HO_11 := mk0 (Kd.R_below (krA HO_11) hb); replace HO_12 := mk0 (Kd.R_below (krA HO_12) hb); replace HO_13 := mk0 (Kd.R_below (krA HO_13) hb); replace HB := hbS HB hb; (try clear hb))); try go_wp2_with (first | (go_at_call 57; (with_reducible refine (shape_Size_s.calls _ _ x13_2 t113 t114 _ ?side1 ?side2 A43.out).mono ?_); (case side1 => repeat (first | exact (Kd.R_reads' HO_13.out).2.2 | (with_reducible refine Kd.C_alloc ?_ _) | (with_reducible refine Kd.C_drewN ?_ _) | (with_reducible refine Kd.C_drew ?_))); (case side2 => exact (Kd.R_reads' HO_13.out).2.1); rintro e w48 ⟨rfl, hb⟩; replace HO_11 := mk0 (Kd.R_below (krA HO_11) hb); replace HO_12 := mk0 (Kd.R_below (krA HO_12) hb); replace HO_13 := mk0 (Kd.R_below (krA HO_13) hb); replace HB := hbS HB hb; (try clear hb))))
        go_ret2
        exact ⟨_, by first | rfl | (simp [errW_none, errW_some] <;> rfl) | (simp only [← hji13]; first | rfl | (simp [errW_none, errW_some] <;> rfl)) | (simp [*, errW_none, errW_some] <;> rfl), by first | exact Kd.R_nil _ _ _ _ _ | exact Kd.N_nil _ _ _ _ _ | exact Kd.V_nil _ _ _ _ _ | exact Kd.Q_nil _ _ _ _ _ | exact Kd.S_nil _ _ _ _ _, hbA HB⟩
end Go.Proofs.YtgmggompdidcoaaGreatDoor.X
