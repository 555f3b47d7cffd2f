import Derived.Test.YtohddbiedabmhaaMWireReads0
import Derived.Test.YtohddbiedabmhaaMWireReads7
import Derived.Test.YtohddbiedabmhaaMWireReads2
-- by xprint.py, a program of this session, over the kit's print.py
namespace Go.Proofs.Ytohddbiedabmhaa.X
open Go.RowKit Go.Proofs.YtohddbiedabmhaaW.PrintWords Go.Proofs.YtohddbiedabmhaaW.PrintLast Go.Proofs.YtohddbiedabmhaaW.PrintMore
attribute [local go_sem] max2_int min2_int max_two min_two max_three min_three max_four min_four   -- for this text's walks alone
set_option linter.unusedVariables false
set_option linter.unusedSimpArgs false

def agateref02_All_s.f (l0 : List (S50)) (a1 : Int) : Option (List (S50)) := if l0.length ≤ 3518437208883 then some (l0.filter fun x => x.f0 == a1) else none
theorem agateref02_All_eval (l0 : List (S50)) (a1 : Int) (hb : l0.length ≤ 3518437208883) (d : Nat) : ∀ (k i : Nat) (acc : List (S50)), l0.length - i = d → i ≤ l0.length → acc.length ≤ i → d < k →
    agateref02_All.l0 k l0 a1 acc i = some (acc ++ (l0.drop i).filter fun x => x.f0 == a1) := by
  induction d with
  | zero =>
    intro k i acc hd hi ha hk
    obtain ⟨k, rfl⟩ : ∃ m, k = m + 1 := ⟨k - 1, by omega⟩
    simp only [agateref02_All.l0]
    rw [if_neg (by omega), List.drop_of_length_le (by omega)]
    simp
  | succ d ih =>
    intro k i acc hd hi ha hk
    obtain ⟨k, rfl⟩ : ∃ m, k = m + 1 := ⟨k - 1, by omega⟩
    have h0 : i < l0.length := by omega
    have e0 : rd_T50 l0 (i : Int) = l0[i] := by simp [rd_T50, List.getD_eq_getElem?_getD, h0]
    simp only [agateref02_All.l0, e0]
    rw [if_pos (by omega), if_pos (by omega), List.drop_eq_getElem_cons h0, wrap64_id (by omega) (by omega)]
    try rw [if_pos (show (i : Int) < (l0.length : Int) by omega)]
    by_cases h : l0[i].f0 = a1
    · rw [if_pos h, if_pos (by omega)]
      have := ih k (i + 1) (acc ++ [l0[i]]) (by omega) (by omega) (by simp; omega) (by omega)
      refine this.trans ?_
      rw [List.filter_cons_of_pos (by simp [h]), List.append_assoc]; rfl
    · rw [if_neg h]
      have := ih k (i + 1) acc (by omega) (by omega) (by omega) (by omega)
      refine this.trans ?_
      rw [List.filter_cons_of_neg (by simp [h])]
theorem agateref02_All_s.ev (l0 : List (S50)) (a1 : Int) (r) (h : agateref02_All_s.f l0 a1 = some r) : ∃ k, agateref02_All.f k l0 a1 = some r := by
  unfold agateref02_All_s.f at h
  split at h
  · rename_i hb
    rw [← h]
    refine ⟨l0.length + 1, ?_⟩
    unfold agateref02_All.f
    simpa using agateref02_All_eval l0 a1 hb l0.length (l0.length + 1) 0 [] (by omega) (by omega) (by simp) (by omega)
  · cases h

set_option maxHeartbeats 1000000 in
theorem agateref02_All_s.calls (A0 : Option Addr) (c0 : Nat) (l0 : List (S50)) (a1 : Int) (r : List (S50)) (w : World) (hr0 : Kd.C k50 w A0 l0.length l0) (hc0 : l0.length ≤ c0) (h : agateref02_All_s.f l0 a1 = some r) :
    Calls Try.prog 25 #[.slice A0 l0.length c0, .int .i64 a1] w fun e w' => ∃ v0_ : Value, e = .returned (v0_) ∧ Kd.R k50 50 w' w.heap.size (fun _ => True) v0_ r ∧ Below w.heap.size w w' := by
  obtain ⟨k, hk⟩ := agateref02_All_s.ev l0 a1 _ h
  exact agateref02_All.calls k A0 c0 l0 a1 r w hr0 hc0 hk

end Go.Proofs.Ytohddbiedabmhaa.X
-- by xprint.py, a program of this session, over the kit's print.py
namespace Go.Proofs.Ytohddbiedabmhaa.X
open Go.RowKit Go.Proofs.YtohddbiedabmhaaW.PrintWords Go.Proofs.YtohddbiedabmhaaW.PrintLast Go.Proofs.YtohddbiedabmhaaW.PrintMore
attribute [local go_sem] max2_int min2_int max_two min_two max_three min_three max_four min_four   -- for this text's walks alone
set_option linter.unusedVariables false
set_option linter.unusedSimpArgs false

/-! ### agateref01_Read: function 14 -/
mutual
def agateref01_Read.l0 : Nat → ByteArray → Int → Int → Int → Option (Int × Int × Int)
  | 0, _, _, _, _ => none
  | k + 1, x0, x5, x6, x7 => if x7 < 10 then (if x7 = (x0.size : Int) then (some (0, 0, 1)) else (if x7 = 9 then (if 0 ≤ x7 then (if x7 < (x0.size : Int) then (agateref01_Read.j1 k x0 x5 x6 x7 (decide ((bt x0 x7) > 1))) else (none)) else (none)) else (agateref01_Read.j1 k x0 x5 x6 x7 false))) else (some (0, 0, 2))
def agateref01_Read.j1 : Nat → ByteArray → Int → Int → Int → Bool → Option (Int × Int × Int)
  | 0, _, _, _, _, _ => none
  | k + 1, x0, x5, x6, x7, x23 => if x23 = true then (some (0, 0, 2)) else (if 0 ≤ x7 then (if x7 < (x0.size : Int) then (if (bt x0 x7) < 128 then (some (IntKind.u64.wrap (x5 + (IntKind.u64.wrap ((IntKind.u64.wrap (Int.tmod (bt x0 x7) 128)) * x6))), wrap64 (x7 + 1), 0)) else (agateref01_Read.l0 k x0 (IntKind.u64.wrap (x5 + (IntKind.u64.wrap ((IntKind.u64.wrap (Int.tmod (bt x0 x7) 128)) * x6)))) (IntKind.u64.wrap (x6 * 128)) (wrap64 (x7 + 1)))) else (none)) else (none))
end
def agateref01_Read.f (k : Nat) (a0 : ByteArray) : Option (Int × Int × Int) := agateref01_Read.l0 k a0 0 1 0
theorem agateref01_Read.mono_l : ∀ k, (∀ y0 y1 y2 y3, LeO (agateref01_Read.l0 k y0 y1 y2 y3) (agateref01_Read.l0 (k + 1) y0 y1 y2 y3)) ∧ (∀ y0 y1 y2 y3 y4, LeO (agateref01_Read.j1 k y0 y1 y2 y3 y4) (agateref01_Read.j1 (k + 1) y0 y1 y2 y3 y4))
  | 0 => ⟨fun _ _ _ _ r h => by simp [agateref01_Read.l0] at h, fun _ _ _ _ _ r h => by simp [agateref01_Read.j1] at h⟩
  | k + 1 => by
    obtain ⟨ih0, ih1⟩ := agateref01_Read.mono_l k
    refine ⟨?_, ?_⟩
    · intro y0 y1 y2 y3
      unfold agateref01_Read.l0
      repeat' first
      | (with_reducible exact ih0 _ _ _ _)
      | (with_reducible exact ih1 _ _ _ _ _)
      | (with_reducible exact LeO.refl _)
      | (with_reducible exact LeO.none _)
      | (with_reducible refine LeO.ite ?_ ?_)
      | (with_reducible refine LeO.bind ?_ (fun _ => ?_))
      | exact ih0 _ _ _ _
      | exact ih1 _ _ _ _ _
      | exact LeO.none _
      | refine LeO.ite ?_ ?_
      | refine LeO.bind ?_ (fun _ => ?_)
    · intro y0 y1 y2 y3 y4
      unfold agateref01_Read.j1
      repeat' first
      | (with_reducible exact ih0 _ _ _ _)
      | (with_reducible exact ih1 _ _ _ _ _)
      | (with_reducible exact LeO.refl _)
      | (with_reducible exact LeO.none _)
      | (with_reducible refine LeO.ite ?_ ?_)
      | (with_reducible refine LeO.bind ?_ (fun _ => ?_))
      | exact ih0 _ _ _ _
      | exact ih1 _ _ _ _ _
      | exact LeO.none _
      | refine LeO.ite ?_ ?_
      | refine LeO.bind ?_ (fun _ => ?_)
theorem agateref01_Read.mono : ∀ a0 k, LeO (agateref01_Read.f k a0) (agateref01_Read.f (k + 1) a0) := by
  intro a0 k
  obtain ⟨ih0, ih1⟩ := agateref01_Read.mono_l k
  unfold agateref01_Read.f
  repeat' first
      | (with_reducible exact ih0 _ _ _ _)
      | (with_reducible exact ih1 _ _ _ _ _)
      | (with_reducible exact LeO.refl _)
      | (with_reducible exact LeO.none _)
      | (with_reducible refine LeO.ite ?_ ?_)
      | (with_reducible refine LeO.bind ?_ (fun _ => ?_))
      | exact ih0 _ _ _ _
      | exact ih1 _ _ _ _ _
      | exact LeO.none _
      | refine LeO.ite ?_ ?_
      | refine LeO.bind ?_ (fun _ => ?_)
set_option maxHeartbeats 8000000 in
set_option maxRecDepth 100000 in
theorem agateref01_Read.calls (k : Nat) (a0 : ByteArray) (r1 : Int) (r2 : Int) (r3 : Int) (w : World) (h : agateref01_Read.f k a0 = some (r1, r2, r3)) :
    Calls Try.prog 14 #[.string a0] w fun e w' => e = .returned (.tuple #[.int .u64 r1, .int .i64 r2, .int .i64 r3]) ∧ Drawn0 w w' := by
  have H : (agateref01_Read.l0 k a0 0 1 0) = some (r1, r2, r3) := h
  clear h
  have H' := Aside0.mk H
  clear H
  go_enter Try.func14, Try.ntmps14
  go_wp2
  go_loopg [5, 6, 7] k (fun kq v5 v6 v7 w' => ∃ (x5_1 : Int) (x6_1 : Int) (x7_1 : Int), v5 = .int .u64 x5_1 ∧ v6 = .int .u64 x6_1 ∧ v7 = .int .i64 x7_1 ∧ Aside0 (agateref01_Read.l0 kq a0 x5_1 x6_1 x7_1 = some (r1, r2, r3)) ∧ Aside0 (kq ≤ k) ∧ Drawn0 w w')
  case atStart => exact ⟨(0), (1), (0), (by first | rfl | (simp; done) | (simp [*]; done)), (by first | rfl | (simp; done) | (simp [*]; done)), (by first | rfl | (simp; done) | (simp [*]; done)), H', ⟨Nat.le_refl _⟩, by repeat (first | exact Drawn0.refl _ | apply Drawn0.step)⟩
  case round =>
    clear H'
    try clear c1
    obtain ⟨x5_1, x6_1, x7_1, rfl, rfl, rfl, HA, HK1, ⟨m1, rfl⟩⟩ := hrel
    cases gk with
    | zero => exact absurd HA.out (by simp [agateref01_Read.l0])
    | succ k1 =>
      have H := HA.out
      clear HA
      simp only [agateref01_Read.l0] at H
      by_cases c2 : x7_1 < 10
      · rw [if_pos c2] at H
        have c2b0 : decide (x7_1 < 10) = true := decide_eq_true c2
        clear c2
        by_cases c3 : x7_1 = (a0.size : Int)
        · rw [if_pos c3] at H
          have c3b0 : (x7_1 == (a0.size : Int)) = true := beq_iff_eq.mpr c3
          have c3b1 : (x7_1 != (a0.size : Int)) = false := bne_eq_false_iff_eq.mpr c3
          clear c3
          simp only [Option.some.injEq, Prod.mk.injEq] at H
          obtain ⟨rfl, rfl, rfl⟩ := H
          go_wp2
          go_ret3
          exact ⟨by first | rfl | (simp; done) | (simp [*]; done), by repeat (first | exact Drawn0.refl _ | apply Drawn0.step)⟩
        · rw [if_neg c3] at H
          have c3b0 : (x7_1 == (a0.size : Int)) = false := beq_eq_false_iff_ne.mpr c3
          have c3b1 : (x7_1 != (a0.size : Int)) = true := bne_iff_ne.mpr c3
          have HC4 := Aside0.mk H
          clear H
          go_upto_region 8 with (fail)
          go_cut [23] (fun v23 wc => ∃ (kq : Nat) (x23_3 : Bool), v23 = .bool x23_3 ∧ Aside0 (agateref01_Read.j1 kq a0 x5_1 x6_1 x7_1 x23_3 = some (r1, r2, r3)) ∧ Aside0 (kq ≤ k1) ∧ Drawn0 w wc)
          case first =>
            have H := HC4.out
            clear HC4
            by_cases c5 : x7_1 = 9
            · rw [if_pos c5] at H
              have c5b0 : (x7_1 == 9) = true := beq_iff_eq.mpr c5
              have c5b1 : (x7_1 != 9) = false := bne_eq_false_iff_eq.mpr c5
              clear c5
              (first | rw [c5b0] | (simp only [i64_w, i32_w]; rw [c5b0]) | skip)
              by_cases c6 : 0 ≤ x7_1
              · rw [if_pos c6] at H
                have c6b0 : decide (0 ≤ x7_1) = true := decide_eq_true c6
                clear c6
                by_cases c7 : x7_1 < (a0.size : Int)
                · rw [if_pos c7] at H
                  have c7b0 : decide (x7_1 < (a0.size : Int)) = true := decide_eq_true c7
                  clear c7
                  have H' := Aside0.mk H
                  clear H
                  have p8 : 0 ≤ (x7_1 : Int) := of_decide_eq_true (by first | (with_reducible assumption) | assumption)
                  have q8 : x7_1 < (a0.size : Int) := of_decide_eq_true (by first | (with_reducible assumption) | assumption)
                  have hx8 := bt_at a0 x7_1
                  replace p8 := eq_true p8
                  replace q8 := eq_true q8
                  go_wp2
                  go_meet
                  case rel => exact ⟨_, (decide ((bt a0 x7_1) > 1)), (by first | rfl | (simp; done) | (simp [*]; done)), H', ⟨by have := HK1.out; first | omega | exact Nat.le_refl _⟩, by repeat (first | exact Drawn0.refl _ | apply Drawn0.step)⟩
                · rw [if_neg c7] at H
                  exact absurd H (by simp)
              · rw [if_neg c6] at H
                exact absurd H (by simp)
            · rw [if_neg c5] at H
              have c5b0 : (x7_1 == 9) = false := beq_eq_false_iff_ne.mpr c5
              have c5b1 : (x7_1 != 9) = true := bne_iff_ne.mpr c5
              (first | rw [c5b0] | (simp only [i64_w, i32_w]; rw [c5b0]) | skip)
              have H' := Aside0.mk H
              clear H
              go_wp2
              go_meet
              case rel => exact ⟨_, (false), (by first | rfl | (simp; done) | (simp [*]; done)), H', ⟨by have := HK1.out; first | omega | exact Nat.le_refl _⟩, by repeat (first | exact Drawn0.refl _ | apply Drawn0.step)⟩
          case rest =>
            clear HC4
            try clear c1
            try clear c2
            try clear c2b0
            try clear p2
            try clear c3
            try clear c3b0
            try clear c3b1
            try clear c5
            try clear c5b0
            try clear c5b1
            try clear c6
            try clear c6b0
            try clear c7
            try clear c7b0
            try clear p8
            try clear q8
            try clear hx8
            try clear p8
            try clear q8
            obtain ⟨kq, x23_3, rfl, HA, HJ3, ⟨mc3, rfl⟩⟩ := hcut
            cases kq with
            | zero => exact absurd HA.out (by simp [agateref01_Read.j1])
            | succ kj3 =>
              have H := HA.out
              clear HA
              simp only [agateref01_Read.j1] at H
              by_cases c9 : x23_3 = true
              · subst c9
                have H1 : (some (0, 0, 2)) = some (r1, r2, r3) := by rw [if_pos rfl] at H; exact H
                clear H
                have H := H1
                clear H1
                simp only [Option.some.injEq, Prod.mk.injEq] at H
                obtain ⟨rfl, rfl, rfl⟩ := H
                go_wp2
                go_ret3
                exact ⟨by first | rfl | (simp; done) | (simp [*]; done), by repeat (first | exact Drawn0.refl _ | apply Drawn0.step)⟩
              · replace c9 := Bool.eq_false_iff.mpr c9
                subst c9
                have H1 : (if 0 ≤ x7_1 then (if x7_1 < (a0.size : Int) then (if (bt a0 x7_1) < 128 then (some (IntKind.u64.wrap (x5_1 + (IntKind.u64.wrap ((IntKind.u64.wrap (Int.tmod (bt a0 x7_1) 128)) * x6_1))), wrap64 (x7_1 + 1), 0)) else (agateref01_Read.l0 kj3 a0 (IntKind.u64.wrap (x5_1 + (IntKind.u64.wrap ((IntKind.u64.wrap (Int.tmod (bt a0 x7_1) 128)) * x6_1)))) (IntKind.u64.wrap (x6_1 * 128)) (wrap64 (x7_1 + 1)))) else (none)) else (none)) = some (r1, r2, r3) := by rw [if_neg (show ¬ (false = true) by decide)] at H; exact H
                clear H
                have H := H1
                clear H1
                by_cases c10 : 0 ≤ x7_1
                · rw [if_pos c10] at H
                  have c10b0 : decide (0 ≤ x7_1) = true := decide_eq_true c10
                  clear c10
                  by_cases c11 : x7_1 < (a0.size : Int)
                  · rw [if_pos c11] at H
                    have c11b0 : decide (x7_1 < (a0.size : Int)) = true := decide_eq_true c11
                    clear c11
                    by_cases c14 : (bt a0 x7_1) < 128
                    · rw [if_pos c14] at H
                      have c14b0 : decide ((bt a0 x7_1) < 128) = true := decide_eq_true c14
                      clear c14
                      simp only [Option.some.injEq, Prod.mk.injEq] at H
                      obtain ⟨rfl, rfl, rfl⟩ := H
                      have p12 : 0 ≤ (x7_1 : Int) := of_decide_eq_true (by first | (with_reducible assumption) | assumption)
                      have q12 : x7_1 < (a0.size : Int) := of_decide_eq_true (by first | (with_reducible assumption) | assumption)
                      have hx12 := bt_at a0 x7_1
                      replace p12 := eq_true p12
                      replace q12 := eq_true q12
                      have p13 : 0 ≤ (x7_1 : Int) := of_decide_eq_true (by first | (with_reducible assumption) | assumption)
                      have q13 : x7_1 < (a0.size : Int) := of_decide_eq_true (by first | (with_reducible assumption) | assumption)
                      have hx13 := bt_at a0 x7_1
                      replace p13 := eq_true p13
                      replace q13 := eq_true q13
                      go_wp2
                      go_ret3
                      exact ⟨by first | rfl | (simp; done) | (simp [*]; done), by repeat (first | exact Drawn0.refl _ | apply Drawn0.step)⟩
                    · rw [if_neg c14] at H
                      have c14b0 : decide ((bt a0 x7_1) < 128) = false := decide_eq_false c14
                      clear c14
                      have H' := Aside0.mk H
                      clear H
                      have p12 : 0 ≤ (x7_1 : Int) := of_decide_eq_true (by first | (with_reducible assumption) | assumption)
                      have q12 : x7_1 < (a0.size : Int) := of_decide_eq_true (by first | (with_reducible assumption) | assumption)
                      have hx12 := bt_at a0 x7_1
                      replace p12 := eq_true p12
                      replace q12 := eq_true q12
                      have p13 : 0 ≤ (x7_1 : Int) := of_decide_eq_true (by first | (with_reducible assumption) | assumption)
                      have q13 : x7_1 < (a0.size : Int) := of_decide_eq_true (by first | (with_reducible assumption) | assumption)
                      have hx13 := bt_at a0 x7_1
                      replace p13 := eq_true p13
                      replace q13 := eq_true q13
                      go_wp2
                      go_roundg kj3
                      case measure => have := HK1.out; have := HJ3.out; omega
                      case rel => exact ⟨(IntKind.u64.wrap (x5_1 + (IntKind.u64.wrap ((IntKind.u64.wrap (Int.tmod (bt a0 x7_1) 128)) * x6_1)))), (IntKind.u64.wrap (x6_1 * 128)), (wrap64 (x7_1 + 1)), (by first | rfl | (simp; done) | (simp [*]; done)), (by first | rfl | (simp; done) | (simp [*]; done)), (by first | rfl | (simp; done) | (simp [*]; done)), H', ⟨by have := HK1.out; have := HJ3.out; omega⟩, by repeat (first | exact Drawn0.refl _ | apply Drawn0.step)⟩
                  · rw [if_neg c11] at H
                    exact absurd H (by simp)
                · rw [if_neg c10] at H
                  exact absurd H (by simp)
      · rw [if_neg c2] at H
        have c2b0 : decide (x7_1 < 10) = false := decide_eq_false c2
        clear c2
        simp only [Option.some.injEq, Prod.mk.injEq] at H
        obtain ⟨rfl, rfl, rfl⟩ := H
        go_wp2
        go_ret3
        exact ⟨by first | rfl | (simp; done) | (simp [*]; done), by repeat (first | exact Drawn0.refl _ | apply Drawn0.step)⟩

end Go.Proofs.Ytohddbiedabmhaa.X
-- by xprint.py, a program of this session, over the kit's print.py
namespace Go.Proofs.Ytohddbiedabmhaa.X
open Go.RowKit Go.Proofs.YtohddbiedabmhaaW.PrintWords Go.Proofs.YtohddbiedabmhaaW.PrintLast Go.Proofs.YtohddbiedabmhaaW.PrintMore
attribute [local go_sem] max2_int min2_int max_two min_two max_three min_three max_four min_four   -- for this text's walks alone
set_option linter.unusedVariables false
set_option linter.unusedSimpArgs false

def agateref01_Read_s.f (a0 : ByteArray) : Option (Int × Int × Int) := some ((vRead a0).1, (vRead a0).2.1, (vRead a0).2.2)
theorem refread_step (v c i : Nat) (hv : v < 128 ^ i) (hi : i ≤ 9) (h9 : i = 9 → c ≤ 1) :
    IntKind.u64.wrap ((v : Int) + IntKind.u64.wrap (IntKind.u64.wrap (Int.tmod (c : Int) 128) * ((128 ^ i : Nat) : Int))) = ((v + c % 128 * 128 ^ i : Nat) : Int) := by
  have hp : v + c % 128 * 128 ^ i < 18446744073709551616 := by
    rcases Nat.lt_or_ge i 9 with h | h
    · have h1 : 128 ^ i ≤ 128 ^ 8 := Nat.pow_le_pow_right (by decide) (by omega)
      have h2 : c % 128 * 128 ^ i ≤ 127 * 128 ^ 8 := Nat.mul_le_mul (by omega) h1
      omega
    · obtain rfl : i = 9 := by omega
      have := h9 rfl
      have h2 : c % 128 * 128 ^ 9 ≤ 1 * 128 ^ 9 := Nat.mul_le_mul_right _ (by omega)
      omega
  have e : IntKind.u64.wrap (Int.tmod (c : Int) 128) * ((128 ^ i : Nat) : Int) = ((c % 128 * 128 ^ i : Nat) : Int) := by
    rw [Int.tmod_eq_emod_of_nonneg (by omega), u64_wrap, Int.natCast_mul]
    congr 1; omega
  rw [e, u64_wrap, u64_wrap]
  generalize c % 128 * 128 ^ i = x at *
  omega
theorem agateref01_Read_eval (s : ByteArray) (d : Nat) : ∀ (k i v : Nat), i ≤ 9 → 9 - i = d → i ≤ s.size → v < 128 ^ i → 2 * d + 2 ≤ k →
    agateref01_Read.l0 k s (v : Int) ((128 ^ i : Nat) : Int) (i : Int) = some (((readS ((ns s).drop i) i v).1 : Int), ((readS ((ns s).drop i) i v).2.1 : Int), ((readS ((ns s).drop i) i v).2.2 : Int)) := by
  induction d with
  | zero =>
    intro k i v hi hd hs hv hk
    obtain rfl : i = 9 := by omega
    obtain ⟨k, rfl⟩ : ∃ m, k = m + 2 := ⟨k - 2, by omega⟩
    simp only [agateref01_Read.l0]
    rw [if_pos (by omega)]
    by_cases h : s.size = 9
    · rw [if_pos (by omega), ns_drop_end _ _ (by omega)]; rfl
    · have hlt : 9 < s.size := by omega
      rw [if_neg (by omega), if_pos (by rfl), if_pos (by omega), if_pos (by omega), ns_drop s 9 hlt]
      have hb : bt s ((9 : Nat) : Int) = ((s[9]'hlt).toNat : Int) := bt_ns s 9 hlt
      simp only [agateref01_Read.j1]
      by_cases hc : 1 < (s[9]'hlt).toNat
      · rw [if_pos (decide_eq_true (by rw [hb]; omega)), readS, if_pos ⟨rfl, hc⟩]; rfl
      · rw [if_neg (by rw [decide_eq_true_iff, hb]; omega), if_pos (by omega), if_pos (by omega), if_pos (by rw [hb]; omega), readS_cons (by omega), if_pos (by omega), hb, refread_step v _ 9 hv (by omega) (by omega)]
        rw [Nat.mod_eq_of_lt (show (s[9]'hlt).toNat < 128 by omega), show wrap64 (((9 : Nat) : Int) + 1) = 10 from by unfold wrap64; decide]
        rfl
  | succ d ih =>
    intro k i v hi hd hs hv hk
    obtain ⟨k, rfl⟩ : ∃ m, k = m + 2 := ⟨k - 2, by omega⟩
    simp only [agateref01_Read.l0]
    rw [if_pos (by omega)]
    by_cases h : s.size = i
    · rw [if_pos (by omega), ns_drop_end _ _ (by omega)]; rfl
    · have hlt : i < s.size := by omega
      rw [if_neg (by omega), if_neg (by omega), ns_drop s i hlt]
      have hb : bt s (i : Int) = ((s[i]'hlt).toNat : Int) := bt_ns s i hlt
      simp only [agateref01_Read.j1]
      rw [if_neg (by decide), if_pos (by omega), if_pos (by omega), hb, refread_step v _ i hv (by omega) (by omega), readS_cons (by omega)]
      have ew : wrap64 ((i : Int) + 1) = ((i + 1 : Nat) : Int) := by unfold wrap64; omega
      rw [ew]
      by_cases hc : (s[i]'hlt).toNat < 128
      · rw [if_pos (by omega), if_pos hc, Nat.mod_eq_of_lt hc]; rfl
      · rw [if_neg (by omega), if_neg hc]
        have hu : IntKind.u64.wrap (((128 ^ i : Nat) : Int) * 128) = ((128 ^ (i + 1) : Nat) : Int) := by
          rw [u64_wrap, Nat.pow_succ]
          have h1 : 128 ^ i ≤ 128 ^ 8 := Nat.pow_le_pow_right (by decide) (by omega)
          generalize 128 ^ i = x at *
          omega
        rw [hu]
        refine ih k (i + 1) _ (by omega) (by omega) (by omega) ?_ (by omega)
        have h1 : (s[i]'hlt).toNat % 128 * 128 ^ i ≤ 127 * 128 ^ i := Nat.mul_le_mul_right _ (by omega)
        rw [Nat.pow_succ]; omega
theorem agateref01_Read_s.ev (a0 : ByteArray) (r) (h : agateref01_Read_s.f a0 = some r) : ∃ k, agateref01_Read.f k a0 = some r := by
  exact ⟨20, (agateref01_Read_eval a0 9 20 0 0 (by omega) (by omega) (by omega) (by decide) (by omega)).trans h⟩

set_option maxHeartbeats 1000000 in
theorem agateref01_Read_s.calls (a0 : ByteArray) (r1 : Int) (r2 : Int) (r3 : Int) (w : World) (h : agateref01_Read_s.f a0 = some (r1, r2, r3)) :
    Calls Try.prog 14 #[.string a0] w fun e w' => e = .returned (.tuple #[.int .u64 r1, .int .i64 r2, .int .i64 r3]) ∧ Drawn0 w w' := by
  obtain ⟨k, hk⟩ := agateref01_Read_s.ev a0 _ h
  exact agateref01_Read.calls k a0 r1 r2 r3 w hk

end Go.Proofs.Ytohddbiedabmhaa.X
