import Derived.Test.YtpojamikfcmnoaaMShapePlaces0
import Derived.Test.YtpojamikfcmnoaaMShapePlaces1
import Derived.Test.YtpojamikfcmnoaaMShapePlaces2
-- by xprint.py, a program of this session, over the kit's print.py
namespace Go.Proofs.Ytpojamikfcmnoaa.X
open Go.RowKit Go.Proofs.YtpojamikfcmnoaaW.PrintWords Go.Proofs.YtpojamikfcmnoaaW.PrintLast Go.Proofs.YtpojamikfcmnoaaW.PrintMore
attribute [local go_sem] max2_int min2_int max_two min_two max_three min_three max_four min_four   -- for this text's walks alone
set_option linter.unusedVariables false
set_option linter.unusedSimpArgs false

def shape_Back_s.f (l0 l1 : List Int) : Option (List Int) := if l0.length ≤ 1000000 ∧ l1.length ≤ 1000000 then some (backL l0 (l1.drop (l1.length - l0.length))) else none
theorem shapeBack_l0 (ps : List Int) : ∀ (ds pre qre out : List Int) (k : Nat), ps.length < k → out.length ≤ pre.length → pre.length + ps.length ≤ 1000000 → pre.length = qre.length ∨ ds = [] → qre.length ≤ pre.length →
    shape_Back.l0 k (qre ++ ds) out (pre ++ ps) ((pre ++ ps).length : Int) (pre.length : Int) = some (out ++ backL ds ps) := by
  induction ps with
  | nil =>
    intro ds pre qre out k hk ho hb hq hr
    obtain ⟨k, rfl⟩ : ∃ m, k = m + 1 := ⟨k - 1, by omega⟩
    rw [shape_Back.l0, if_neg (by simp)]
    cases ds <;> simp [backL]
  | cons p ps ih =>
    intro ds pre qre out k hk ho hb hq hr
    rw [List.length_cons] at hk hb
    obtain ⟨k, rfl⟩ : ∃ m, k = m + 1 := ⟨k - 1, by omega⟩
    have ew : wrap64 ((pre.length : Int) + 1) = (((pre ++ [p]).length : Nat) : Int) := by
      rw [wrap64_id (by omega) (by omega), List.length_append, List.length_singleton]; rfl
    have eq1 : pre ++ p :: ps = (pre ++ [p]) ++ ps := by simp
    rw [shape_Back.l0, if_pos (by rw [List.length_append, List.length_cons]; omega), if_pos (by omega), if_pos (by rw [List.length_append, List.length_cons]; omega), rd_mid pre p ps _ rfl, ew]
    clear ew
    cases ds with
    | nil =>
      rw [List.append_nil, if_neg (by omega), if_pos (by omega), eq1]
      have := ih [] (pre ++ [p]) qre (out ++ [p]) k (by omega) (by simp; omega) (by simp; omega) (Or.inr rfl) (by simp; omega)
      rw [List.append_nil] at this
      rw [this]; simp [backL]
    | cons d ds =>
      have hq : pre.length = qre.length := by rcases hq with h | h; exact h; cases h
      have eq2 : qre ++ d :: ds = (qre ++ [d]) ++ ds := by simp
      rw [if_pos (by rw [List.length_append, List.length_cons]; omega), rd_mid qre d ds _ (by omega), eq1, eq2, backL]
      by_cases h : d = 1
      · rw [if_pos h, if_pos (by omega), if_pos h, ih ds (pre ++ [p]) (qre ++ [d]) (out ++ [0]) k (by omega) (by simp; omega) (by simp; omega) (Or.inl (by simp; omega)) (by simp; omega)]
        simp
      · rw [if_neg h, if_pos (by omega), if_neg h, ih ds (pre ++ [p]) (qre ++ [d]) (out ++ [p]) k (by omega) (by simp; omega) (by simp; omega) (Or.inl (by simp; omega)) (by simp; omega)]
        simp
theorem shape_Back_s.ev (l0 l1 : List Int) (r) (h : shape_Back_s.f l0 l1 = some r) : ∃ k, shape_Back.f k l0 l1 = some r := by
  unfold shape_Back_s.f at h
  split at h
  · rename_i hs
    obtain ⟨h0, h1⟩ := hs
    rw [← h]
    refine ⟨l1.length + 1, ?_⟩
    unfold shape_Back.f
    have em : mx (wrap64 ((l1.length : Int) - (l0.length : Int))) 0 = ((l1.length - l0.length : Nat) : Int) := by
      rw [wrap64_id (by omega) (by omega)]; unfold mx; split <;> omega
    rw [em, if_pos (by omega), if_pos (by omega), Int.toNat_natCast]
    exact shapeBack_l0 _ l0 [] [] [] _ (by rw [List.length_drop]; omega) (by simp) (by rw [List.length_drop]; simp; omega) (Or.inl rfl) (Nat.le_refl _)
  · cases h

set_option maxHeartbeats 1000000 in
theorem shape_Back_s.calls (A0 : Option Addr) (c0 : Nat) (l0 : List Int) (A1 : Option Addr) (c1 : Nat) (l1 : List Int) (r : List Int) (w : World) (hr0 : Kd.C (Kd.int .i64) w A0 l0.length l0) (hc0 : l0.length ≤ c0) (hr1 : Kd.C (Kd.int .i64) w A1 l1.length l1) (hc1 : l1.length ≤ c1) (h : shape_Back_s.f l0 l1 = some r) :
    Calls Try.prog 33 #[.slice A0 l0.length c0, .slice A1 l1.length c1] w fun e w' => ∃ v0_ : Value, e = .returned (v0_) ∧ Kd.R (Kd.int .i64) 2 w' w.heap.size (fun _ => True) v0_ r ∧ Below w.heap.size w w' := by
  obtain ⟨k, hk⟩ := shape_Back_s.ev l0 l1 _ h
  exact shape_Back.calls k A0 c0 l0 A1 c1 l1 r w hr0 hc0 hr1 hc1 hk

end Go.Proofs.Ytpojamikfcmnoaa.X
-- by xprint.py, a program of this session, over the kit's print.py
namespace Go.Proofs.Ytpojamikfcmnoaa.X
open Go.RowKit Go.Proofs.YtpojamikfcmnoaaW.PrintWords Go.Proofs.YtpojamikfcmnoaaW.PrintLast Go.Proofs.YtpojamikfcmnoaaW.PrintMore
attribute [local go_sem] max2_int min2_int max_two min_two max_three min_three max_four min_four   -- for this text's walks alone
set_option linter.unusedVariables false
set_option linter.unusedSimpArgs false

/-! ### shape_Size: function 26 -/
mutual
def shape_Size.l0 : Nat → List Int → List Int → Int → Int → Option (Int × Int)
  | 0, _, _, _, _ => none
  | k + 1, x0, x13, x14, x15 => if x15 < x14 then (if 0 ≤ x15 then (if x15 < (x13.length : Int) then (if (rd x13 x15) < 0 then (some (0, 6)) else (shape_Size.l0 k x0 x13 x14 (wrap64 (x15 + 1)))) else (none)) else (none)) else (shape_Size.l1 k 1 false x0 (x0.length : Int) 0)
def shape_Size.l1 : Nat → Int → Bool → List Int → Int → Int → Option (Int × Int)
  | 0, _, _, _, _, _ => none
  | k + 1, x6, x7, x22, x23, x24 => if x24 < x23 then (if 0 ≤ x24 then (if x24 < (x22.length : Int) then (if (rd x22 x24) > 65536 then (some (0, 7)) else (if (rd x22 x24) = 0 then (shape_Size.l1 k x6 true x22 x23 (wrap64 (x24 + 1))) else (shape_Size.l1 k (mn (wrap64 (x6 * (rd x22 x24))) 65537) x7 x22 x23 (wrap64 (x24 + 1))))) else (none)) else (none)) else (if x7 = true then (some (0, 0)) else (if x6 > 65536 then (some (0, 7)) else (some (x6, 0))))
end
def shape_Size.f (k : Nat) (l0 : List Int) : Option (Int × Int) := if (l0.length : Int) > 8 then (some (0, 6)) else (shape_Size.l0 k l0 l0 (l0.length : Int) 0)
theorem shape_Size.mono_l : ∀ k, (∀ y0 y1 y2 y3, LeO (shape_Size.l0 k y0 y1 y2 y3) (shape_Size.l0 (k + 1) y0 y1 y2 y3)) ∧ (∀ y0 y1 y2 y3 y4, LeO (shape_Size.l1 k y0 y1 y2 y3 y4) (shape_Size.l1 (k + 1) y0 y1 y2 y3 y4))
  | 0 => ⟨fun _ _ _ _ r h => by simp [shape_Size.l0] at h, fun _ _ _ _ _ r h => by simp [shape_Size.l1] at h⟩
  | k + 1 => by
    obtain ⟨ih0, ih1⟩ := shape_Size.mono_l k
    refine ⟨?_, ?_⟩
    · intro y0 y1 y2 y3
      unfold shape_Size.l0
      repeat' first
      | (with_reducible exact ih0 _ _ _ _)
      | (with_reducible exact ih1 _ _ _ _ _)
      | (with_reducible exact LeO.refl _)
      | (with_reducible exact LeO.none _)
      | (with_reducible refine LeO.ite ?_ ?_)
      | (with_reducible refine LeO.bind ?_ (fun _ => ?_))
      | exact ih0 _ _ _ _
      | exact ih1 _ _ _ _ _
      | exact LeO.none _
      | refine LeO.ite ?_ ?_
      | refine LeO.bind ?_ (fun _ => ?_)
    · intro y0 y1 y2 y3 y4
      unfold shape_Size.l1
      repeat' first
      | (with_reducible exact ih0 _ _ _ _)
      | (with_reducible exact ih1 _ _ _ _ _)
      | (with_reducible exact LeO.refl _)
      | (with_reducible exact LeO.none _)
      | (with_reducible refine LeO.ite ?_ ?_)
      | (with_reducible refine LeO.bind ?_ (fun _ => ?_))
      | exact ih0 _ _ _ _
      | exact ih1 _ _ _ _ _
      | exact LeO.none _
      | refine LeO.ite ?_ ?_
      | refine LeO.bind ?_ (fun _ => ?_)
theorem shape_Size.mono : ∀ a0 k, LeO (shape_Size.f k a0) (shape_Size.f (k + 1) a0) := by
  intro a0 k
  obtain ⟨ih0, ih1⟩ := shape_Size.mono_l k
  unfold shape_Size.f
  repeat' first
      | (with_reducible exact ih0 _ _ _ _)
      | (with_reducible exact ih1 _ _ _ _ _)
      | (with_reducible exact LeO.refl _)
      | (with_reducible exact LeO.none _)
      | (with_reducible refine LeO.ite ?_ ?_)
      | (with_reducible refine LeO.bind ?_ (fun _ => ?_))
      | exact ih0 _ _ _ _
      | exact ih1 _ _ _ _ _
      | exact LeO.none _
      | refine LeO.ite ?_ ?_
      | refine LeO.bind ?_ (fun _ => ?_)
set_option maxHeartbeats 8000000 in
set_option maxRecDepth 100000 in
theorem shape_Size.calls (k : Nat) (A0 : Option Addr) (c0 : Nat) (l0 : List Int) (r1 : Int) (r2 : Int) (w : World) (hr0 : Kd.C (Kd.int .i64) w A0 l0.length l0) (hc0 : l0.length ≤ c0) (h : shape_Size.f k l0 = some (r1, r2)) :
    Calls Try.prog 26 #[.slice A0 l0.length c0] w fun e w' => e = .returned (.tuple #[.int .i64 r1, .int .i64 r2]) ∧ Below w.heap.size w w' := by
  have HR0 := Aside0.mk hr0
  have HC0 := Aside0.mk hc0
  clear hr0 hc0
  have HB := Aside0.mk (Below.refl w.heap.size w)
  have H : (if (l0.length : Int) > 8 then (some (0, 6)) else (shape_Size.l0 k l0 l0 (l0.length : Int) 0)) = some (r1, r2) := h
  clear h
  by_cases c2 : (l0.length : Int) > 8
  · rw [if_pos c2] at H
    have c2b0 : decide (8 < (l0.length : Int)) = true := decide_eq_true c2
    have c2b1 : decide (8 < l0.length) = true := decide_eq_true (by omega)
    clear c2
    simp only [Option.some.injEq, Prod.mk.injEq] at H
    obtain ⟨rfl, rfl⟩ := H
    go_enter Try.func26, Try.ntmps26
    go_wp2
    go_ret2
    exact ⟨by first | rfl | (simp [errW_none, errW_some] <;> rfl) | (simp [*, errW_none, errW_some] <;> rfl), by repeat (first | (with_reducible first | exact HB.out | apply below_alloc | apply pw_below_drewN | apply below_drew1) | exact HB.out)⟩
  · rw [if_neg c2] at H
    have c2b0 : decide (8 < (l0.length : Int)) = false := decide_eq_false c2
    have c2b1 : decide (8 < l0.length) = false := decide_eq_false (by omega)
    clear c2
    have H' := Aside0.mk H
    clear H
    go_enter Try.func26, Try.ntmps26
    go_wp2
    go_loopg [15] k (fun kq v15 w' => ∃ (x15_1 : Int), v15 = .int .i64 x15_1 ∧ Aside0 (shape_Size.l0 kq l0 l0 (l0.length : Int) x15_1 = some (r1, r2)) ∧ Aside0 (kq ≤ k) ∧ Aside0 (Below w.heap.size w w'))
    case atStart => exact ⟨(0), (by first | rfl | (simp; done) | (simp [*]; done)), H', ⟨Nat.le_refl _⟩, ⟨by repeat (first | (with_reducible first | exact HB.out | apply below_alloc | apply pw_below_drewN | apply below_drew1) | exact HB.out)⟩⟩
    case round =>
      clear H'
      try clear c2
      try clear c2b0
      try clear c2b1
      try clear p2
      obtain ⟨x15_1, rfl, HA, HK1, HB⟩ := hrel
      cases gk with
      | zero => exact absurd HA.out (by simp [shape_Size.l0])
      | succ k1 =>
        have H := HA.out
        clear HA
        simp only [shape_Size.l0] at H
        by_cases c3 : x15_1 < (l0.length : Int)
        · rw [if_pos c3] at H
          have c3b0 : decide (x15_1 < (l0.length : Int)) = true := decide_eq_true c3
          clear c3
          by_cases c4 : 0 ≤ x15_1
          · rw [if_pos c4] at H
            have c4b0 : decide (0 ≤ x15_1) = true := decide_eq_true c4
            clear c4
            by_cases c5 : x15_1 < (l0.length : Int)
            · rw [if_pos c5] at H
              have c5b0 : decide (x15_1 < (l0.length : Int)) = true := decide_eq_true c5
              clear c5
              by_cases c6 : (rd l0 x15_1) < 0
              · rw [if_pos c6] at H
                have c6b0 : decide ((rd l0 x15_1) < 0) = true := decide_eq_true c6
                clear c6
                simp only [Option.some.injEq, Prod.mk.injEq] at H
                obtain ⟨rfl, rfl⟩ := H
                have p101 : 0 ≤ (x15_1 : Int) := of_decide_eq_true (by first | (with_reducible assumption) | assumption)
                have q101 : x15_1 < (l0.length : Int) := of_decide_eq_true (by first | (with_reducible assumption) | assumption)
                obtain ⟨ad101, e101, hx101_0⟩ := Kd.at_int HR0.out x15_1 p101 q101
                cases e101
                replace hx101_0 := (HB.out.cell (World.block_lt_of_cell? w _ hx101_0)).trans hx101_0
                replace p101 := eq_true p101
                replace q101 := eq_true q101
                go_wp2
                go_ret2
                exact ⟨by first | rfl | (simp [errW_none, errW_some] <;> rfl) | (simp [*, errW_none, errW_some] <;> rfl), by repeat (first | (with_reducible first | exact HB.out | apply below_alloc | apply pw_below_drewN | apply below_drew1) | exact HB.out)⟩
              · rw [if_neg c6] at H
                have c6b0 : decide ((rd l0 x15_1) < 0) = false := decide_eq_false c6
                clear c6
                have H' := Aside0.mk H
                clear H
                have p101 : 0 ≤ (x15_1 : Int) := of_decide_eq_true (by first | (with_reducible assumption) | assumption)
                have q101 : x15_1 < (l0.length : Int) := of_decide_eq_true (by first | (with_reducible assumption) | assumption)
                obtain ⟨ad101, e101, hx101_0⟩ := Kd.at_int HR0.out x15_1 p101 q101
                cases e101
                replace hx101_0 := (HB.out.cell (World.block_lt_of_cell? w _ hx101_0)).trans hx101_0
                replace p101 := eq_true p101
                replace q101 := eq_true q101
                go_wp2
                go_roundg k1
                case measure => have := HK1.out; omega
                case rel => exact ⟨(wrap64 (x15_1 + 1)), (by first | rfl | (simp; done) | (simp [*]; done)), H', ⟨by have := HK1.out; omega⟩, ⟨by repeat (first | (with_reducible first | exact HB.out | apply below_alloc | apply pw_below_drewN | apply below_drew1) | exact HB.out)⟩⟩
            · rw [if_neg c5] at H
              exact absurd H (by simp)
          · rw [if_neg c4] at H
            exact absurd H (by simp)
        · rw [if_neg c3] at H
          have c3b0 : decide (x15_1 < (l0.length : Int)) = false := decide_eq_false c3
          clear c3
          have H' := Aside0.mk H
          clear H
          go_wp2
          go_loopg [6, 7, 24] k1 (fun kq v6 v7 v24 w' => ∃ (x6_2 : Int) (x7_2 : Bool) (x24_2 : Int), v6 = .int .i64 x6_2 ∧ v7 = .bool x7_2 ∧ v24 = .int .i64 x24_2 ∧ Aside0 (shape_Size.l1 kq x6_2 x7_2 l0 (l0.length : Int) x24_2 = some (r1, r2)) ∧ Aside0 (kq ≤ k1) ∧ Aside0 (Below w.heap.size w w'))
          case atStart => exact ⟨(1), (false), (0), (by first | rfl | (simp; done) | (simp [*]; done)), (by first | rfl | (simp; done) | (simp [*]; done)), (by first | rfl | (simp; done) | (simp [*]; done)), H', ⟨Nat.le_refl _⟩, ⟨by repeat (first | (with_reducible first | exact HB.out | apply below_alloc | apply pw_below_drewN | apply below_drew1) | exact HB.out)⟩⟩
          case round =>
            clear H'
            try clear p1
            try clear q1
            try clear hx1
            try clear c2
            try clear c2b0
            try clear c2b1
            try clear p2
            try clear c3
            try clear c3b0
            try clear c4
            try clear c4b0
            try clear c5
            try clear c5b0
            try clear c6
            try clear c6b0
            try clear p6
            try clear hx101_0
            try clear p101
            try clear p2
            try clear q101
            obtain ⟨x6_2, x7_2, x24_2, rfl, rfl, rfl, HA, HK2, HB⟩ := hrel
            cases gk with
            | zero => exact absurd HA.out (by simp [shape_Size.l1])
            | succ k2 =>
              have H := HA.out
              clear HA
              simp only [shape_Size.l1] at H
              by_cases c7 : x24_2 < (l0.length : Int)
              · rw [if_pos c7] at H
                have c7b0 : decide (x24_2 < (l0.length : Int)) = true := decide_eq_true c7
                clear c7
                by_cases c8 : 0 ≤ x24_2
                · rw [if_pos c8] at H
                  have c8b0 : decide (0 ≤ x24_2) = true := decide_eq_true c8
                  clear c8
                  by_cases c9 : x24_2 < (l0.length : Int)
                  · rw [if_pos c9] at H
                    have c9b0 : decide (x24_2 < (l0.length : Int)) = true := decide_eq_true c9
                    clear c9
                    by_cases c10 : (rd l0 x24_2) > 65536
                    · rw [if_pos c10] at H
                      have c10b0 : decide (65536 < (rd l0 x24_2)) = true := decide_eq_true c10
                      clear c10
                      simp only [Option.some.injEq, Prod.mk.injEq] at H
                      obtain ⟨rfl, rfl⟩ := H
                      have p102 : 0 ≤ (x24_2 : Int) := of_decide_eq_true (by first | (with_reducible assumption) | assumption)
                      have q102 : x24_2 < (l0.length : Int) := of_decide_eq_true (by first | (with_reducible assumption) | assumption)
                      obtain ⟨ad102, e102, hx102_0⟩ := Kd.at_int HR0.out x24_2 p102 q102
                      cases e102
                      replace hx102_0 := (HB.out.cell (World.block_lt_of_cell? w _ hx102_0)).trans hx102_0
                      replace p102 := eq_true p102
                      replace q102 := eq_true q102
                      go_wp2
                      go_ret2
                      exact ⟨by first | rfl | (simp [errW_none, errW_some] <;> rfl) | (simp [*, errW_none, errW_some] <;> rfl), by repeat (first | (with_reducible first | exact HB.out | apply below_alloc | apply pw_below_drewN | apply below_drew1) | exact HB.out)⟩
                    · rw [if_neg c10] at H
                      have c10b0 : decide (65536 < (rd l0 x24_2)) = false := decide_eq_false c10
                      clear c10
                      by_cases c11 : (rd l0 x24_2) = 0
                      · rw [if_pos c11] at H
                        have c11b0 : ((rd l0 x24_2) == 0) = true := beq_iff_eq.mpr c11
                        have c11b1 : ((rd l0 x24_2) != 0) = false := bne_eq_false_iff_eq.mpr c11
                        clear c11
                        have H' := Aside0.mk H
                        clear H
                        have p102 : 0 ≤ (x24_2 : Int) := of_decide_eq_true (by first | (with_reducible assumption) | assumption)
                        have q102 : x24_2 < (l0.length : Int) := of_decide_eq_true (by first | (with_reducible assumption) | assumption)
                        obtain ⟨ad102, e102, hx102_0⟩ := Kd.at_int HR0.out x24_2 p102 q102
                        cases e102
                        replace hx102_0 := (HB.out.cell (World.block_lt_of_cell? w _ hx102_0)).trans hx102_0
                        replace p102 := eq_true p102
                        replace q102 := eq_true q102
                        go_wp2
                        go_roundg k2
                        case measure => have := HK1.out; have := HK2.out; omega
                        case rel => exact ⟨(x6_2), (true), (wrap64 (x24_2 + 1)), (by first | rfl | (simp; done) | (simp [*]; done)), (by first | rfl | (simp; done) | (simp [*]; done)), (by first | rfl | (simp; done) | (simp [*]; done)), H', ⟨by have := HK1.out; have := HK2.out; omega⟩, ⟨by repeat (first | (with_reducible first | exact HB.out | apply below_alloc | apply pw_below_drewN | apply below_drew1) | exact HB.out)⟩⟩
                      · rw [if_neg c11] at H
                        have c11b0 : ((rd l0 x24_2) == 0) = false := beq_eq_false_iff_ne.mpr c11
                        have c11b1 : ((rd l0 x24_2) != 0) = true := bne_iff_ne.mpr c11
                        obtain ⟨ji12, hji12⟩ : ∃ j_ : Int, (mn (wrap64 (x6_2 * (rd l0 x24_2))) 65537) = j_ := ⟨_, rfl⟩
                        replace H : (shape_Size.l1 k2 ji12 x7_2 l0 (l0.length : Int) (wrap64 (x24_2 + 1))) = some (r1, r2) := by first | (rw [hji12] at H; exact H) | (simp only [hji12] at H ⊢; exact H)
                        have hji12_ : (if 65537 < (wrap64 (x6_2 * (rd l0 x24_2))) then 65537 else (wrap64 (x6_2 * (rd l0 x24_2)))) = ji12 := hji12
                        have H' := Aside0.mk H
                        clear H
                        have p102 : 0 ≤ (x24_2 : Int) := of_decide_eq_true (by first | (with_reducible assumption) | assumption)
                        have q102 : x24_2 < (l0.length : Int) := of_decide_eq_true (by first | (with_reducible assumption) | assumption)
                        obtain ⟨ad102, e102, hx102_0⟩ := Kd.at_int HR0.out x24_2 p102 q102
                        cases e102
                        replace hx102_0 := (HB.out.cell (World.block_lt_of_cell? w _ hx102_0)).trans hx102_0
                        replace p102 := eq_true p102
                        replace q102 := eq_true q102
                        go_wp2
                        go_roundg k2
                        case measure => have := HK1.out; have := HK2.out; omega
                        case rel => exact ⟨(ji12), (x7_2), (wrap64 (x24_2 + 1)), (by first | rfl | (simp; done) | (simp only [← hji12] <;> (first | rfl | simp)) | (simp [*]; done)), (by first | rfl | (simp; done) | (simp [*]; done)), (by first | rfl | (simp; done) | (simp [*]; done)), H', ⟨by have := HK1.out; have := HK2.out; omega⟩, ⟨by repeat (first | (with_reducible first | exact HB.out | apply below_alloc | apply pw_below_drewN | apply below_drew1) | exact HB.out)⟩⟩
                  · rw [if_neg c9] at H
                    exact absurd H (by simp)
                · rw [if_neg c8] at H
                  exact absurd H (by simp)
              · rw [if_neg c7] at H
                have c7b0 : decide (x24_2 < (l0.length : Int)) = false := decide_eq_false c7
                clear c7
                by_cases c13 : x7_2 = true
                · subst c13
                  have H1 : (some (0, 0)) = some (r1, r2) := by rw [if_pos rfl] at H; exact H
                  clear H
                  have H := H1
                  clear H1
                  simp only [Option.some.injEq, Prod.mk.injEq] at H
                  obtain ⟨rfl, rfl⟩ := H
                  go_wp2
                  go_ret2
                  exact ⟨by first | rfl | (simp [errW_none, errW_some] <;> rfl) | (simp [*, errW_none, errW_some] <;> rfl), by repeat (first | (with_reducible first | exact HB.out | apply below_alloc | apply pw_below_drewN | apply below_drew1) | exact HB.out)⟩
                · replace c13 := Bool.eq_false_iff.mpr c13
                  subst c13
                  have H1 : (if x6_2 > 65536 then (some (0, 7)) else (some (x6_2, 0))) = some (r1, r2) := by rw [if_neg (show ¬ (false = true) by decide)] at H; exact H
                  clear H
                  have H := H1
                  clear H1
                  by_cases c14 : x6_2 > 65536
                  · rw [if_pos c14] at H
                    have c14b0 : decide (65536 < x6_2) = true := decide_eq_true c14
                    clear c14
                    simp only [Option.some.injEq, Prod.mk.injEq] at H
                    obtain ⟨rfl, rfl⟩ := H
                    go_wp2
                    go_ret2
                    exact ⟨by first | rfl | (simp [errW_none, errW_some] <;> rfl) | (simp [*, errW_none, errW_some] <;> rfl), by repeat (first | (with_reducible first | exact HB.out | apply below_alloc | apply pw_below_drewN | apply below_drew1) | exact HB.out)⟩
                  · rw [if_neg c14] at H
                    have c14b0 : decide (65536 < x6_2) = false := decide_eq_false c14
                    clear c14
                    simp only [Option.some.injEq, Prod.mk.injEq] at H
                    obtain ⟨rfl, rfl⟩ := H
                    go_wp2
                    go_ret2
                    exact ⟨by first | rfl | (simp [errW_none, errW_some] <;> rfl) | (simp [*, errW_none, errW_some] <;> rfl), by repeat (first | (with_reducible first | exact HB.out | apply below_alloc | apply pw_below_drewN | apply below_drew1) | exact HB.out)⟩

end Go.Proofs.Ytpojamikfcmnoaa.X
