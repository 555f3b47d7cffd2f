import Derived.Test.YtpojamikfcmnoaaMShapePlaces0
import Derived.Test.YtpojamikfcmnoaaMShapePlaces8
import Derived.Test.YtpojamikfcmnoaaMShapePlaces7
import Derived.Test.YtpojamikfcmnoaaMShapePlaces2
-- by xprint.py, a program of this session, over the kit's print.py
namespace Go.Proofs.Ytpojamikfcmnoaa.X
open Go.RowKit Go.Proofs.YtpojamikfcmnoaaW.PrintWords Go.Proofs.YtpojamikfcmnoaaW.PrintLast Go.Proofs.YtpojamikfcmnoaaW.PrintMore
attribute [local go_sem] max2_int min2_int max_two min_two max_three min_three max_four min_four   -- for this text's walks alone
set_option linter.unusedVariables false
set_option linter.unusedSimpArgs false

def agateref05_Broadcast_s.f (l0 l1 : List Int) : Option (List Int × Int) := some (broadS l0 l1)
theorem dim_wide (a : List Int) (n i : Nat) (hn : n ≤ 1000) (ha : a.length ≤ n) (hi : i < n) (x : Int) (hx : (wideL a n)[n - 1 - i]? = some x) : agateref05_dim.f a (i : Int) = some x := by
  unfold wideL at hx
  unfold agateref05_dim.f
  by_cases h : a.length ≤ i
  · rw [if_pos (by omega)]
    rw [List.getElem?_append_left (by rw [List.length_replicate]; omega), List.getElem?_replicate, if_pos (by omega)] at hx
    exact hx
  · have e1 : wrap64 ((a.length : Int) - 1) = (a.length : Int) - 1 := wrap64_id (by omega) (by omega)
    have e2 : wrap64 ((a.length : Int) - 1 - i) = ((a.length - 1 - i : Nat) : Int) := by rw [wrap64_id (by omega) (by omega)]; omega
    rw [if_neg (by omega), e1, e2]
    clear e1 e2
    rw [List.getElem?_append_right (by rw [List.length_replicate]; omega), List.length_replicate, show n - 1 - i - (n - a.length) = a.length - 1 - i by omega] at hx
    rw [if_pos (by omega), if_pos (by omega)]
    simp [rd, List.getD_eq_getElem?_getD, hx]
theorem refBroad_l0 (a b : List Int) (n : Nat) (hn : n = max a.length b.length) (h8 : n ≤ 8) (d : Nat) : ∀ (k i : Nat) (out : List Int), n - i = d → i ≤ n → 3 * d + 2 ≤ k → zipB ((wideL a n).drop (n - i)) ((wideL b n).drop (n - i)) = some out → out.length = i →
    agateref05_Broadcast.l0 k a b out i = some (endB (zipB (wideL a n) (wideL b n))) := by
  have hA : (wideL a n).length = n := by unfold wideL; rw [List.length_append, List.length_replicate]; omega
  have hB : (wideL b n).length = n := by unfold wideL; rw [List.length_append, List.length_replicate]; omega
  induction d with
  | zero =>
    intro k i out hd hi hk hz ho
    obtain ⟨k, rfl⟩ : ∃ m, k = m + 2 := ⟨k - 2, by omega⟩
    rw [show n - i = 0 by omega, List.drop_zero, List.drop_zero] at hz
    rw [hz, agateref05_Broadcast.l0, if_neg (by omega), decide_eq_false (by omega), agateref05_Broadcast.j1, if_neg (by simp)]
    show (if (sizeS out).2 = 0 then (some (out, (0 : Int))) else (some (([] : List Int), (sizeS out).2))) = some (if (sizeS out).2 = 0 then (out, 0) else ([], (sizeS out).2))
    split <;> rfl
  | succ d ih =>
    intro k i out hd hi hk hz ho
    obtain ⟨k, rfl⟩ : ∃ m, k = m + 3 := ⟨k - 3, by omega⟩
    have h0 : n - 1 - i < (wideL a n).length := by omega
    have h1 : n - 1 - i < (wideL b n).length := by omega
    have d0 := dim_wide a n i (by omega) (by omega) (by omega) _ (List.getElem?_eq_getElem h0)
    have d1 := dim_wide b n i (by omega) (by omega) (by omega) _ (List.getElem?_eq_getElem h1)
    have c0 := List.drop_eq_getElem_cons h0
    have c1 := List.drop_eq_getElem_cons h1
    rw [show n - 1 - i + 1 = n - i by omega] at c0 c1
    have hj : agateref05_Broadcast.l0 (k + 3) a b out i = agateref05_Broadcast.j1 (k + 2) a b out i true := by
      rw [agateref05_Broadcast.l0]
      by_cases h : (i : Int) < (a.length : Int)
      · rw [if_pos h]
      · rw [if_neg h, decide_eq_true (by omega)]
    rw [hj, agateref05_Broadcast.j1, if_pos rfl, d0, Option.bind_some, d1, Option.bind_some]
    have hstep : ∀ x y : Int, (if x = y ∨ y = 1 then some x else if x = 1 then some y else none) = (if x = y then some x else if x = 1 then some y else if y = 1 then some x else none) := by
      intro x y
      by_cases e1 : x = y
      · rw [if_pos (Or.inl e1), if_pos e1]
      · rw [if_neg e1]
        by_cases e2 : y = 1
        · rw [if_pos (Or.inr e2), if_pos e2]
          by_cases e3 : x = 1
          · omega
          · rw [if_neg e3]
        · rw [if_neg (by omega), if_neg e2]
    have hz1 : ∀ v : Int, zipB ((wideL a n).drop (n - (i + 1))) ((wideL b n).drop (n - (i + 1))) = some (v :: out) → agateref05_Broadcast.l0 k a b (v :: out) ((i + 1 : Nat) : Int) = some (endB (zipB (wideL a n) (wideL b n))) :=
      fun v hv => ih k (i + 1) (v :: out) (by omega) (by omega) (by omega) hv (by simp [ho])
    rw [show n - (i + 1) = n - 1 - i by omega, c0, c1, zipB, hz] at hz1
    have hno : zipB ((wideL a n).drop (n - 1 - i)) ((wideL b n).drop (n - 1 - i)) = none → zipB (wideL a n) (wideL b n) = none := by
      intro h
      have := zipB_none _ _ (by rw [List.length_take, List.length_take]; omega) h (p := (wideL a n).take (n - 1 - i)) (q := (wideL b n).take (n - 1 - i))
      rwa [List.take_append_drop, List.take_append_drop] at this
    rw [c0, c1, zipB, hz] at hno
    clear hj d0 d1 c0 c1 hz ih hstep
    generalize (wideL a n)[n - 1 - i] = x at *
    generalize (wideL b n)[n - 1 - i] = y at *
    have ew : wrap64 ((i : Int) + 1) = ((i + 1 : Nat) : Int) := by rw [wrap64_id (by omega) (by omega)]; omega
    have hb2 : ∀ v : Int, (if ([v] : List Int).length + out.length < 17592186044416 then (agateref05_Broadcast.l0 k a b ([v] ++ out) (wrap64 ((i : Int) + 1))) else none) = agateref05_Broadcast.l0 k a b (v :: out) ((i + 1 : Nat) : Int) := by
      intro v
      rw [ew, if_pos (by simp only [List.length_cons, List.length_nil]; clear ew; omega)]; rfl
    clear ew
    have jf : agateref05_Broadcast.j2 (k + 1) a b out i x y false = agateref05_Broadcast.l0 k a b ((if x = 1 then y else x) :: out) ((i + 1 : Nat) : Int) := by
      rw [agateref05_Broadcast.j2, if_neg (by simp)]
      by_cases e : x = 1
      · rw [if_pos e, if_pos e, Option.bind_some, hb2]
      · rw [if_neg e, if_neg e, Option.bind_some, hb2]
    by_cases e1 : x = y
    · rw [if_pos e1, jf]
      refine hz1 _ ?_
      rw [if_pos (Or.inl e1)]
      by_cases e : x = 1
      · rw [if_pos e, ← e1]; rfl
      · rw [if_neg e]; rfl
    · rw [if_neg e1]
      by_cases e2 : x = 1
      · rw [if_pos e2, jf]
        refine hz1 _ ?_
        rw [if_pos e2, if_neg (by omega), if_pos e2]; rfl
      · rw [if_neg e2]
        by_cases e3 : y = 1
        · rw [show (y != 1) = false from by rw [e3]; rfl, jf]
          refine hz1 _ ?_
          rw [if_pos (Or.inr e3), if_neg e2]; rfl
        · rw [show (y != 1) = true from bne_iff_ne.2 e3, agateref05_Broadcast.j2, if_pos rfl, hno (by rw [if_neg (by omega), if_neg e2])]
          rfl
theorem agateref05_Broadcast_s.ev (l0 l1 : List Int) (r) (h : agateref05_Broadcast_s.f l0 l1 = some r) : ∃ k, agateref05_Broadcast.f k l0 l1 = some r := by
  refine ⟨30, ?_⟩
  rw [← h]
  unfold agateref05_Broadcast.f agateref05_Broadcast_s.f broadS
  show (if (sizeS l0).2 = 0 then (if (sizeS l1).2 = 0 then _ else _) else _) = _
  by_cases hA : (sizeS l0).2 = 0
  · rw [if_pos hA, if_pos hA]
    by_cases hB : (sizeS l1).2 = 0
    · rw [if_pos hB, if_pos hB]
      have a8 := sizeS_len hA
      have b8 := sizeS_len hB
      exact refBroad_l0 l0 l1 _ rfl (by omega) _ 30 0 [] rfl (by omega) (by omega) (by rw [List.drop_of_length_le (by unfold wideL; rw [List.length_append, List.length_replicate]; omega), List.drop_of_length_le (by unfold wideL; rw [List.length_append, List.length_replicate]; omega)]; rfl) rfl
    · rw [if_neg hB, if_neg hB]
  · rw [if_neg hA, if_neg hA]

set_option maxHeartbeats 1000000 in
theorem agateref05_Broadcast_s.calls (A0 : Option Addr) (c0 : Nat) (l0 : List Int) (A1 : Option Addr) (c1 : Nat) (l1 : List Int) (r1 : List Int) (r2 : Int) (w : World) (hr0 : Kd.C (Kd.int .i64) w A0 l0.length l0) (hc0 : l0.length ≤ c0) (hr1 : Kd.C (Kd.int .i64) w A1 l1.length l1) (hc1 : l1.length ≤ c1) (h : agateref05_Broadcast_s.f l0 l1 = some (r1, r2)) :
    Calls Try.prog 28 #[.slice A0 l0.length c0, .slice A1 l1.length c1] w fun e w' => ∃ v0_ : Value, e = .returned (.tuple #[v0_, .int .i64 r2]) ∧ Kd.R (Kd.int .i64) 2 w' w.heap.size (fun _ => True) v0_ r1 ∧ Below w.heap.size w w' := by
  obtain ⟨k, hk⟩ := agateref05_Broadcast_s.ev l0 l1 _ h
  exact agateref05_Broadcast.calls k A0 c0 l0 A1 c1 l1 r1 r2 w hr0 hc0 hr1 hc1 hk

end Go.Proofs.Ytpojamikfcmnoaa.X
-- by xprint.py, a program of this session, over the kit's print.py
namespace Go.Proofs.Ytpojamikfcmnoaa.X
open Go.RowKit Go.Proofs.YtpojamikfcmnoaaW.PrintWords Go.Proofs.YtpojamikfcmnoaaW.PrintLast Go.Proofs.YtpojamikfcmnoaaW.PrintMore
attribute [local go_sem] max2_int min2_int max_two min_two max_three min_three max_four min_four   -- for this text's walks alone
set_option linter.unusedVariables false
set_option linter.unusedSimpArgs false

/-! ### agateref05_Places: function 30 -/
mutual
def agateref05_Places.l0 : Nat → List Int → Int → Option ((List (List Int)))
  | 0, _, _ => none
  | k + 1, x0, x3 => if x3 < (x0.length : Int) then (if 0 ≤ x3 then (if (rd x0 x3) = 0 then (some ([] : List (List Int))) else (agateref05_Places.l0 k x0 (wrap64 (x3 + 1)))) else (none)) else (if (x0.length : Int) = 0 then (some (([[]] : List (List Int)))) else (if 1 ≤ (x0.length : Int) then ((agateref05_Places.f k (x0.drop 1)).bind fun t106 => (agateref05_Places.l1 k x0 t106 ([] : List (List Int)) 0)) else (none)))
def agateref05_Places.l1 : Nat → List Int → List (List Int) → List (List Int) → Int → Option ((List (List Int)))
  | 0, _, _, _, _ => none
  | k + 1, x0, x4, x5, x6 => if 0 < (x0.length : Int) then (if x6 < (rd x0 0) then (agateref05_Places.l2 k x0 x4 x5 x6 0) else (some x5)) else (none)
def agateref05_Places.l2 : Nat → List Int → List (List Int) → List (List Int) → Int → Int → Option ((List (List Int)))
  | 0, _, _, _, _, _ => none
  | k + 1, x0, x4, x5, x6, x7 => if x7 < (x4.length : Int) then ((some (([x6] : List Int) : List Int)).bind fun y110 => (if 0 ≤ x7 then (if y110.length + (rd_L2 x4 x7).length < 17592186044416 then (if x5.length < 5864062014805 then (agateref05_Places.l2 k x0 x4 (x5 ++ [(y110 ++ (rd_L2 x4 x7))]) x6 (wrap64 (x7 + 1))) else (none)) else (none)) else (none))) else (agateref05_Places.l1 k x0 x4 x5 (wrap64 (x6 + 1)))
def agateref05_Places.f : Nat → List Int → Option ((List (List Int)))
  | 0, _ => none
  | k + 1, l0 => agateref05_Places.l0 k l0 0
end
theorem agateref05_Places.mono_l : ∀ k, (∀ y0, LeO (agateref05_Places.f k y0) (agateref05_Places.f (k + 1) y0)) ∧ (∀ y0 y1, LeO (agateref05_Places.l0 k y0 y1) (agateref05_Places.l0 (k + 1) y0 y1)) ∧ (∀ y0 y1 y2 y3, LeO (agateref05_Places.l1 k y0 y1 y2 y3) (agateref05_Places.l1 (k + 1) y0 y1 y2 y3)) ∧ (∀ y0 y1 y2 y3 y4, LeO (agateref05_Places.l2 k y0 y1 y2 y3 y4) (agateref05_Places.l2 (k + 1) y0 y1 y2 y3 y4))
  | 0 => ⟨fun _ r h => by simp [agateref05_Places.f] at h, fun _ _ r h => by simp [agateref05_Places.l0] at h, fun _ _ _ _ r h => by simp [agateref05_Places.l1] at h, fun _ _ _ _ _ r h => by simp [agateref05_Places.l2] at h⟩
  | k + 1 => by
    obtain ⟨ih0, ih1, ih2, ih3⟩ := agateref05_Places.mono_l k
    refine ⟨?_, ?_, ?_, ?_⟩
    · intro y0
      unfold agateref05_Places.f
      repeat' first
      | (with_reducible exact ih0 _)
      | (with_reducible exact ih1 _ _)
      | (with_reducible exact ih2 _ _ _ _)
      | (with_reducible exact ih3 _ _ _ _ _)
      | (with_reducible exact LeO.refl _)
      | (with_reducible exact LeO.none _)
      | (with_reducible refine LeO.ite ?_ ?_)
      | (with_reducible refine LeO.bind ?_ (fun _ => ?_))
      | exact ih0 _
      | exact ih1 _ _
      | exact ih2 _ _ _ _
      | exact ih3 _ _ _ _ _
      | exact LeO.none _
      | refine LeO.ite ?_ ?_
      | refine LeO.bind ?_ (fun _ => ?_)
    · intro y0 y1
      unfold agateref05_Places.l0
      repeat' first
      | (with_reducible exact ih0 _)
      | (with_reducible exact ih1 _ _)
      | (with_reducible exact ih2 _ _ _ _)
      | (with_reducible exact ih3 _ _ _ _ _)
      | (with_reducible exact LeO.refl _)
      | (with_reducible exact LeO.none _)
      | (with_reducible refine LeO.ite ?_ ?_)
      | (with_reducible refine LeO.bind ?_ (fun _ => ?_))
      | exact ih0 _
      | exact ih1 _ _
      | exact ih2 _ _ _ _
      | exact ih3 _ _ _ _ _
      | exact LeO.none _
      | refine LeO.ite ?_ ?_
      | refine LeO.bind ?_ (fun _ => ?_)
    · intro y0 y1 y2 y3
      unfold agateref05_Places.l1
      repeat' first
      | (with_reducible exact ih0 _)
      | (with_reducible exact ih1 _ _)
      | (with_reducible exact ih2 _ _ _ _)
      | (with_reducible exact ih3 _ _ _ _ _)
      | (with_reducible exact LeO.refl _)
      | (with_reducible exact LeO.none _)
      | (with_reducible refine LeO.ite ?_ ?_)
      | (with_reducible refine LeO.bind ?_ (fun _ => ?_))
      | exact ih0 _
      | exact ih1 _ _
      | exact ih2 _ _ _ _
      | exact ih3 _ _ _ _ _
      | exact LeO.none _
      | refine LeO.ite ?_ ?_
      | refine LeO.bind ?_ (fun _ => ?_)
    · intro y0 y1 y2 y3 y4
      unfold agateref05_Places.l2
      repeat' first
      | (with_reducible exact ih0 _)
      | (with_reducible exact ih1 _ _)
      | (with_reducible exact ih2 _ _ _ _)
      | (with_reducible exact ih3 _ _ _ _ _)
      | (with_reducible exact LeO.refl _)
      | (with_reducible exact LeO.none _)
      | (with_reducible refine LeO.ite ?_ ?_)
      | (with_reducible refine LeO.bind ?_ (fun _ => ?_))
      | exact ih0 _
      | exact ih1 _ _
      | exact ih2 _ _ _ _
      | exact ih3 _ _ _ _ _
      | exact LeO.none _
      | refine LeO.ite ?_ ?_
      | refine LeO.bind ?_ (fun _ => ?_)
theorem agateref05_Places.mono : ∀ a0 k, LeO (agateref05_Places.f k a0) (agateref05_Places.f (k + 1) a0) := by
  intro a0 k
  obtain ⟨ih0, ih1, ih2, ih3⟩ := agateref05_Places.mono_l k
  exact ih0 a0
set_option maxHeartbeats 8000000 in
set_option maxRecDepth 100000 in
theorem agateref05_Places.calls (k : Nat) : ∀ (A0 : Option Addr) (c0 : Nat) (l0 : List Int) (r : List (List Int)) (w : World) (hr0 : Kd.C (Kd.int .i64) w A0 l0.length l0) (hc0 : l0.length ≤ c0) (h : agateref05_Places.f k l0 = some r),
    Calls Try.prog 30 #[.slice A0 l0.length c0] w fun e w' => ∃ v0_ : Value, e = .returned (v0_) ∧ Kd.S (Kd.slice 2 (Kd.int .i64)) 39 w' w.heap.size (fun _ => True) v0_ r ∧ Below w.heap.size w w' := by
  induction k using Nat.strongRecOn with
  | _ k ih =>
  intro A0 c0 l0 r w hr0 hc0 h
  cases k with
  | zero => exact absurd h (by simp [agateref05_Places.f])
  | succ k =>
  simp only [agateref05_Places.f] at h
  have HR0 := Aside0.mk hr0
  have HC0 := Aside0.mk hc0
  clear hr0 hc0
  have HB := Aside0.mk (Below.refl w.heap.size w)
  have H : (agateref05_Places.l0 k l0 0) = some r := h
  clear h
  have H' := Aside0.mk H
  clear H
  go_enter Try.func30, Try.ntmps30
  go_wp2
  go_loopg [3] k (fun kq v3 w' => ∃ (x3_1 : Int), v3 = .int .i64 x3_1 ∧ Aside0 (agateref05_Places.l0 kq l0 x3_1 = some r) ∧ Aside0 (kq ≤ k) ∧ Aside0 (Below w.heap.size w w'))
  case atStart => exact ⟨(0), (by first | rfl | (simp; done) | (simp [*]; done)), H', ⟨Nat.le_refl _⟩, ⟨by repeat (first | (with_reducible first | exact HB.out | apply below_alloc | apply pw_below_drewN | apply below_drew1) | exact HB.out)⟩⟩
  case round =>
    clear H'
    obtain ⟨x3_1, rfl, HA, HK1, HB⟩ := hrel
    cases gk with
    | zero => exact absurd HA.out (by simp [agateref05_Places.l0])
    | succ k1 =>
      have H := HA.out
      clear HA
      simp only [agateref05_Places.l0] at H
      by_cases c2 : x3_1 < (l0.length : Int)
      · rw [if_pos c2] at H
        have c2b0 : decide (x3_1 < (l0.length : Int)) = true := decide_eq_true c2
        clear c2
        by_cases c3 : 0 ≤ x3_1
        · rw [if_pos c3] at H
          have c3b0 : decide (0 ≤ x3_1) = true := decide_eq_true c3
          clear c3
          by_cases c4 : (rd l0 x3_1) = 0
          · rw [if_pos c4] at H
            have c4b0 : ((rd l0 x3_1) == 0) = true := beq_iff_eq.mpr c4
            have c4b1 : ((rd l0 x3_1) != 0) = false := bne_eq_false_iff_eq.mpr c4
            clear c4
            obtain rfl := Option.some.inj H
            have p101 : 0 ≤ (x3_1 : Int) := of_decide_eq_true (by first | (with_reducible assumption) | assumption)
            have q101 : x3_1 < (l0.length : Int) := of_decide_eq_true (by first | (with_reducible assumption) | assumption)
            obtain ⟨ad101, e101, hx101_0⟩ := Kd.at_int HR0.out x3_1 p101 q101
            cases e101
            replace hx101_0 := (HB.out.cell (World.block_lt_of_cell? w _ hx101_0)).trans hx101_0
            replace p101 := eq_true p101
            replace q101 := eq_true q101
            go_wp2
            go_ret
            exact ⟨_, by first | rfl | (simp [errW_none, errW_some] <;> rfl) | (simp [*, errW_none, errW_some] <;> rfl), by first | exact Kd.S_nil _ _ _ _ _ | exact Kd.N_nil _ _ _ _ _ | exact Kd.V_nil _ _ _ _ _ | exact Kd.Q_nil _ _ _ _ _ | exact Kd.R_nil _ _ _ _ _, by repeat (first | (with_reducible first | exact HB.out | apply below_alloc | apply pw_below_drewN | apply below_drew1) | exact HB.out)⟩
          · rw [if_neg c4] at H
            have c4b0 : ((rd l0 x3_1) == 0) = false := beq_eq_false_iff_ne.mpr c4
            have c4b1 : ((rd l0 x3_1) != 0) = true := bne_iff_ne.mpr c4
            have H' := Aside0.mk H
            clear H
            have p101 : 0 ≤ (x3_1 : Int) := of_decide_eq_true (by first | (with_reducible assumption) | assumption)
            have q101 : x3_1 < (l0.length : Int) := of_decide_eq_true (by first | (with_reducible assumption) | assumption)
            obtain ⟨ad101, e101, hx101_0⟩ := Kd.at_int HR0.out x3_1 p101 q101
            cases e101
            replace hx101_0 := (HB.out.cell (World.block_lt_of_cell? w _ hx101_0)).trans hx101_0
            replace p101 := eq_true p101
            replace q101 := eq_true q101
            go_wp2
            go_roundg k1
            case measure => have := HK1.out; omega
            case rel => exact ⟨(wrap64 (x3_1 + 1)), (by first | rfl | (simp; done) | (simp [*]; done)), H', ⟨by have := HK1.out; omega⟩, ⟨by repeat (first | (with_reducible first | exact HB.out | apply below_alloc | apply pw_below_drewN | apply below_drew1) | exact HB.out)⟩⟩
        · rw [if_neg c3] at H
          exact absurd H (by simp)
      · rw [if_neg c2] at H
        have c2b0 : decide (x3_1 < (l0.length : Int)) = false := decide_eq_false c2
        clear c2
        by_cases c5 : (l0.length : Int) = 0
        · rw [if_pos c5] at H
          have c5b0 : ((l0.length : Int) == 0) = true := beq_iff_eq.mpr c5
          have c5b1 : ((l0.length : Int) != 0) = false := bne_eq_false_iff_eq.mpr c5
          clear c5
          obtain ⟨y102, hy102⟩ : ∃ y_ : List (List Int), y_ = (([[]] : List (List Int))) := ⟨_, rfl⟩
          replace H : (some y102) = some r := by first | (rw [hy102]; with_reducible exact H) | (have H2_ := (Option.bind_some _ _).symm.trans H; rw [hy102]; with_reducible exact H2_) | (have H2_ := (Option.bind_some _ _).symm.trans H; with_reducible exact H2_) | with_reducible exact H | (rw [hy102]; exact H) | exact H
          have Ny102 := Aside0.mk hy102
          clear hy102
          obtain rfl := Option.some.inj H
          go_wp2_with (first | ((with_reducible refine gate_dst (N := 22) rfl ?_); refine Kd.S_lit (Kd.slice 2 (Kd.int .i64)) _ 39 ?hg (N := 22) ?hd (xs := ([[]] : List (List Int))) (inner := [.slice none 0 0]) (ok := fun _ => True) (okp := fun _ => True) ?hr ?hp (fun _ hk => hk) trivial (Below.refl _ _) (Nat.le_refl _) (by simp) ?_; (case hd => rfl); (case hg => rfl); (case hr => first | (go_simp; done) | (go_simp; rfl)); (case hp => exact (Reps.one (show Kd.M (Kd.slice 2 (Kd.int .i64)) _ _ _ [] [.slice none 0 0] from ⟨_, rfl, Kd.R_nil _ _ _ _ _⟩) (Reps.none _ _))); intro v103 w6 ho7 hb hg_ hnew_; clear hg_ hnew_; (first | rw [← Ny102.out] at ho7 | (simp only [Int.reduceToNat] at ho7; rw [← Ny102.out] at ho7)); have n0_ := Aside0.mk (Kd.S_lower ho7 (below_size (by repeat (first | (with_reducible first | exact HB.out | apply below_alloc | apply pw_below_drewN | apply below_drew1) | exact HB.out)))); have n1_ := Aside0.mk (below_step (by repeat (first | (with_reducible first | exact HB.out | apply below_alloc | apply pw_below_drewN | apply below_drew1) | exact HB.out)) hb); clear HB; have HO104 := n0_; have HB := n1_; clear n0_ n1_; clear hb ho7))
          go_ret
          exact ⟨_, by first | rfl | (simp [errW_none, errW_some] <;> rfl) | (simp [*, errW_none, errW_some] <;> rfl), by (with_reducible repeat (first | apply Kd.S_alloc | apply Kd.S_drewN | apply Kd.S_drew)); exact HO104.out, by repeat (first | (with_reducible first | exact HB.out | apply below_alloc | apply pw_below_drewN | apply below_drew1) | exact HB.out)⟩
        · rw [if_neg c5] at H
          have c5b0 : ((l0.length : Int) == 0) = false := beq_eq_false_iff_ne.mpr c5
          have c5b1 : ((l0.length : Int) != 0) = true := bne_iff_ne.mpr c5
          have c5b2 : ¬ (l0 = []) := fun h_ => c5 (by rw [h_]; rfl)
          by_cases c8 : 1 ≤ (l0.length : Int)
          · rw [if_pos c8] at H
            have c8b0 := eq_true c8
            have c8b1 : decide (1 ≤ (l0.length : Int)) = true := decide_eq_true c8
            clear c8
            replace H := Option.bind_eq_some_iff.mp H
            obtain ⟨t106, A90, H⟩ := H
            replace H : (agateref05_Places.l1 k1 l0 t106 ([] : List (List Int)) 0) = some r := H
            have A9 := Aside0.mk A90
            clear A90
            have H' := Aside0.mk H
            clear H
            obtain ⟨i010, hi010, _, hsz10, _⟩ := info_parts info2
            obtain ⟨A10, hcut10, hA10, hC10⟩ := print_drop_of (P := Try.prog) (Value.int .i64) 0 39 2 .i64 Try.underlying39 hi010 hsz10 A0 c0 l0 1 (by omega) (of_decide_eq_true (by first | (with_reducible assumption) | assumption)) HC0.out
            have HR105 := Aside0.mk (Kd.C_of_reads (h1 := fun _ => rfl) (hA10 _ (Kd.reads_of_C HR0.out)))
            have HC105 := Aside0.mk hC10
            clear hA10 hC10 hi010 hsz10
            go_wp2_with (first | ((with_reducible refine gate_callee (f := 30) rfl ?_); refine goesL_ (some 25) rfl rfl Try.func30 (by kernel_rfl) rfl #[.slice A10 (l0.drop 1).length (c0 - 1)] rfl (by (try simp only [List.map_toArray, List.map_cons, List.map_nil]); first | done | (rw [show (l0.drop 1).length = (l0.length - 1) from List.length_drop] <;> rfl) | rfl | (simp only [List.length_drop, List.length_take]; rfl)) ?_; (with_reducible refine (ih k1 (by have := HK1.out; omega) _ _ (l0.drop 1) t106 _ ?side1 ?side2 A9.out).mono ?_); (case side1 => repeat (first | exact (Kd.C_below HR105.out HB.out) | (with_reducible refine Kd.C_alloc ?_ _) | (with_reducible refine Kd.C_drewN ?_ _) | (with_reducible refine Kd.C_drew ?_))); (case side2 => exact HC105.out); rintro e w11 ⟨v107, rfl, ho0, hb⟩; refine ⟨_, rfl, ?_⟩; have n0_ := Aside0.mk (Kd.S_lower ho0 (below_size (by repeat (first | (with_reducible first | exact HB.out | apply below_alloc | apply pw_below_drewN | apply below_drew1) | exact HB.out)))); have n1_ := Aside0.mk (below_step (by repeat (first | (with_reducible first | exact HB.out | apply below_alloc | apply pw_below_drewN | apply below_drew1) | exact HB.out)) hb); clear HB; have HO108 := n0_; have HB := n1_; clear n0_ n1_; (try clear hb); (try clear hb2); (try clear hk); (try clear hi); (try clear ho0)))
            go_loopg [5, 6] k1 (fun kq v5 v6 w' => ∃ (x5_2 : List (List Int)) (x6_2 : Int), v6 = .int .i64 x6_2 ∧ Aside0 (agateref05_Places.l1 kq l0 t106 x5_2 x6_2 = some r) ∧ Aside0 (kq ≤ k1) ∧ Aside0 (Kd.S (Kd.slice 2 (Kd.int .i64)) 39 w' w.heap.size (fun k_ => some k_ ≠ (v5 : Value).ownBlock) v107 t106) ∧ Aside0 (Kd.S (Kd.slice 2 (Kd.int .i64)) 39 w' w.heap.size (fun k_ => some k_ ≠ (v107 : Value).ownBlock) v5 x5_2) ∧ Aside0 (Below w.heap.size w w'))
            case atStart => exact ⟨(([] : List (List Int))), (0), (by first | rfl | (simp; done) | (simp [*]; done)), H', ⟨Nat.le_refl _⟩, ⟨by (with_reducible repeat (first | apply Kd.S_alloc | apply Kd.S_drewN | apply Kd.S_drew)); exact Kd.S_mono HO108.out (fun _ hk => (by simp [Value.ownBlock]))⟩, ⟨by first | exact Kd.S_nil _ _ _ _ _ | exact Kd.N_nil _ _ _ _ _ | exact Kd.V_nil _ _ _ _ _ | exact Kd.Q_nil _ _ _ _ _ | exact Kd.R_nil _ _ _ _ _⟩, ⟨by repeat (first | (with_reducible first | exact HB.out | apply below_alloc | apply pw_below_drewN | apply below_drew1) | exact HB.out)⟩⟩
            case round =>
              clear H'
              try clear p1
              try clear q1
              try clear hx1
              try clear c2
              try clear c2b0
              try clear p2
              try clear c3
              try clear c3b0
              try clear c4
              try clear c4b0
              try clear c4b1
              try clear c5
              try clear c5b0
              try clear c5b1
              try clear c5b2
              try clear p6
              try clear c8
              try clear c8b0
              try clear c8b1
              try clear p10
              try clear q10
              try clear hx10
              try clear hx101_0
              try clear p101
              try clear q101
              obtain ⟨x5_2, x6_2, rfl, HA, HK2, HO_4, HO_5, HB⟩ := hrel
              cases gk with
              | zero => exact absurd HA.out (by simp [agateref05_Places.l1])
              | succ k2 =>
                have H := HA.out
                clear HA
                simp only [agateref05_Places.l1] at H
                by_cases c12 : 0 < (l0.length : Int)
                · rw [if_pos c12] at H
                  have c12b0 : decide (0 < (l0.length : Int)) = true := decide_eq_true c12
                  have c12b1 : decide (0 < l0.length) = true := decide_eq_true (by omega)
                  clear c12
                  by_cases c13 : x6_2 < (rd l0 0)
                  · rw [if_pos c13] at H
                    have c13b0 : decide (x6_2 < (rd l0 0)) = true := decide_eq_true c13
                    clear c13
                    have H' := Aside0.mk H
                    clear H
                    have p109 : 0 ≤ (0 : Int) := (by omega)
                    have q109 : 0 < (l0.length : Int) := of_decide_eq_true (by first | (with_reducible assumption) | assumption)
                    obtain ⟨ad109, e109, hx109_0⟩ := Kd.at_int HR0.out 0 p109 q109
                    cases e109
                    have qi109 : (0 < l0.length) = True := eq_true (by omega)
                    (try rw [show ((0 : Int)).toNat = 0 from rfl] at hx109_0)
                    (try rw [Addr.add_zero'] at hx109_0)
                    replace hx109_0 := (HB.out.cell (World.block_lt_of_cell? w _ hx109_0)).trans hx109_0
                    replace p109 := eq_true p109
                    replace q109 := eq_true q109
                    go_wp2
                    go_loopg [5, 7] k2 (fun kq v5 v7 w' => ∃ (x5_3 : List (List Int)) (x7_3 : Int), v7 = .int .i64 x7_3 ∧ Aside0 (agateref05_Places.l2 kq l0 t106 x5_3 x6_2 x7_3 = some r) ∧ Aside0 (kq ≤ k2) ∧ Aside0 (Kd.S (Kd.slice 2 (Kd.int .i64)) 39 w' w.heap.size (fun k_ => some k_ ≠ (v5 : Value).ownBlock) v107 t106) ∧ Aside0 (Kd.S (Kd.slice 2 (Kd.int .i64)) 39 w' w.heap.size (fun k_ => some k_ ≠ (v107 : Value).ownBlock) v5 x5_3) ∧ Aside0 (Below w.heap.size w w'))
                    case atStart => exact ⟨(x5_2), (0), (by first | rfl | (simp; done) | (simp [*]; done)), H', ⟨Nat.le_refl _⟩, ⟨by (with_reducible repeat (first | apply Kd.S_alloc | apply Kd.S_drewN | apply Kd.S_drew)); exact HO_4.out⟩, ⟨by (with_reducible repeat (first | apply Kd.S_alloc | apply Kd.S_drewN | apply Kd.S_drew)); exact HO_5.out⟩, ⟨by repeat (first | (with_reducible first | exact HB.out | apply below_alloc | apply pw_below_drewN | apply below_drew1) | exact HB.out)⟩⟩
                    case round =>
                      clear H'
                      try clear c1
                      try clear p1
                      try clear q1
                      try clear hx1
                      try clear qi1
                      try clear c2
                      try clear c2b0
                      try clear p2
                      try clear c3
                      try clear c3b0
                      try clear c4
                      try clear c4b0
                      try clear c4b1
                      try clear c5
                      try clear c5b0
                      try clear c5b1
                      try clear c5b2
                      try clear p6
                      try clear c8
                      try clear c8b0
                      try clear c8b1
                      try clear p10
                      try clear q10
                      try clear hx10
                      try clear qi10
                      try clear c12
                      try clear c12b0
                      try clear c12b1
                      try clear c13
                      try clear c13b0
                      try clear hx101_0
                      try clear hx109_0
                      try clear p1
                      try clear p10
                      try clear p101
                      try clear p109
                      try clear p2
                      try clear p6
                      try clear q1
                      try clear q10
                      try clear q101
                      try clear q109
                      obtain ⟨x5_3, x7_3, rfl, HA, HK3, HO_4, HO_5, HB⟩ := hrel
                      cases gk with
                      | zero => exact absurd HA.out (by simp [agateref05_Places.l2])
                      | succ k3 =>
                        have H := HA.out
                        clear HA
                        simp only [agateref05_Places.l2] at H
                        by_cases c14 : x7_3 < (t106.length : Int)
                        · rw [if_pos c14] at H
                          have c14b0 : decide (x7_3 < (t106.length : Int)) = true := decide_eq_true c14
                          clear c14
                          obtain ⟨y110, hy110⟩ : ∃ y_ : List Int, y_ = (([x6_2] : List Int)) := ⟨_, rfl⟩
                          replace H : (if 0 ≤ x7_3 then (if y110.length + (rd_L2 t106 x7_3).length < 17592186044416 then (if x5_3.length < 5864062014805 then (agateref05_Places.l2 k3 l0 t106 (x5_3 ++ [(y110 ++ (rd_L2 t106 x7_3))]) x6_2 (wrap64 (x7_3 + 1))) else (none)) else (none)) else (none)) = some r := by first | (rw [hy110]; with_reducible exact H) | (have H2_ := (Option.bind_some _ _).symm.trans H; rw [hy110]; with_reducible exact H2_) | (have H2_ := (Option.bind_some _ _).symm.trans H; with_reducible exact H2_) | with_reducible exact H | (rw [hy110]; exact H) | exact H
                          have Ny110 := Aside0.mk hy110
                          clear hy110
                          by_cases c15 : 0 ≤ x7_3
                          · rw [if_pos c15] at H
                            have c15b0 : decide (0 ≤ x7_3) = true := decide_eq_true c15
                            clear c15
                            by_cases c16 : y110.length + (rd_L2 t106 x7_3).length < 17592186044416
                            · rw [if_pos c16] at H
                              have LMc16 := Aside0.mk c16
                              clear c16
                              obtain ⟨y114, hy114⟩ : ∃ y_ : List Int, y_ = (y110 ++ (rd_L2 t106 x7_3)) := ⟨_, rfl⟩
                              replace H : (if x5_3.length < 5864062014805 then (agateref05_Places.l2 k3 l0 t106 (x5_3 ++ [y114]) x6_2 (wrap64 (x7_3 + 1))) else (none)) = some r := by first | (rw [hy114]; with_reducible exact H) | (have H2_ := (Option.bind_some _ _).symm.trans H; rw [hy114]; with_reducible exact H2_) | (have H2_ := (Option.bind_some _ _).symm.trans H; with_reducible exact H2_) | with_reducible exact H | (rw [hy114]; exact H) | exact H
                              have Ny114 := Aside0.mk hy114
                              clear hy114
                              by_cases c17 : x5_3.length < 5864062014805
                              · rw [if_pos c17] at H
                                have LMc17 := Aside0.mk c17
                                clear c17
                                obtain ⟨y117, hy117⟩ : ∃ y_ : List (List Int), y_ = (x5_3 ++ [y114]) := ⟨_, rfl⟩
                                replace H : (agateref05_Places.l2 k3 l0 t106 y117 x6_2 (wrap64 (x7_3 + 1))) = some r := by first | (rw [hy117]; with_reducible exact H) | (have H2_ := (Option.bind_some _ _).symm.trans H; rw [hy117]; with_reducible exact H2_) | (have H2_ := (Option.bind_some _ _).symm.trans H; with_reducible exact H2_) | with_reducible exact H | (rw [hy117]; exact H) | exact H
                                have Ny117 := Aside0.mk hy117
                                clear hy117
                                have H' := Aside0.mk H
                                clear H
                                obtain ⟨Ao18, co18, eo18⟩ := Kd.S_slice HO_4.out
                                subst eo18
                                go_wp2_with (first | ((with_reducible refine gate_dst (N := 41) rfl ?_); refine Kd.R_lit (Kd.int .i64) _ 2 ?hg (N := 41) ?hd (xs := ([x6_2] : List Int)) (inner := [.int .i64 x6_2]) (ok := fun _ => True) (okp := fun _ => True) ?hr ?hp (fun _ hk => hk) trivial (Below.refl _ _) (Nat.le_refl _) (by simp) ?_; (case hd => rfl); (case hg => rfl); (case hr => first | (go_simp; done) | (go_simp; rfl)); (case hp => exact (Reps.one (show Kd.M (Kd.int .i64) _ _ _ x6_2 [.int .i64 x6_2] from rfl) (Reps.none _ _))); intro v111 w19 ho20 hb hg_ hnew_; clear hg_ hnew_; (first | rw [← Ny110.out] at ho20 | (simp only [Int.reduceToNat] at ho20; rw [← Ny110.out] at ho20)); have n0_ := Aside0.mk (Kd.S_elder' (by (with_reducible repeat (first | apply Kd.S_alloc | apply Kd.S_drewN | apply Kd.S_drew)); exact HO_4.out) (Kd.R_base ho20) hb); have n1_ := Aside0.mk (Kd.S_elder' (by (with_reducible repeat (first | apply Kd.S_alloc | apply Kd.S_drewN | apply Kd.S_drew)); exact HO_5.out) (Kd.R_base ho20) hb); have n2_ := Aside0.mk (Kd.R_lower ho20 (below_size (by repeat (first | (with_reducible first | exact HB.out | apply below_alloc | apply pw_below_drewN | apply below_drew1) | exact HB.out)))); have n3_ := Aside0.mk (below_step (by repeat (first | (with_reducible first | exact HB.out | apply below_alloc | apply pw_below_drewN | apply below_drew1) | exact HB.out)) hb); clear HO_4; clear HO_5; clear HB; have HO_4 := n0_; have HO_5 := n1_; have HO112 := n2_; have HB := n3_; clear n0_ n1_ n2_ n3_; clear hb ho20; have p113 : 0 ≤ (x7_3 : Int) := of_decide_eq_true (by first | (with_reducible assumption) | assumption); have q113 : x7_3 < (t106.length : Int) := of_decide_eq_true (by first | (with_reducible assumption) | assumption); obtain ⟨ad113, A113_0, c113_0, e113, hx113_0, hl113_0, hi113_0⟩ := at_L2 (Kd.S_reads' HO_4.out).2.2 x7_3 p113 q113; cases e113; obtain ⟨ce113, hce113, hMe113, hcc113⟩ := Kd.S_get HO_4.out [] x7_3 p113 (by first | exact q113 | exact of_decide_eq_true (by first | (with_reducible assumption) | assumption) | (have e_ := (Kd.S_reads' HO_4.out).1; omega)); obtain ⟨ve113_0, rfl, ge113_0⟩ := hMe113; have hv113_0 := hcc113 0 _ rfl; rw [Nat.add_zero, show ((Kd.slice 2 (Kd.int .i64))).sz = 1 from rfl, Nat.mul_one] at hv113_0; replace hv113_0 := Option.some.inj (hv113_0.symm.trans hx113_0); rw [hv113_0] at ge113_0; have HL113_0 := Aside0.mk (show Kd.R (Kd.int .i64) 2 _ _ _ _ (rd_L2 t106 x7_3) from ge113_0); clear hv113_0 ge113_0; clear hcc113 hce113; have HR113_0 := Aside0.mk hi113_0; have HC113_0 := Aside0.mk hl113_0; clear hi113_0 hl113_0; replace p113 := eq_true p113; replace q113 := eq_true q113) | ((with_reducible refine gate_builtin (b := .append) (xs := #[.tmp 41, .tmp 45]) rfl ?_); at_builtin; refine Kd.R_append_rows (Kd.int .i64) (w0 := w) w.heap.size rfl (.tmp 41) (.tmp 45) 39 2 (.int .i64 0) 8 rfl Try.underlying39 info2 rfl (by decide) (by omega) v111 y110 (rd_L2 t106 x7_3) _ _ _ (fun _ => True) (fun _ => False) rfl rfl ?aO ?aR (fun _ _ h => h) (fun _ h => h.elim) ?aF ?aB ?aS ?aL ?_; (case aR => repeat (first | exact (by repeat (first | (with_reducible exact HR113_0.out) | (with_reducible refine Kd.C_alloc ?_ _) | (with_reducible refine Kd.C_drewN ?_ _) | (with_reducible refine Kd.C_drew ?_) | exact HR113_0.out)) | (with_reducible refine Kd.C_alloc ?_ _) | (with_reducible refine Kd.C_drewN ?_ _) | (with_reducible refine Kd.C_drew ?_))); (case aB => exact (by repeat (first | (with_reducible first | exact HB.out | apply below_alloc | apply pw_below_drewN | apply below_drew1) | exact HB.out))); (case aF => exact (fun _ _ => trivial)); (case aO => exact (by (with_reducible repeat (first | apply Kd.R_alloc | apply Kd.R_drewN | apply Kd.R_drew)); exact HO112.out)); (case aS => exact (below_size (by repeat (first | (with_reducible first | exact HB.out | apply below_alloc | apply pw_below_drewN | apply below_drew1) | exact HB.out)))); (case aL => have := LMc16.out; omega); intro v115 w21 ho hb hg hat; rw [← Ny114.out] at ho; have n0_ := Aside0.mk (Kd.S_after (ok := (fun k_ => some k_ ≠ (u5 : Value).ownBlock)) (by (with_reducible repeat (first | apply Kd.S_alloc | apply Kd.S_drewN | apply Kd.S_drew)); exact HO_4.out) hg hat); have n1_ := Aside0.mk (Kd.S_after (ok := (fun k_ => some k_ ≠ (.slice (some ad113) t106.length co18 : Value).ownBlock)) (by (with_reducible repeat (first | apply Kd.S_alloc | apply Kd.S_drewN | apply Kd.S_drew)); exact HO_5.out) hg hat); have n2_ := Aside0.mk (Kd.R_after (ok := (fun k_ => some k_ ≠ (.slice (some ad113) t106.length co18 : Value).ownBlock ∧ some k_ ≠ (u5 : Value).ownBlock)) (by (with_reducible repeat (first | apply Kd.R_alloc | apply Kd.R_drewN | apply Kd.R_drew)); exact Kd.R_mono HL113_0.out (fun _ hk => ⟨⟨hk.2, hk.1.1⟩, hk.1.2⟩)) hg hat); have n3_ := Aside0.mk (hb); have n4_ := Aside0.mk (ho); clear HO_4; clear HO_5; clear HL113_0; clear HB; clear HO112; have HO_4 := n0_; have HO_5 := n1_; have HL113_0 := n2_; have HB := n3_; have HO116 := n4_; clear n0_ n1_ n2_ n3_ n4_; clear ho hb hg hat; obtain ⟨Ao23, co23, eo23⟩ := Kd.R_slice HO116.out; subst eo23) | ((with_reducible refine gate_builtin (b := .append) (xs := #[.tmp 39, .tmp 47]) rfl ?_); at_builtin; refine Kd.S_append (Kd.slice 2 (Kd.int .i64)) (w0 := w) w.heap.size rfl (.tmp 39) (.tmp 47) 55 39 (.slice none 0 0) 24 rfl Try.underlying55 info39 rfl (by decide) (by omega) u5 x5_3 y114 [.slice Ao23 y114.length co23] (fun k_ => some k_ ≠ (.slice (some ad113) t106.length co18 : Value).ownBlock) (fun k_ => some k_ = (.slice Ao23 y114.length co23 : Value).ownBlock) rfl rfl ?aP (fun k_ hk_ => ((Kd.R_mono (ok' := fun k_ => ((fun k_ => some k_ ≠ (.slice (some ad113) t106.length co18 : Value).ownBlock)) k_ ∧ some k_ ≠ (u5 : Value).ownBlock) (Kd.R_apart' (Kd.R_apart' (HO116.out) (Kd.S_typed HO_4.out) (by decide)) (Kd.S_typed HO_5.out) (by decide)) (fun k_ hk => ⟨hk.1.2, hk.2⟩))).1 k_ hk_.symm) ?aF ?aO ?aB ?aS ?aL ?_; (case aP => exact Kd.M_row (Kd.R_mono (Kd.R_tight rfl (Kd.R_mono (ok' := fun k_ => ((fun k_ => some k_ ≠ (.slice (some ad113) t106.length co18 : Value).ownBlock)) k_ ∧ some k_ ≠ (u5 : Value).ownBlock) (Kd.R_apart' (Kd.R_apart' (HO116.out) (Kd.S_typed HO_4.out) (by decide)) (Kd.S_typed HO_5.out) (by decide)) (fun k_ hk => ⟨hk.1.2, hk.2⟩))) (fun _ h_ => h_))); (case aB => exact (by repeat (first | (with_reducible first | exact HB.out | apply below_alloc | apply pw_below_drewN | apply below_drew1) | exact HB.out))); (case aF => exact (fun k_ hk => Kd.fresh' (Kd.S_lt (by (with_reducible repeat (first | apply Kd.S_alloc | apply Kd.S_drewN | apply Kd.S_drew)); exact HO_4.out)) k_ hk)); (case aO => exact (by (with_reducible repeat (first | apply Kd.S_alloc | apply Kd.S_drewN | apply Kd.S_drew)); exact Kd.S_mono HO_5.out (fun k_ hk => ⟨hk.1, fun e_ => hk.2 e_⟩))); (case aS => exact (below_size (by repeat (first | (with_reducible first | exact HB.out | apply below_alloc | apply pw_below_drewN | apply below_drew1) | exact HB.out)))); (case aL => have := LMc17.out; omega); intro v118 w22 ho hb hg hat; rw [← Ny117.out] at ho; have n0_ := Aside0.mk (Kd.S_after (ok := (fun k_ => some k_ ≠ (.slice Ao23 y114.length co23 : Value).ownBlock)) (by (with_reducible repeat (first | apply Kd.S_alloc | apply Kd.S_drewN | apply Kd.S_drew)); exact Kd.S_mono HO_4.out (fun _ hk => ⟨hk.2, hk.1⟩)) hg hat); have n1_ := Aside0.mk (Kd.R_after (ok := (fun k_ => some k_ ≠ (.slice (some ad113) t106.length co18 : Value).ownBlock ∧ some k_ ≠ (.slice Ao23 y114.length co23 : Value).ownBlock)) (by (with_reducible repeat (first | apply Kd.R_alloc | apply Kd.R_drewN | apply Kd.R_drew)); exact Kd.R_mono HL113_0.out (fun _ hk => ⟨⟨hk.1.1, hk.2⟩, hk.1.2⟩)) hg hat); have n2_ := Aside0.mk (hb); have n3_ := Aside0.mk (ho); clear HO_4; clear HL113_0; clear HB; clear HO_5; clear HO116; have HO_4 := n0_; have HL113_0 := n1_; have HB := n2_; have HO119 := n3_; clear n0_ n1_ n2_ n3_; clear ho hb hg hat))
                                go_roundg k3
                                case measure => have := HK1.out; have := HK2.out; have := HK3.out; omega
                                case rel => exact ⟨(y117), (wrap64 (x7_3 + 1)), (by first | rfl | (simp; done) | (simp [*]; done)), H', ⟨by have := HK1.out; have := HK2.out; have := HK3.out; omega⟩, ⟨by (with_reducible repeat (first | apply Kd.S_alloc | apply Kd.S_drewN | apply Kd.S_drew)); exact Kd.S_mono HO_4.out (fun _ hk => hk.2)⟩, ⟨by (with_reducible repeat (first | apply Kd.S_alloc | apply Kd.S_drewN | apply Kd.S_drew)); exact HO119.out⟩, ⟨by repeat (first | (with_reducible first | exact HB.out | apply below_alloc | apply pw_below_drewN | apply below_drew1) | exact HB.out)⟩⟩
                              · rw [if_neg c17] at H
                                exact absurd H (by simp)
                            · rw [if_neg c16] at H
                              exact absurd H (by simp)
                          · rw [if_neg c15] at H
                            exact absurd H (by simp)
                        · rw [if_neg c14] at H
                          have c14b0 : decide (x7_3 < (t106.length : Int)) = false := decide_eq_false c14
                          clear c14
                          have H' := Aside0.mk H
                          clear H
                          obtain ⟨Ao24, co24, eo24⟩ := Kd.S_slice HO_4.out
                          subst eo24
                          go_wp2
                          go_roundg k3
                          case measure => have := HK1.out; have := HK2.out; have := HK3.out; omega
                          case rel => exact ⟨(x5_3), (wrap64 (x6_2 + 1)), (by first | rfl | (simp; done) | (simp [*]; done)), H', ⟨by have := HK1.out; have := HK2.out; have := HK3.out; omega⟩, ⟨by (with_reducible repeat (first | apply Kd.S_alloc | apply Kd.S_drewN | apply Kd.S_drew)); exact HO_4.out⟩, ⟨by (with_reducible repeat (first | apply Kd.S_alloc | apply Kd.S_drewN | apply Kd.S_drew)); exact HO_5.out⟩, ⟨by repeat (first | (with_reducible first | exact HB.out | apply below_alloc | apply pw_below_drewN | apply below_drew1) | exact HB.out)⟩⟩
                  · rw [if_neg c13] at H
                    have c13b0 : decide (x6_2 < (rd l0 0)) = false := decide_eq_false c13
                    clear c13
                    obtain rfl := Option.some.inj H
                    have p109 : 0 ≤ (0 : Int) := (by omega)
                    have q109 : 0 < (l0.length : Int) := of_decide_eq_true (by first | (with_reducible assumption) | assumption)
                    obtain ⟨ad109, e109, hx109_0⟩ := Kd.at_int HR0.out 0 p109 q109
                    cases e109
                    have qi109 : (0 < l0.length) = True := eq_true (by omega)
                    (try rw [show ((0 : Int)).toNat = 0 from rfl] at hx109_0)
                    (try rw [Addr.add_zero'] at hx109_0)
                    replace hx109_0 := (HB.out.cell (World.block_lt_of_cell? w _ hx109_0)).trans hx109_0
                    replace p109 := eq_true p109
                    replace q109 := eq_true q109
                    go_wp2
                    go_ret
                    exact ⟨_, by first | rfl | (simp [errW_none, errW_some] <;> rfl) | (simp [*, errW_none, errW_some] <;> rfl), by (with_reducible repeat (first | apply Kd.S_alloc | apply Kd.S_drewN | apply Kd.S_drew)); exact Kd.S_mono HO_5.out (fun _ hk => trivial), by repeat (first | (with_reducible first | exact HB.out | apply below_alloc | apply pw_below_drewN | apply below_drew1) | exact HB.out)⟩
                · rw [if_neg c12] at H
                  exact absurd H (by simp)
          · rw [if_neg c8] at H
            exact absurd H (by simp)

end Go.Proofs.Ytpojamikfcmnoaa.X
