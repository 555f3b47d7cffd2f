import Derived.Test.YtohddbiedabmhaaMPackBack0
import Derived.Test.YtohddbiedabmhaaMPackBack4
import Derived.Test.YtohddbiedabmhaaMPackBack5
import Derived.Test.YtohddbiedabmhaaMPackBack3
import Derived.Test.YtohddbiedabmhaaMPackBack2
-- by xprint.py, a program of this session, over the kit's print.py
namespace Go.Proofs.Ytohddbiedabmhaa.X
open Go.RowKit Go.Proofs.YtohddbiedabmhaaW.PrintWords Go.Proofs.YtohddbiedabmhaaW.PrintLast Go.Proofs.YtohddbiedabmhaaW.PrintMore
attribute [local go_sem] max2_int min2_int max_two min_two max_three min_three max_four min_four   -- for this text's walks alone
set_option linter.unusedVariables false
set_option linter.unusedSimpArgs false

def oneT (r : Fl × Nat × Nat) : Int × Int × Int × ByteArray × Int × Int := (r.1.1, r.1.2.1, r.1.2.2.1, r.1.2.2.2, r.2.1, r.2.2)
def wire_one_s.f (a0 : ByteArray) : Option (Int × Int × Int × ByteArray × Int × Int) := if a0.size ≤ 140737488351232 then some (oneT (oneS a0)) else none
theorem and_seven (t : Nat) (h : t < 18446744073709551616) : Go.bits .and .u64 (t : Int) 7 = ((t % 8 : Nat) : Int) := by
  have := u64_and_nat t 7 h (by decide)
  rw [show ((7 : Nat) : Int) = 7 from rfl] at this
  rw [this, show (7 : Nat) = 2 ^ 3 - 1 from rfl, Nat.and_two_pow_sub_one_eq_mod]
theorem wire_one_text (k : Nat) (a0 : ByteArray) (n num : Nat) (ty : Nat) (hs : a0.size ≤ 140737488351232) (hn : n ≤ a0.size) (hn10 : n ≤ 10) (hty : ty = 0 ∨ ty = 2) :
    wire_one.j0 (k + 1) a0 n 8 ty true num ty 0 ⟨#[]⟩ = some (oneT (
      if (vRead (a0.extract n a0.size)).2.2 ≠ 0 then ((0, 0, 0, ⟨#[]⟩), 0, (vRead (a0.extract n a0.size)).2.2)
      else if ty = 0 then ((num, 0, (vRead (a0.extract n a0.size)).1, ⟨#[]⟩), n + (vRead (a0.extract n a0.size)).2.1, 0)
      else if a0.size - (n + (vRead (a0.extract n a0.size)).2.1) < (vRead (a0.extract n a0.size)).1 then ((0, 0, 0, ⟨#[]⟩), 0, 1)
      else ((num, 2, 0, a0.extract (n + (vRead (a0.extract n a0.size)).2.1) (n + (vRead (a0.extract n a0.size)).2.1 + (vRead (a0.extract n a0.size)).1)), n + (vRead (a0.extract n a0.size)).2.1 + (vRead (a0.extract n a0.size)).1, 0))) := by
  have hsz := extract_size' a0 n hn
  obtain ⟨⟨y, m, e⟩, hr⟩ : ∃ x, vRead (a0.extract n a0.size) = x := ⟨_, rfl⟩
  simp only [wire_one.j0, varint_Read.f, Option.bind_some, Int.toNat_natCast]
  rw [if_pos trivial, if_pos (by omega), if_pos (by omega)]
  simp only [hr]
  by_cases he : e = 0
  · subst he
    have g := vRead_pos (a0.extract n a0.size) (by rw [hr])
    rw [hr, hsz] at g
    simp only at g
    have ew : wrap64 ((n : Int) + m) = ((n + m : Nat) : Int) := by rw [wrap64_id (by omega) (by omega)]; omega
    rw [show ∀ x y : Fl × Nat × Nat, (if (0 : Nat) ≠ 0 then x else y) = y from fun _ _ => if_neg (by simp), if_pos (by rfl), ew]
    rcases hty with rfl | rfl
    · rw [if_pos (by rfl), if_pos (by rfl)]; rfl
    · rw [if_neg (by decide), wrap64_id (x := (a0.size : Int) - ((n + m : Nat) : Int)) (by omega) (by omega), u64_id (x := (a0.size : Int) - ((n + m : Nat) : Int)) (by omega) (by omega),
        show ∀ x y : Fl × Nat × Nat, (if (2 : Nat) = 0 then x else y) = y from fun _ _ => if_neg (by decide)]
      by_cases hy : a0.size - (n + m) < y
      · rw [if_pos (by omega), if_pos hy]; rfl
      · have ew2 : wrap64 (((n + m : Nat) : Int) + wrap64 (y : Int)) = ((n + m + y : Nat) : Int) := by
          rw [wrap64_id (x := (y : Int)) (by omega) (by omega), wrap64_id (by omega) (by omega)]; omega
        rw [if_neg (by omega), if_neg hy, if_pos (by omega), ew2, if_pos (by omega), if_pos (by omega)]; rfl
  · rw [if_neg (by omega), if_pos he]; rfl
theorem wire_one_fix (k : Nat) (a0 : ByteArray) (n num : Nat) (ty : Nat) (hs : a0.size ≤ 140737488351232) (hn : n ≤ a0.size) (hty : ty = 1 ∨ ty = 5) :
    wire_one.j0 (k + 1) a0 n 8 ty false num ty 0 ⟨#[]⟩ = some (oneT (
      if a0.size - n < (if ty = 5 then 4 else 8) then ((0, 0, 0, ⟨#[]⟩), 0, 1)
      else ((num, (ty : Nat), (lowS (ns (a0.extract n (n + (if ty = 5 then 4 else 8)))) : Nat), ⟨#[]⟩), n + (if ty = 5 then 4 else 8), 0))) := by
  have ew : wrap64 ((a0.size : Int) - n) = ((a0.size - n : Nat) : Int) := by rw [wrap64_id (by omega) (by omega)]; omega
  simp only [wire_one.j0]
  rw [if_neg (by decide), ew]
  rcases hty with rfl | rfl
  · have ew2 : wrap64 ((n : Int) + 8) = ((n + 8 : Nat) : Int) := by rw [wrap64_id (by omega) (by omega)]; omega
    rw [if_neg (by decide), if_neg (show ¬ (1 = 5) by decide), ew2]
    by_cases h : a0.size - n < 8
    · rw [if_pos (by omega), if_pos h]; rfl
    · have ef : wire_fixed_s.f (a0.extract n (n + 8)) = some ((lowS (ns (a0.extract n (n + 8))) : Nat) : Int) := if_pos (by rw [ByteArray.size_extract]; omega)
      rw [if_neg (by omega), if_neg h, if_pos (by omega), if_pos (by omega), if_pos (by omega), Int.toNat_natCast, Int.toNat_natCast, ef]; rfl
  · have ew2 : wrap64 ((n : Int) + 4) = ((n + 4 : Nat) : Int) := by rw [wrap64_id (by omega) (by omega)]; omega
    rw [if_pos (by decide), if_pos (show (5 = 5) by decide), ew2]
    by_cases h : a0.size - n < 4
    · rw [if_pos (by omega), if_pos h]; rfl
    · have ef : wire_fixed_s.f (a0.extract n (n + 4)) = some ((lowS (ns (a0.extract n (n + 4))) : Nat) : Int) := if_pos (by rw [ByteArray.size_extract]; omega)
      rw [if_neg (by omega), if_neg h, if_pos (by omega), if_pos (by omega), if_pos (by omega), Int.toNat_natCast, Int.toNat_natCast, ef]; rfl
theorem wire_one_s.ev (a0 : ByteArray) (r) (h : wire_one_s.f a0 = some r) : ∃ k, wire_one.f k a0 = some r := by
  unfold wire_one_s.f at h
  split at h
  · rename_i hs
    rw [← h]
    refine ⟨1, ?_⟩
    unfold wire_one.f oneS
    obtain ⟨⟨t, n, e⟩, hr⟩ : ∃ x, vRead a0 = x := ⟨_, rfl⟩
    simp only [varint_Read.f, Option.bind_some, hr]
    by_cases he : e = 0
    · subst he
      have g := vRead_pos a0 (by rw [hr])
      rw [hr] at g
      simp only at g
      rw [if_pos (by rfl), and_seven t g.2.2.2, show ((t : Int) / 8) = ((t / 8 : Nat) : Int) by omega, wire_may_eval _ _ (by omega) (by omega), Option.bind_some, if_neg (show ¬ ((0 : Nat) ≠ 0) by simp),
        wrap64_id (x := ((t % 8 : Nat) : Int)) (by omega) (by omega), wrap64_id (x := ((t / 8 : Nat) : Int)) (by omega) (by omega)]
      by_cases hm : 1 ≤ t / 8 ∧ t / 8 ≤ 536870911 ∧ (t % 8 = 0 ∨ t % 8 = 1 ∨ t % 8 = 2 ∨ t % 8 = 5)
      · rw [if_pos (decide_eq_true (by omega))]
        have hnn : ¬ ¬ (1 ≤ t / 8 ∧ t / 8 ≤ 536870911 ∧ (t % 8 = 0 ∨ t % 8 = 1 ∨ t % 8 = 2 ∨ t % 8 = 5)) := fun h => h hm
        rw [show ∀ x y : Fl × Nat × Nat, (if ¬ (1 ≤ t / 8 ∧ t / 8 ≤ 536870911 ∧ (t % 8 = 0 ∨ t % 8 = 1 ∨ t % 8 = 2 ∨ t % 8 = 5)) then x else y) = y from fun _ _ => if_neg hnn]
        by_cases h2 : t % 8 = 0 ∨ t % 8 = 2
        · have key := wire_one_text 0 a0 n (t / 8) (t % 8) hs (by omega) (by omega) h2
          rw [show ∀ x y : Fl × Nat × Nat, (if t % 8 = 0 ∨ t % 8 = 2 then x else y) = x from fun _ _ => if_pos h2]
          rcases h2 with h2 | h2
          · rw [if_pos (by omega), show (((t % 8 : Nat) : Int) == 0) = true from beq_iff_eq.2 (by omega)]
            exact key
          · rw [if_neg (by omega), show (((t % 8 : Nat) : Int) == 2) = true from beq_iff_eq.2 (by omega)]
            exact key
        · have key := wire_one_fix 0 a0 n (t / 8) (t % 8) hs (by omega) (by omega)
          rw [show ∀ x y : Fl × Nat × Nat, (if t % 8 = 0 ∨ t % 8 = 2 then x else y) = y from fun _ _ => if_neg h2]
          rw [if_neg (by omega), show (((t % 8 : Nat) : Int) == 2) = false from beq_eq_false_iff_ne.2 (by omega)]
          exact key
      · rw [if_neg (by rw [decide_eq_true_iff]; omega), if_pos hm]; rfl
    · rw [if_neg (by omega), if_pos he]; rfl
  · cases h

set_option maxHeartbeats 1000000 in
theorem wire_one_s.calls (a0 : ByteArray) (r1 : Int) (r2 : Int) (r3 : Int) (r4 : ByteArray) (r5 : Int) (r6 : Int) (w : World) (h : wire_one_s.f a0 = some (r1, r2, r3, r4, r5, r6)) :
    Calls Try.prog 42 #[.string a0] w fun e w' => e = .returned (.tuple #[.agg #[.int .i64 r1, .int .i64 r2, .int .u64 r3, .string r4], .int .i64 r5, .int .i64 r6]) ∧ Below w.heap.size w w' := by
  obtain ⟨k, hk⟩ := wire_one_s.ev a0 _ h
  exact wire_one.calls k a0 r1 r2 r3 r4 r5 r6 w hk

end Go.Proofs.Ytohddbiedabmhaa.X
-- by xprint.py, a program of this session, over the kit's print.py
namespace Go.Proofs.Ytohddbiedabmhaa.X
open Go.RowKit Go.Proofs.YtohddbiedabmhaaW.PrintWords Go.Proofs.YtohddbiedabmhaaW.PrintLast Go.Proofs.YtohddbiedabmhaaW.PrintMore
attribute [local go_sem] max2_int min2_int max_two min_two max_three min_three max_four min_four   -- for this text's walks alone
set_option linter.unusedVariables false
set_option linter.unusedSimpArgs false

/-! ### wire_Fields: function 21 -/
def wire_Fields.l0 : Nat → ByteArray → List (S47) → Option ((List (S47)) × Int)
  | 0, _, _ => none
  | k + 1, x0, x4 => if x0.toList = ([] : List UInt8) then (some (x4, 0)) else ((wire_one_s.f x0).bind fun bt101 => (if bt101.2.2.2.2.2 = 0 then (if x4.length < 3518437208883 then (if 0 ≤ bt101.2.2.2.2.1 then (if bt101.2.2.2.2.1 ≤ (x0.size : Int) then (wire_Fields.l0 k (x0.extract (bt101.2.2.2.2.1 : Int).toNat x0.size) (x4 ++ [(⟨bt101.1, bt101.2.1, bt101.2.2.1, bt101.2.2.2.1⟩ : S47)])) else (none)) else (none)) else (none)) else (some (([] : List (S47)), bt101.2.2.2.2.2))))
def wire_Fields.f (k : Nat) (a0 : ByteArray) : Option ((List (S47)) × Int) := if (a0.size : Int) > 1048576 then (some (([] : List (S47)), 2)) else (wire_Fields.l0 k a0 ([] : List (S47)))
theorem wire_Fields.mono_l : ∀ k, (∀ y0 y1, LeO (wire_Fields.l0 k y0 y1) (wire_Fields.l0 (k + 1) y0 y1))
  | 0 => fun _ _ r h => by simp [wire_Fields.l0] at h
  | k + 1 => by
    have ih0 := wire_Fields.mono_l k
    · intro y0 y1
      unfold wire_Fields.l0
      repeat' first
      | (with_reducible exact ih0 _ _)
      | (with_reducible exact LeO.refl _)
      | (with_reducible exact LeO.none _)
      | (with_reducible refine LeO.ite ?_ ?_)
      | (with_reducible refine LeO.bind ?_ (fun _ => ?_))
      | exact ih0 _ _
      | exact LeO.none _
      | refine LeO.ite ?_ ?_
      | refine LeO.bind ?_ (fun _ => ?_)
theorem wire_Fields.mono : ∀ a0 k, LeO (wire_Fields.f k a0) (wire_Fields.f (k + 1) a0) := by
  intro a0 k
  have ih0 := wire_Fields.mono_l k
  unfold wire_Fields.f
  repeat' first
      | (with_reducible exact ih0 _ _)
      | (with_reducible exact LeO.refl _)
      | (with_reducible exact LeO.none _)
      | (with_reducible refine LeO.ite ?_ ?_)
      | (with_reducible refine LeO.bind ?_ (fun _ => ?_))
      | exact ih0 _ _
      | exact LeO.none _
      | refine LeO.ite ?_ ?_
      | refine LeO.bind ?_ (fun _ => ?_)
set_option maxHeartbeats 8000000 in
set_option maxRecDepth 100000 in
theorem wire_Fields.calls (k : Nat) (a0 : ByteArray) (r1 : List (S47)) (r2 : Int) (w : World) (h : wire_Fields.f k a0 = some (r1, r2)) :
    Calls Try.prog 21 #[.string a0] w fun e w' => ∃ v0_ : Value, e = .returned (.tuple #[v0_, .int .i64 r2]) ∧ Kd.R k47 47 w' w.heap.size (fun _ => True) v0_ r1 ∧ Below w.heap.size w w' := by
  have hu47 := Try.underlying47
  have HB := Aside0.mk (Below.refl w.heap.size w)
  have H : (if (a0.size : Int) > 1048576 then (some (([] : List (S47)), 2)) else (wire_Fields.l0 k a0 ([] : List (S47)))) = some (r1, r2) := h
  clear h
  by_cases c2 : (a0.size : Int) > 1048576
  · rw [if_pos c2] at H
    have c2b0 : decide (1048576 < (a0.size : Int)) = true := decide_eq_true c2
    have c2b1 : decide (1048576 < a0.size) = true := decide_eq_true (by omega)
    clear c2
    simp only [Option.some.injEq, Prod.mk.injEq] at H
    obtain ⟨rfl, rfl⟩ := H
    go_enter Try.func21, Try.ntmps21
    go_wp2
    go_ret2
    exact ⟨_, by first | rfl | (simp [errW_none, errW_some] <;> rfl) | (simp [*, errW_none, errW_some] <;> rfl), by first | exact Kd.R_nil _ _ _ _ _ | exact Kd.N_nil _ _ _ _ _ | exact Kd.V_nil _ _ _ _ _ | exact Kd.Q_nil _ _ _ _ _ | exact Kd.S_nil _ _ _ _ _, by repeat (first | (with_reducible first | exact HB.out | apply below_alloc | apply pw_below_drewN | apply below_drew1) | exact HB.out)⟩
  · rw [if_neg c2] at H
    have c2b0 : decide (1048576 < (a0.size : Int)) = false := decide_eq_false c2
    have c2b1 : decide (1048576 < a0.size) = false := decide_eq_false (by omega)
    clear c2
    have H' := Aside0.mk H
    clear H
    go_enter Try.func21, Try.ntmps21
    go_wp2
    go_loopg [0, 4] k (fun kq v0 v4 w' => ∃ (x0_1 : ByteArray) (x4_1 : List (S47)), v0 = .string x0_1 ∧ Aside0 (wire_Fields.l0 kq x0_1 x4_1 = some (r1, r2)) ∧ Aside0 (kq ≤ k) ∧ Aside0 (Kd.R k47 47 w' w.heap.size (fun _ => True) v4 x4_1) ∧ Aside0 (Below w.heap.size w w'))
    case atStart => exact ⟨(a0), (([] : List (S47))), (by first | rfl | (simp; done) | (simp [*]; done)), H', ⟨Nat.le_refl _⟩, ⟨by first | exact Kd.R_nil _ _ _ _ _ | exact Kd.N_nil _ _ _ _ _ | exact Kd.V_nil _ _ _ _ _ | exact Kd.Q_nil _ _ _ _ _ | exact Kd.S_nil _ _ _ _ _⟩, ⟨by repeat (first | (with_reducible first | exact HB.out | apply below_alloc | apply pw_below_drewN | apply below_drew1) | exact HB.out)⟩⟩
    case round =>
      clear H'
      try clear c2
      try clear c2b0
      try clear c2b1
      try clear p2
      obtain ⟨x0_1, x4_1, rfl, HA, HK1, HO_4, HB⟩ := hrel
      cases gk with
      | zero => exact absurd HA.out (by simp [wire_Fields.l0])
      | succ k1 =>
        have H := HA.out
        clear HA
        simp only [wire_Fields.l0] at H
        by_cases c3 : x0_1.toList = ([] : List UInt8)
        · rw [if_pos c3] at H
          have c3b0 : (x0_1.toList == ([] : List UInt8)) = true := beq_iff_eq.mpr c3
          have c3b1 : (x0_1.toList != ([] : List UInt8)) = false := bne_eq_false_iff_eq.mpr c3
          clear c3
          simp only [Option.some.injEq, Prod.mk.injEq] at H
          obtain ⟨rfl, rfl⟩ := H
          go_wp2
          go_ret2
          exact ⟨_, by first | rfl | (simp [errW_none, errW_some] <;> rfl) | (simp [*, errW_none, errW_some] <;> rfl), by (with_reducible repeat (first | apply Kd.R_alloc | apply Kd.R_drewN | apply Kd.R_drew)); exact HO_4.out, by repeat (first | (with_reducible first | exact HB.out | apply below_alloc | apply pw_below_drewN | apply below_drew1) | exact HB.out)⟩
        · rw [if_neg c3] at H
          have c3b0 : (x0_1.toList == ([] : List UInt8)) = false := beq_eq_false_iff_ne.mpr c3
          have c3b1 : (x0_1.toList != ([] : List UInt8)) = true := bne_iff_ne.mpr c3
          replace H := Option.bind_eq_some_iff.mp H
          obtain ⟨⟨t101, t102, t103, t104, t105, t106⟩, A40, H⟩ := H
          replace H : (if t106 = 0 then (if x4_1.length < 3518437208883 then (if 0 ≤ t105 then (if t105 ≤ (x0_1.size : Int) then (wire_Fields.l0 k1 (x0_1.extract (t105 : Int).toNat x0_1.size) (x4_1 ++ [(⟨t101, t102, t103, t104⟩ : S47)])) else (none)) else (none)) else (none)) else (some (([] : List (S47)), t106))) = some (r1, r2) := H
          have A4 := Aside0.mk A40
          clear A40
          by_cases c5 : t106 = 0
          · rw [if_pos c5] at H
            have c5b0 : (t106 == 0) = true := beq_iff_eq.mpr c5
            have c5b1 : (t106 != 0) = false := bne_eq_false_iff_eq.mpr c5
            clear c5
            by_cases c6 : x4_1.length < 3518437208883
            · rw [if_pos c6] at H
              have LMc6 := Aside0.mk c6
              clear c6
              obtain ⟨y108, hy108⟩ : ∃ y_ : List (S47), y_ = (x4_1 ++ [(⟨t101, t102, t103, t104⟩ : S47)]) := ⟨_, rfl⟩
              replace H : (if 0 ≤ t105 then (if t105 ≤ (x0_1.size : Int) then (wire_Fields.l0 k1 (x0_1.extract (t105 : Int).toNat x0_1.size) y108) else (none)) else (none)) = some (r1, r2) := by first | (rw [hy108]; with_reducible exact H) | (have H2_ := (Option.bind_some _ _).symm.trans H; rw [hy108]; with_reducible exact H2_) | (have H2_ := (Option.bind_some _ _).symm.trans H; with_reducible exact H2_) | with_reducible exact H | (rw [hy108]; exact H) | exact H
              have Ny108 := Aside0.mk hy108
              clear hy108
              by_cases c7 : 0 ≤ t105
              · rw [if_pos c7] at H
                have c7b0 := eq_true c7
                have c7b1 : decide (0 ≤ t105) = true := decide_eq_true c7
                clear c7
                by_cases c8 : t105 ≤ (x0_1.size : Int)
                · rw [if_pos c8] at H
                  have c8b0 := eq_true c8
                  have c8b1 : decide (t105 ≤ (x0_1.size : Int)) = true := decide_eq_true c8
                  clear c8
                  have H' := Aside0.mk H
                  clear H
                  go_wp2_with (first | ((with_reducible refine gate_callee (f := 42) rfl ?_); refine goesL_ (some 15) rfl rfl Try.func42 (by kernel_rfl) rfl #[.string x0_1] rfl (by (try simp only [List.map_toArray, List.map_cons, List.map_nil]); first | done | rfl | (simp only [List.length_drop, List.length_take]; rfl)) ?_; (with_reducible refine (wire_one_s.calls x0_1 t101 t102 t103 t104 t105 t106 _ A4.out).mono ?_); rintro e w9 ⟨rfl, hb⟩; refine ⟨_, rfl, ?_⟩; have n0_ := Aside0.mk (Kd.R_below (by (with_reducible repeat (first | apply Kd.R_alloc | apply Kd.R_drewN | apply Kd.R_drew)); exact HO_4.out) hb); have n1_ := Aside0.mk (below_step (by repeat (first | (with_reducible first | exact HB.out | apply below_alloc | apply pw_below_drewN | apply below_drew1) | exact HB.out)) hb); clear HO_4; clear HB; have HO_4 := n0_; have HB := n1_; clear n0_ n1_; (try clear hb); (try clear hb2); (try clear hk); (try clear hi)) | ((with_reducible refine gate_dst (N := 5) rfl ?_); refine box_event ?hg (N := 5) ?hd (cs := #[.int .i64 0, .int .i64 0, .int .u64 0, .string (⟨#[]⟩ : ByteArray)]) (t := 47) ?hr ?_; (case hd => rfl); (case hg => rfl); (case hr => first | (go_simp; done) | (go_simp; rfl)); intro gb107 hg w10 hbox hb; have n0_ := Aside0.mk (Kd.R_below (Kd.R_elderB (by (with_reducible repeat (first | apply Kd.R_alloc | apply Kd.R_drewN | apply Kd.R_drew)); exact HO_4.out) gb107 (Nat.le_of_eq hg.symm)) hb); have n1_ := Aside0.mk (below_step (by repeat (first | (with_reducible first | exact HB.out | apply below_alloc | apply pw_below_drewN | apply below_drew1) | exact HB.out)) hb); have n2_ := Aside0.mk (hbox); have n3_ := Aside0.mk ((by rw [hg]; exact (below_size (by repeat (first | (with_reducible first | exact HB.out | apply below_alloc | apply pw_below_drewN | apply below_drew1) | exact HB.out))) : w.heap.size ≤ gb107)); have n4_ := Aside0.mk ((by rw [hg]; exact (below_size (by repeat (first | (with_reducible first | exact HB.out | apply below_alloc | apply pw_below_drewN | apply below_drew1) | exact HB.out))) : w.heap.size ≤ gb107)); clear HO_4; clear HB; have HO_4 := n0_; have HB := n1_; have BK107 := n2_; have GW107 := n3_; have GE107 := n4_; clear n0_ n1_ n2_ n3_ n4_; clear hb hbox hg; have hcz11_0 : w10.cell? ⟨gb107, 0, none⟩ = some (.int .i64 0) := (blk_cell BK107.out 0).trans rfl; have hcz11_1 : w10.cell? ⟨gb107, 1, none⟩ = some (.int .i64 0) := (blk_cell BK107.out 1).trans rfl; have hcz11_2 : w10.cell? ⟨gb107, 2, none⟩ = some (.int .u64 0) := (blk_cell BK107.out 2).trans rfl; have hcz11_3 : w10.cell? ⟨gb107, 3, none⟩ = some (.string (⟨#[]⟩ : ByteArray)) := (blk_cell BK107.out 3).trans rfl; have hfz11_0 := blk_frozen BK107.out 0; have hfz11_1 := blk_frozen BK107.out 1; have hfz11_2 := blk_frozen BK107.out 2; have hfz11_3 := blk_frozen BK107.out 3) | ((with_reducible refine gate_builtin (b := .append) (xs := #[.tmp 22, .tmp 24]) rfl ?_); at_builtin; refine Kd.R_append k47 (w0 := w) w.heap.size rfl (.tmp 22) (.tmp 24) 37 47 (.agg #[(.int .i64 0), (.int .i64 0), (.int .u64 0), (.string ⟨#[]⟩)]) 40 rfl Try.underlying37 info47 rfl (by decide) (by omega) u4 x4_1 (⟨t101, t102, t103, t104⟩ : S47) [.int .i64 t101, .int .i64 t102, .int .u64 t103, .string t104] (fun k_ => k_ ≠ gb107) (fun _ => False) rfl (by first | (go_simp; done) | (go_simp; rfl)) ?aP (fun _ hk => hk.elim) ?aF ?aO ?aB ?aS ?aL ?_; (case aP => exact k47_mkM _ _ _ (⟨t101, t102, t103, t104⟩ : S47)); (case aB => exact (by repeat (first | (with_reducible first | exact HB.out | apply below_alloc | apply pw_below_drewN | apply below_drew1 | refine below_set ?_ GE107.out) | exact HB.out))); (case aF => exact (fun k_ hk => Kd.freshB (g := gb107) (o := .cells #[.int .i64 t101, .int .i64 t102, .int .u64 t103, .string t104] 47 (0, 0)) (by (with_reducible repeat (first | refine blk_drewN ?_ _ | refine blk_drew ?_ | refine blk_alloc ?_ _)); refine blk_put (cs := #[.int .i64 t101, .int .i64 t102, .int .u64 t103, .string (⟨#[]⟩ : ByteArray)]) ?_ 3 _ rfl; (with_reducible repeat (first | refine blk_drewN ?_ _ | refine blk_drew ?_ | refine blk_alloc ?_ _)); refine blk_put (cs := #[.int .i64 t101, .int .i64 t102, .int .u64 0, .string (⟨#[]⟩ : ByteArray)]) ?_ 2 _ rfl; (with_reducible repeat (first | refine blk_drewN ?_ _ | refine blk_drew ?_ | refine blk_alloc ?_ _)); refine blk_put (cs := #[.int .i64 t101, .int .i64 0, .int .u64 0, .string (⟨#[]⟩ : ByteArray)]) ?_ 1 _ rfl; (with_reducible repeat (first | refine blk_drewN ?_ _ | refine blk_drew ?_ | refine blk_alloc ?_ _)); refine blk_put (cs := #[.int .i64 0, .int .i64 0, .int .u64 0, .string (⟨#[]⟩ : ByteArray)]) ?_ 0 _ rfl; (with_reducible repeat (first | refine blk_drewN ?_ _ | refine blk_drew ?_ | refine blk_alloc ?_ _)); exact BK107.out) k_ hk)); (case aO => exact (by (with_reducible repeat (first | apply Kd.R_alloc | apply Kd.R_drewN | apply Kd.R_drew)); exact Kd.R_mono (Kd.R_far (p := ⟨gb107, 3, none⟩) (Kd.R_far (p := ⟨gb107, 2, none⟩) (Kd.R_far (p := ⟨gb107, 1, none⟩) (Kd.R_far (p := ⟨gb107, 0, none⟩) (Kd.R_mono HO_4.out (fun k_ hk => (⟨hk, hk.2⟩ : _ ∧ k_ ≠ gb107))) (fun _ hk => hk.2) (.int .i64 t101)) (fun _ hk => hk.2) (.int .i64 t102)) (fun _ hk => hk.2) (.int .u64 t103)) (fun _ hk => hk.2) (.string t104)) (fun _ hk => hk.1.2))); (case aS => exact (below_size (by repeat (first | (with_reducible first | exact HB.out | apply below_alloc | apply pw_below_drewN | apply below_drew1 | refine below_set ?_ GE107.out) | exact HB.out)))); (case aL => have := LMc6.out; omega); intro v109 w12 ho hb hg hat; rw [← Ny108.out] at ho; have n0_ := Aside0.mk (blk_grown (g := gb107) (o := .cells #[.int .i64 t101, .int .i64 t102, .int .u64 t103, .string t104] 47 (0, 0)) (by (with_reducible repeat (first | refine blk_drewN ?_ _ | refine blk_drew ?_ | refine blk_alloc ?_ _)); refine blk_put (cs := #[.int .i64 t101, .int .i64 t102, .int .u64 t103, .string (⟨#[]⟩ : ByteArray)]) ?_ 3 _ rfl; (with_reducible repeat (first | refine blk_drewN ?_ _ | refine blk_drew ?_ | refine blk_alloc ?_ _)); refine blk_put (cs := #[.int .i64 t101, .int .i64 t102, .int .u64 0, .string (⟨#[]⟩ : ByteArray)]) ?_ 2 _ rfl; (with_reducible repeat (first | refine blk_drewN ?_ _ | refine blk_drew ?_ | refine blk_alloc ?_ _)); refine blk_put (cs := #[.int .i64 t101, .int .i64 0, .int .u64 0, .string (⟨#[]⟩ : ByteArray)]) ?_ 1 _ rfl; (with_reducible repeat (first | refine blk_drewN ?_ _ | refine blk_drew ?_ | refine blk_alloc ?_ _)); refine blk_put (cs := #[.int .i64 0, .int .i64 0, .int .u64 0, .string (⟨#[]⟩ : ByteArray)]) ?_ 0 _ rfl; (with_reducible repeat (first | refine blk_drewN ?_ _ | refine blk_drew ?_ | refine blk_alloc ?_ _)); exact BK107.out) hg (Kd.R_away HO_4.out (fun _ hk => hk.2))); have n1_ := Aside0.mk (hb); have n2_ := Aside0.mk (ho); clear BK107; clear HB; clear HO_4; have BK107 := n0_; have HB := n1_; have HO110 := n2_; clear n0_ n1_ n2_; clear ho hb hg hat))
                  go_roundg k1
                  case measure => have := HK1.out; omega
                  case rel => exact ⟨(x0_1.extract (t105 : Int).toNat x0_1.size), (y108), (by first | rfl | (simp; done) | (simp [*]; done)), H', ⟨by have := HK1.out; omega⟩, ⟨by (with_reducible repeat (first | apply Kd.R_alloc | apply Kd.R_drewN | apply Kd.R_drew)); exact Kd.R_mono HO110.out (fun _ hk => trivial)⟩, ⟨by repeat (first | (with_reducible first | exact HB.out | apply below_alloc | apply pw_below_drewN | apply below_drew1 | refine below_set ?_ GE107.out) | exact HB.out)⟩⟩
                · rw [if_neg c8] at H
                  exact absurd H (by simp)
              · rw [if_neg c7] at H
                exact absurd H (by simp)
            · rw [if_neg c6] at H
              exact absurd H (by simp)
          · rw [if_neg c5] at H
            have c5b0 : (t106 == 0) = false := beq_eq_false_iff_ne.mpr c5
            have c5b1 : (t106 != 0) = true := bne_iff_ne.mpr c5
            simp only [Option.some.injEq, Prod.mk.injEq] at H
            obtain ⟨rfl, rfl⟩ := H
            go_wp2_with (first | ((with_reducible refine gate_callee (f := 42) rfl ?_); refine goesL_ (some 15) rfl rfl Try.func42 (by kernel_rfl) rfl #[.string x0_1] rfl (by (try simp only [List.map_toArray, List.map_cons, List.map_nil]); first | done | rfl | (simp only [List.length_drop, List.length_take]; rfl)) ?_; (with_reducible refine (wire_one_s.calls x0_1 t101 t102 t103 t104 t105 t106 _ A4.out).mono ?_); rintro e w13 ⟨rfl, hb⟩; refine ⟨_, rfl, ?_⟩; have n0_ := Aside0.mk (Kd.R_below (by (with_reducible repeat (first | apply Kd.R_alloc | apply Kd.R_drewN | apply Kd.R_drew)); exact HO_4.out) hb); have n1_ := Aside0.mk (below_step (by repeat (first | (with_reducible first | exact HB.out | apply below_alloc | apply pw_below_drewN | apply below_drew1) | exact HB.out)) hb); clear HO_4; clear HB; have HO_4 := n0_; have HB := n1_; clear n0_ n1_; (try clear hb); (try clear hb2); (try clear hk); (try clear hi)) | ((with_reducible refine gate_dst (N := 5) rfl ?_); refine box_event ?hg (N := 5) ?hd (cs := #[.int .i64 0, .int .i64 0, .int .u64 0, .string (⟨#[]⟩ : ByteArray)]) (t := 47) ?hr ?_; (case hd => rfl); (case hg => rfl); (case hr => first | (go_simp; done) | (go_simp; rfl)); intro gb107 hg w14 hbox hb; have n0_ := Aside0.mk (Kd.R_below (Kd.R_elderB (by (with_reducible repeat (first | apply Kd.R_alloc | apply Kd.R_drewN | apply Kd.R_drew)); exact HO_4.out) gb107 (Nat.le_of_eq hg.symm)) hb); have n1_ := Aside0.mk (below_step (by repeat (first | (with_reducible first | exact HB.out | apply below_alloc | apply pw_below_drewN | apply below_drew1) | exact HB.out)) hb); have n2_ := Aside0.mk (hbox); have n3_ := Aside0.mk ((by rw [hg]; exact (below_size (by repeat (first | (with_reducible first | exact HB.out | apply below_alloc | apply pw_below_drewN | apply below_drew1) | exact HB.out))) : w.heap.size ≤ gb107)); have n4_ := Aside0.mk ((by rw [hg]; exact (below_size (by repeat (first | (with_reducible first | exact HB.out | apply below_alloc | apply pw_below_drewN | apply below_drew1) | exact HB.out))) : w.heap.size ≤ gb107)); clear HO_4; clear HB; have HO_4 := n0_; have HB := n1_; have BK107 := n2_; have GW107 := n3_; have GE107 := n4_; clear n0_ n1_ n2_ n3_ n4_; clear hb hbox hg; have hcz15_0 : w14.cell? ⟨gb107, 0, none⟩ = some (.int .i64 0) := (blk_cell BK107.out 0).trans rfl; have hcz15_1 : w14.cell? ⟨gb107, 1, none⟩ = some (.int .i64 0) := (blk_cell BK107.out 1).trans rfl; have hcz15_2 : w14.cell? ⟨gb107, 2, none⟩ = some (.int .u64 0) := (blk_cell BK107.out 2).trans rfl; have hcz15_3 : w14.cell? ⟨gb107, 3, none⟩ = some (.string (⟨#[]⟩ : ByteArray)) := (blk_cell BK107.out 3).trans rfl; have hfz15_0 := blk_frozen BK107.out 0; have hfz15_1 := blk_frozen BK107.out 1; have hfz15_2 := blk_frozen BK107.out 2; have hfz15_3 := blk_frozen BK107.out 3))
            go_ret2
            exact ⟨_, by first | rfl | (simp [errW_none, errW_some] <;> rfl) | (simp [*, errW_none, errW_some] <;> rfl), by first | exact Kd.R_nil _ _ _ _ _ | exact Kd.N_nil _ _ _ _ _ | exact Kd.V_nil _ _ _ _ _ | exact Kd.Q_nil _ _ _ _ _ | exact Kd.S_nil _ _ _ _ _, by repeat (first | (with_reducible first | exact HB.out | apply below_alloc | apply pw_below_drewN | apply below_drew1 | refine below_set ?_ GE107.out) | exact HB.out)⟩

end Go.Proofs.Ytohddbiedabmhaa.X
