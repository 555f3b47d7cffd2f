import Derived.Test.YtgmggompdidcoaaGreatDoorMPbtensorWrites2
import Derived.Test.YtgmggompdidcoaaGreatDoorMPbtensorWrites11
import Derived.Test.YtgmggompdidcoaaGreatDoorMPbtensorWrites13
import Derived.Test.YtgmggompdidcoaaGreatDoorMPbtensorWrites5
import Derived.Test.YtgmggompdidcoaaGreatDoorMPbtensorWrites3
import Derived.Test.YtgmggompdidcoaaGreatDoorMPbtensorWrites4
import Derived.Test.YtgmggompdidcoaaGreatDoorMPbtensorWrites6
import Derived.Test.YtgmggompdidcoaaGreatDoorMPbtensorWrites8
namespace Go.Proofs.YtgmggompdidcoaaGreatDoor.X
open Go.RowKit Go.Proofs.YtgmggompdidcoaaGreatDoorW.PrintWords Go.Proofs.YtgmggompdidcoaaGreatDoorW.PrintLast Go.Proofs.YtgmggompdidcoaaGreatDoorW.PrintMore
attribute [local go_sem] max2_int min2_int max_two min_two max_three min_three max_four min_four
set_option linter.unusedVariables false
set_option linter.unusedSimpArgs false
def oneT (r : Fl × Nat × Nat) : Int × Int × Int × ByteArray × Int × Int := (r.1.1, r.1.2.1, r.1.2.2.1, r.1.2.2.2, r.2.1, r.2.2)
def wire_one_s.f (a0 : ByteArray) : Option (Int × Int × Int × ByteArray × Int × Int) := if a0.size ≤ 140737488351232 then some (oneT (oneS a0)) else none
theorem and_seven (t : Nat) (h : t < 18446744073709551616) : Go.bits .and .u64 (t : Int) 7 = ((t % 8 : Nat) : Int) := by
  have := u64_and_nat t 7 h (by decide)
  rw [show ((7 : Nat) : Int) = 7 from rfl] at this
  rw [this, show (7 : Nat) = 2 ^ 3 - 1 from rfl, Nat.and_two_pow_sub_one_eq_mod]
theorem wire_one_text (k : Nat) (a0 : ByteArray) (n num : Nat) (ty : Nat) (hs : a0.size ≤ 140737488351232) (hn : n ≤ a0.size) (hn10 : n ≤ 10) (hty : ty = 0 ∨ ty = 2) :
    wire_one.j0 (k + 1) a0 n 8 ty true num ty 0 ⟨#[]⟩ = some (oneT (
      if (vRead (a0.extract n a0.size)).2.2 ≠ 0 then ((0, 0, 0, ⟨#[]⟩), 0, (vRead (a0.extract n a0.size)).2.2)
      else if ty = 0 then ((num, 0, (vRead (a0.extract n a0.size)).1, ⟨#[]⟩), n + (vRead (a0.extract n a0.size)).2.1, 0)
      else if a0.size - (n + (vRead (a0.extract n a0.size)).2.1) < (vRead (a0.extract n a0.size)).1 then ((0, 0, 0, ⟨#[]⟩), 0, 1)
      else ((num, 2, 0, a0.extract (n + (vRead (a0.extract n a0.size)).2.1) (n + (vRead (a0.extract n a0.size)).2.1 + (vRead (a0.extract n a0.size)).1)), n + (vRead (a0.extract n a0.size)).2.1 + (vRead (a0.extract n a0.size)).1, 0))) := by
  have hsz := extract_size' a0 n hn
  obtain ⟨⟨y, m, e⟩, hr⟩ : ∃ x, vRead (a0.extract n a0.size) = x := ⟨_, rfl⟩
  simp only [wire_one.j0, varint_Read.f, Option.bind_some, Int.toNat_natCast]
  rw [if_pos trivial, if_pos (by omega), if_pos (by omega)]
  simp only [hr]
  by_cases he : e = 0
  · subst he
    have g := vRead_pos (a0.extract n a0.size) (by rw [hr])
    rw [hr, hsz] at g
    simp only at g
    have ew : wrap64 ((n : Int) + m) = ((n + m : Nat) : Int) := by rw [wrap64_id (by omega) (by omega)]; omega
    rw [show ∀ x y : Fl × Nat × Nat, (if (0 : Nat) ≠ 0 then x else y) = y from fun _ _ => if_neg (by simp), if_pos (by rfl), ew]
    rcases hty with rfl | rfl
    · rw [if_pos (by rfl), if_pos (by rfl)]; rfl
    · rw [if_neg (by decide), wrap64_id (x := (a0.size : Int) - ((n + m : Nat) : Int)) (by omega) (by omega), u64_id (x := (a0.size : Int) - ((n + m : Nat) : Int)) (by omega) (by omega),
        show ∀ x y : Fl × Nat × Nat, (if (2 : Nat) = 0 then x else y) = y from fun _ _ => if_neg (by decide)]
      by_cases hy : a0.size - (n + m) < y
      · rw [if_pos (by omega), if_pos hy]; rfl
      · have ew2 : wrap64 (((n + m : Nat) : Int) + wrap64 (y : Int)) = ((n + m + y : Nat) : Int) := by
          rw [wrap64_id (x := (y : Int)) (by omega) (by omega), wrap64_id (by omega) (by omega)]; omega
        rw [if_neg (by omega), if_neg hy, if_pos (by omega), ew2, if_pos (by omega), if_pos (by omega)]; rfl
  · rw [if_neg (by omega), if_pos he]; rfl
theorem wire_one_fix (k : Nat) (a0 : ByteArray) (n num : Nat) (ty : Nat) (hs : a0.size ≤ 140737488351232) (hn : n ≤ a0.size) (hty : ty = 1 ∨ ty = 5) :
    wire_one.j0 (k + 1) a0 n 8 ty false num ty 0 ⟨#[]⟩ = some (oneT (
      if a0.size - n < (if ty = 5 then 4 else 8) then ((0, 0, 0, ⟨#[]⟩), 0, 1)
      else ((num, (ty : Nat), (lowS (ns (a0.extract n (n + (if ty = 5 then 4 else 8)))) : Nat), ⟨#[]⟩), n + (if ty = 5 then 4 else 8), 0))) := by
  have ew : wrap64 ((a0.size : Int) - n) = ((a0.size - n : Nat) : Int) := by rw [wrap64_id (by omega) (by omega)]; omega
  simp only [wire_one.j0]
  rw [if_neg (by decide), ew]
  rcases hty with rfl | rfl
  · have ew2 : wrap64 ((n : Int) + 8) = ((n + 8 : Nat) : Int) := by rw [wrap64_id (by omega) (by omega)]; omega
    rw [if_neg (by decide), if_neg (show ¬ (1 = 5) by decide), ew2]
    by_cases h : a0.size - n < 8
    · rw [if_pos (by omega), if_pos h]; rfl
    · have ef : wire_fixed_s.f (a0.extract n (n + 8)) = some ((lowS (ns (a0.extract n (n + 8))) : Nat) : Int) := if_pos (by rw [ByteArray.size_extract]; omega)
      rw [if_neg (by omega), if_neg h, if_pos (by omega), if_pos (by omega), if_pos (by omega), Int.toNat_natCast, Int.toNat_natCast, ef]; rfl
  · have ew2 : wrap64 ((n : Int) + 4) = ((n + 4 : Nat) : Int) := by rw [wrap64_id (by omega) (by omega)]; omega
    rw [if_pos (by decide), if_pos (show (5 = 5) by decide), ew2]
    by_cases h : a0.size - n < 4
    · rw [if_pos (by omega), if_pos h]; rfl
    · have ef : wire_fixed_s.f (a0.extract n (n + 4)) = some ((lowS (ns (a0.extract n (n + 4))) : Nat) : Int) := if_pos (by rw [ByteArray.size_extract]; omega)
      rw [if_neg (by omega), if_neg h, if_pos (by omega), if_pos (by omega), if_pos (by omega), Int.toNat_natCast, Int.toNat_natCast, ef]; rfl
theorem wire_one_s.ev (a0 : ByteArray) (r) (h : wire_one_s.f a0 = some r) : ∃ k, wire_one.f k a0 = some r := by
  unfold wire_one_s.f at h
  split at h
  · rename_i hs
    rw [← h]
    refine ⟨1, ?_⟩
    unfold wire_one.f oneS
    obtain ⟨⟨t, n, e⟩, hr⟩ : ∃ x, vRead a0 = x := ⟨_, rfl⟩
    simp only [varint_Read.f, Option.bind_some, hr]
    by_cases he : e = 0
    · subst he
      have g := vRead_pos a0 (by rw [hr])
      rw [hr] at g
      simp only at g
      rw [if_pos (by rfl), and_seven t g.2.2.2, show ((t : Int) / 8) = ((t / 8 : Nat) : Int) by omega, wire_may_eval _ _ (by omega) (by omega), Option.bind_some, if_neg (show ¬ ((0 : Nat) ≠ 0) by simp),
        wrap64_id (x := ((t % 8 : Nat) : Int)) (by omega) (by omega), wrap64_id (x := ((t / 8 : Nat) : Int)) (by omega) (by omega)]
      by_cases hm : 1 ≤ t / 8 ∧ t / 8 ≤ 536870911 ∧ (t % 8 = 0 ∨ t % 8 = 1 ∨ t % 8 = 2 ∨ t % 8 = 5)
      · rw [if_pos (decide_eq_true (by omega))]
        have hnn : ¬ ¬ (1 ≤ t / 8 ∧ t / 8 ≤ 536870911 ∧ (t % 8 = 0 ∨ t % 8 = 1 ∨ t % 8 = 2 ∨ t % 8 = 5)) := fun h => h hm
        rw [show ∀ x y : Fl × Nat × Nat, (if ¬ (1 ≤ t / 8 ∧ t / 8 ≤ 536870911 ∧ (t % 8 = 0 ∨ t % 8 = 1 ∨ t % 8 = 2 ∨ t % 8 = 5)) then x else y) = y from fun _ _ => if_neg hnn]
        by_cases h2 : t % 8 = 0 ∨ t % 8 = 2
        · have key := wire_one_text 0 a0 n (t / 8) (t % 8) hs (by omega) (by omega) h2
          rw [show ∀ x y : Fl × Nat × Nat, (if t % 8 = 0 ∨ t % 8 = 2 then x else y) = x from fun _ _ => if_pos h2]
          rcases h2 with h2 | h2
          · rw [if_pos (by omega), show (((t % 8 : Nat) : Int) == 0) = true from beq_iff_eq.2 (by omega)]
            exact key
          · rw [if_neg (by omega), show (((t % 8 : Nat) : Int) == 2) = true from beq_iff_eq.2 (by omega)]
            exact key
        · have key := wire_one_fix 0 a0 n (t / 8) (t % 8) hs (by omega) (by omega)
          rw [show ∀ x y : Fl × Nat × Nat, (if t % 8 = 0 ∨ t % 8 = 2 then x else y) = y from fun _ _ => if_neg h2]
          rw [if_neg (by omega), show (((t % 8 : Nat) : Int) == 2) = false from beq_eq_false_iff_ne.2 (by omega)]
          exact key
      · rw [if_neg (by rw [decide_eq_true_iff]; omega), if_pos hm]; rfl
    · rw [if_neg (by omega), if_pos he]; rfl
  · cases h
set_option maxHeartbeats 1000000 in
theorem wire_one_s.calls (a0 : ByteArray) (r1 : Int) (r2 : Int) (r3 : Int) (r4 : ByteArray) (r5 : Int) (r6 : Int) (w : World) (h : wire_one_s.f a0 = some (r1, r2, r3, r4, r5, r6)) :
    Calls Tryz.prog 88 #[.string a0] w fun e w' => e = .returned (.tuple #[.agg #[.int .i64 r1, .int .i64 r2, .int .u64 r3, .string r4], .int .i64 r5, .int .i64 r6]) ∧ Below w.heap.size w w' := by
  obtain ⟨k, hk⟩ := wire_one_s.ev a0 _ h
  exact wire_one.calls k a0 r1 r2 r3 r4 r5 r6 w hk
def wire_Fields.l0 : Nat → ByteArray → List (S95) → Option ((List (S95)) × Int)
 | 0, _, _ => none
 | k + 1, x0, x4 => if x0.toList = ([] : List UInt8) then (some (x4, 0)) else ((wire_one_s.f x0).bind fun bt101 => (if bt101.2.2.2.2.2 = 0 then (if x4.length < 3518437208883 then (if 0 ≤ bt101.2.2.2.2.1 then (if bt101.2.2.2.2.1 ≤ (x0.size : Int) then (wire_Fields.l0 k (x0.extract (bt101.2.2.2.2.1 : Int).toNat x0.size) (x4 ++ [(⟨bt101.1, bt101.2.1, bt101.2.2.1, bt101.2.2.2.1⟩ : S95)])) else (none)) else (none)) else (none)) else (some (([] : List (S95)), bt101.2.2.2.2.2))))
def wire_Fields.f (k : Nat) (a0 : ByteArray) : Option ((List (S95)) × Int) := if (a0.size : Int) > 1048576 then (some (([] : List (S95)), 2)) else (wire_Fields.l0 k a0 ([] : List (S95)))
set_option maxHeartbeats 8000000 in
set_option maxRecDepth 100000 in
theorem wire_Fields.calls (k : Nat) (a0 : ByteArray) (r1 : List (S95)) (r2 : Int) (w : World) (h : wire_Fields.f k a0 = some (r1, r2)) :
  Calls Tryz.prog 51 #[.string a0] w fun e w' => ∃ v0_ : Value, e = .returned (.tuple #[v0_, .int .i64 r2]) ∧ Kd.R k95 95 w' w.heap.size (fun _ => True) v0_ r1 ∧ Below w.heap.size w w' := by
 have hu95 := Tryz.underlying95; have HB := mk0 (Below.refl w.heap.size w); have H : (if (a0.size : Int) > 1048576 then (some (([] : List (S95)), 2)) else (wire_Fields.l0 k a0 ([] : List (S95)))) = some (r1, r2) := h; clear h
 by_cases c2 : (a0.size : Int) > 1048576
 ·
  rw [if_pos c2] at H; have c2b0 := decide_eq_true c2; have c2b1 : decide (1048576 < a0.size) = true := decide_eq_true (by omega); clear c2
  simp only [Option.some.injEq, Prod.mk.injEq] at H
  obtain ⟨rfl, rfl⟩ := H
  go_enter Tryz.func51, Tryz.ntmps51
  go_wp2
  go_ret2
  exact ⟨_, cl3, by first | exact Kd.R_nil _ _ _ _ _ | exact Kd.N_nil _ _ _ _ _ | exact Kd.V_nil _ _ _ _ _ | exact Kd.Q_nil _ _ _ _ _ | exact Kd.S_nil _ _ _ _ _, hbA HB⟩
 ·
  rw [if_neg c2] at H; have c2b0 := decide_eq_false c2; have c2b1 : decide (1048576 < a0.size) = false := decide_eq_false (by omega); clear c2; have H' := mk0 H; clear H
  go_enter Tryz.func51, Tryz.ntmps51
  go_wp2
  go_loopg [0, 4] k (fun kq v0 v4 w' => ∃ (x0_1 : ByteArray) (x4_1 : List (S95)), v0 = .string x0_1 ∧ Aside0 (wire_Fields.l0 kq x0_1 x4_1 = some (r1, r2)) ∧ Aside0 (kq ≤ k) ∧ Aside0 (Kd.R k95 95 w' w.heap.size (fun _ => True) v4 x4_1) ∧ Aside0 (Below w.heap.size w w'))
  case atStart => exact ⟨(a0), (([] : List (S95))), cl0, H', ⟨Nat.le_refl _⟩, ⟨by first | exact Kd.R_nil _ _ _ _ _ | exact Kd.N_nil _ _ _ _ _ | exact Kd.V_nil _ _ _ _ _ | exact Kd.Q_nil _ _ _ _ _ | exact Kd.S_nil _ _ _ _ _⟩, ⟨hbA HB⟩⟩
  case round =>
   clear H'; try clear c2; try clear c2b0; try clear c2b1
   obtain ⟨x0_1, x4_1, rfl, HA, HK1, HO_4, HB⟩ := hrel
   cases gk with
   | zero => exact absurd HA.out (by simp [wire_Fields.l0])
   | succ k1 =>
    have H := HA.out; clear HA
    simp only [wire_Fields.l0] at H
    by_cases c3 : x0_1.toList = ([] : List UInt8)
    ·
     rw [if_pos c3] at H; have c3b0 := beq_iff_eq.mpr c3; have c3b1 := bne_eq_false_iff_eq.mpr c3; clear c3
     simp only [Option.some.injEq, Prod.mk.injEq] at H
     obtain ⟨rfl, rfl⟩ := H
     go_wp2
     go_ret2
     exact ⟨_, cl3, krA HO_4, hbA HB⟩
    ·
     rw [if_neg c3] at H; have c3b0 := beq_eq_false_iff_ne.mpr c3; have c3b1 := bne_iff_ne.mpr c3; replace H := Option.bind_eq_some_iff.mp H; obtain ⟨⟨t101, t102, t103, t104, t105, t106⟩, A40, H⟩ := H; replace H : (if t106 = 0 then (if x4_1.length < 3518437208883 then (if 0 ≤ t105 then (if t105 ≤ (x0_1.size : Int) then (wire_Fields.l0 k1 (x0_1.extract (t105 : Int).toNat x0_1.size) (x4_1 ++ [(⟨t101, t102, t103, t104⟩ : S95)])) else (none)) else (none)) else (none)) else (some (([] : List (S95)), t106))) = some (r1, r2) := H; have A4 := mk0 A40; clear A40
     by_cases c5 : t106 = 0
     ·
      rw [if_pos c5] at H; have c5b0 := beq_iff_eq.mpr c5; have c5b1 := bne_eq_false_iff_eq.mpr c5; clear c5; replace H := ifS H; obtain ⟨c6, H⟩ := H; have LMc6 := mk0 c6; clear c6; obtain ⟨y108, hy108⟩ : ∃ y_ : List (S95), y_ = (x4_1 ++ [(⟨t101, t102, t103, t104⟩ : S95)]) := ⟨_, rfl⟩; replace H : (if 0 ≤ t105 then (if t105 ≤ (x0_1.size : Int) then (wire_Fields.l0 k1 (x0_1.extract (t105 : Int).toNat x0_1.size) y108) else (none)) else (none)) = some (r1, r2) := by first | (rw [hy108]; with_reducible exact H) | (have H2_ := (Option.bind_some _ _).symm.trans H; rw [hy108]; with_reducible exact H2_) | (have H2_ := (Option.bind_some _ _).symm.trans H; with_reducible exact H2_) | with_reducible exact H | (rw [hy108]; exact H) | exact H
      have Ny108 := mk0 hy108; clear hy108; replace H := ifS H; obtain ⟨c7, H⟩ := H; have c7b0 := eq_true c7; have c7b1 := decide_eq_true c7; clear c7; replace H := ifS H; obtain ⟨c8, H⟩ := H; have c8b0 := eq_true c8; have c8b1 := decide_eq_true c8; clear c8; have H' := mk0 H; clear H
      go_wp2_with (first | ((with_reducible refine gate_callee (f := 88) rfl ?_); refine glE (some 15) rfl rfl Tryz.func88 (by kernel_rfl) rfl #[.string x0_1] rfl ?_; (with_reducible refine (wire_one_s.calls x0_1 t101 t102 t103 t104 t105 t106 _ A4.out).mono ?_); rintro e w9 ⟨rfl, hb⟩; refine ⟨_, rfl, ?_⟩; replace HO_4 := mk0 (Kd.R_below (krA HO_4) hb); replace HB := hbS HB hb; (try clear hb); (try clear hk)) | ((with_reducible refine gate_dst (N := 5) rfl ?_); refine boxE (N := 5) (cs := #[.int .i64 0, .int .i64 0, .int .u64 0, .string (⟨#[]⟩ : ByteArray)]) (t := 95) ?_; intro gb107 hg w10 hbox hb; replace HO_4 := mk0 (Kd.R_below (Kd.R_elderB (krA HO_4) gb107 (Nat.le_of_eq hg.symm)) hb); have BK107 := mk0 hbox; have GW107 := gwS HB hg; have GE107 := gwS HB hg; replace HB := hbS HB hb; clear hb hbox hg; obtain ⟨hcz11_0, hcz11_1, hcz11_2, hcz11_3⟩ := cz4 BK107; have hfz11_0 := fz BK107 0; have hfz11_1 := fz BK107 1; have hfz11_2 := fz BK107 2; have hfz11_3 := fz BK107 3) | ((with_reducible refine gate_builtin (b := .append) (xs := #[.tmp 22, .tmp 24]) rfl ?_); at_builtin; refine Kd.R_append k95 (w0 := w) w.heap.size rfl (.tmp 22) (.tmp 24) 96 95 (.agg #[(.int .i64 0), (.int .i64 0), (.int .u64 0), (.string ⟨#[]⟩)]) 40 rfl Tryz.underlying96 info95 rfl (by decide) (by omega) u4 x4_1 (⟨t101, t102, t103, t104⟩ : S95) [.int .i64 t101, .int .i64 t102, .int .u64 t103, .string t104] (fun k_ => k_ ≠ gb107) (fun _ => False) rfl (by first | (go_simp; done) | (go_simp; rfl)) ?aP (fun _ hk => hk.elim) ?aF ?aO ?aB ?aS ?aL ?_; (case aP => exact k95_mkM _ _ _ (⟨t101, t102, t103, t104⟩ : S95)); (case aB => exact (hbA HB)); (case aF => exact (fun k_ hk => Kd.freshB (g := gb107) (o := .cells #[.int .i64 t101, .int .i64 t102, .int .u64 t103, .string t104] 95 (0, 0)) (bkW BK107) k_ hk)); (case aO => exact (by (with_reducible repeat (first | apply Kd.R_alloc | apply Kd.R_drewN | apply Kd.R_drew)); exact Kd.R_mono (Kd.R_far (p := ⟨gb107, 3, none⟩) (Kd.R_far (p := ⟨gb107, 2, none⟩) (Kd.R_far (p := ⟨gb107, 1, none⟩) (Kd.R_far (p := ⟨gb107, 0, none⟩) (Kd.R_mono HO_4.out (fun k_ hk => (⟨hk, hk.2⟩ : _ ∧ k_ ≠ gb107))) (fun _ hk => hk.2) (.int .i64 t101)) (fun _ hk => hk.2) (.int .i64 t102)) (fun _ hk => hk.2) (.int .u64 t103)) (fun _ hk => hk.2) (.string t104)) (fun _ hk => hk.1.2))); (case aS => exact (below_size (hbA HB))); (case aL => have := LMc6.out; omega); intro v109 w12 ho hb hg hat; rw [← Ny108.out] at ho; replace BK107 := mk0 (blk_grown (g := gb107) (o := .cells #[.int .i64 t101, .int .i64 t102, .int .u64 t103, .string t104] 95 (0, 0)) (bkW BK107) hg (Kd.R_away HO_4.out (fun _ hk => hk.2))); replace HB := mk0 hb; have HO110 := mk0 ho; clear HO_4; clear ho hb hg hat))
      go_roundg k1
      case measure => have := HK1.out; omega
      case rel => exact ⟨(x0_1.extract (t105 : Int).toNat x0_1.size), (y108), cl0, H', cl2 HK1, ⟨by (with_reducible repeat (first | apply Kd.R_alloc | apply Kd.R_drewN | apply Kd.R_drew)); exact Kd.R_mono HO110.out (fun _ hk => trivial)⟩, ⟨hbA HB⟩⟩
     ·
      rw [if_neg c5] at H; have c5b0 := beq_eq_false_iff_ne.mpr c5; have c5b1 := bne_iff_ne.mpr c5
      simp only [Option.some.injEq, Prod.mk.injEq] at H
      obtain ⟨rfl, rfl⟩ := H
      go_wp2_with (first | ((with_reducible refine gate_callee (f := 88) rfl ?_); refine glE (some 15) rfl rfl Tryz.func88 (by kernel_rfl) rfl #[.string x0_1] rfl ?_; (with_reducible refine (wire_one_s.calls x0_1 t101 t102 t103 t104 t105 t106 _ A4.out).mono ?_); rintro e w13 ⟨rfl, hb⟩; refine ⟨_, rfl, ?_⟩; replace HO_4 := mk0 (Kd.R_below (krA HO_4) hb); replace HB := hbS HB hb; (try clear hb)) | ((with_reducible refine gate_dst (N := 5) rfl ?_); refine boxE (N := 5) (cs := #[.int .i64 0, .int .i64 0, .int .u64 0, .string (⟨#[]⟩ : ByteArray)]) (t := 95) ?_; intro gb107 hg w14 hbox hb; replace HO_4 := mk0 (Kd.R_below (Kd.R_elderB (krA HO_4) gb107 (Nat.le_of_eq hg.symm)) hb); have BK107 := mk0 hbox; have GW107 := gwS HB hg; have GE107 := gwS HB hg; replace HB := hbS HB hb; clear hb hbox hg; obtain ⟨hcz15_0, hcz15_1, hcz15_2, hcz15_3⟩ := cz4 BK107; have hfz15_0 := fz BK107 0; have hfz15_1 := fz BK107 1; have hfz15_2 := fz BK107 2; have hfz15_3 := blk_frozen BK107.out 3))
      go_ret2
      exact ⟨_, cl3, by first | exact Kd.R_nil _ _ _ _ _ | exact Kd.N_nil _ _ _ _ _ | exact Kd.V_nil _ _ _ _ _ | exact Kd.Q_nil _ _ _ _ _ | exact Kd.S_nil _ _ _ _ _, hbA HB⟩
def wire_Fields_s.f (a0 : ByteArray) : Option (List (S95) × Int) := if a0.size ≤ 140737488351232 then some ((fieldsS a0).1.map toP, ((fieldsS a0).2 : Int)) else none
theorem wire_Fields_eval (d : Nat) : ∀ (k : Nat) (b : ByteArray) (acc : List (S95)), b.size ≤ d → d ≤ 1048576 → acc.length + d ≤ 1048576 → d < k →
    wire_Fields.l0 k b acc = some (if (fieldsF d b).2 ≠ 0 then ([], ((fieldsF d b).2 : Int)) else (acc ++ (fieldsF d b).1.map toP, 0)) := by
  induction d with
  | zero =>
    intro k b acc hb hd hl hk
    obtain ⟨k, rfl⟩ : ∃ m, k = m + 1 := ⟨k - 1, by omega⟩
    simp only [wire_Fields.l0]
    rw [if_pos (toList_nil.2 (by omega))]
    simp [fieldsF]
  | succ d ih =>
    intro k b acc hb hd hl hk
    obtain ⟨k, rfl⟩ : ∃ m, k = m + 1 := ⟨k - 1, by omega⟩
    simp only [wire_Fields.l0]
    by_cases h0 : b.size = 0
    · rw [if_pos (toList_nil.2 h0)]
      simp [fieldsF, h0]
    · rw [if_neg (fun h => h0 (toList_nil.1 h))]
      have e1 : wire_one_s.f b = some (oneT (oneS b)) := if_pos (by omega)
      simp only [e1, Option.bind_some, oneT]
      rw [fieldsF, if_neg h0]
      by_cases hc : (oneS b).2.2 = 0
      · have g := oneS_pos b hc
        rw [if_pos (by omega), if_pos (by omega), if_pos (by omega), if_pos (by omega), Int.toNat_natCast]
        rw [ih k _ _ (by rw [extract_size' _ _ g.2]; omega) (by omega) (by simp; omega) (by omega)]
        rw [if_neg (show ¬ ((oneS b).2.2 ≠ 0) by simp [hc])]
        by_cases hq : (fieldsF d (b.extract (oneS b).2.1 b.size)).2 = 0
        · simp [hq, toP]
        · simp [hq]
      · rw [if_neg (by omega), if_pos hc]
        simp [hc]
theorem wire_Fields_s.ev (a0 : ByteArray) (r) (h : wire_Fields_s.f a0 = some r) : ∃ k, wire_Fields.f k a0 = some r := by
  unfold wire_Fields_s.f at h
  split at h
  · rename_i hs
    rw [← h]
    unfold wire_Fields.f fieldsS
    by_cases hg : a0.size > 1048576
    · exact ⟨0, by rw [if_pos (by omega), if_pos hg]; rfl⟩
    · refine ⟨a0.size + 1, ?_⟩
      rw [if_neg (by omega), if_neg hg, wire_Fields_eval a0.size _ a0 [] (by omega) (by omega) (by simp; omega) (by omega)]
      have hnil : (fieldsF a0.size a0).2 ≠ 0 → (fieldsF a0.size a0).1 = [] := fieldsF_nil _ _
      by_cases hq : (fieldsF a0.size a0).2 = 0
      · simp [hq]
      · simp [hq, hnil hq]
  · cases h
set_option maxHeartbeats 1000000 in
theorem wire_Fields_s.calls (a0 : ByteArray) (r1 : List (S95)) (r2 : Int) (w : World) (h : wire_Fields_s.f a0 = some (r1, r2)) :
    Calls Tryz.prog 51 #[.string a0] w fun e w' => ∃ v0_ : Value, e = .returned (.tuple #[v0_, .int .i64 r2]) ∧ Kd.R k95 95 w' w.heap.size (fun _ => True) v0_ r1 ∧ Below w.heap.size w w' := by
  obtain ⟨k, hk⟩ := wire_Fields_s.ev a0 _ h
  exact wire_Fields.calls k a0 r1 r2 w hk
theorem fieldsS_few (b : ByteArray) : (fieldsS b).1.length ≤ 3518437208883 := by
  unfold fieldsS
  by_cases h : b.size > 1048576
  · rw [if_pos h]; exact Nat.zero_le _
  · rw [if_neg h]
    have := fieldsF_length b.size b
    omega
theorem oneS_thin (b : ByteArray) : (oneS b).1.2.2.2.size ≤ b.size := by
  have h0 : (⟨#[]⟩ : ByteArray).size ≤ b.size := Nat.zero_le _
  unfold oneS
  split
  · exact h0
  · split
    · exact h0
    · split
      · dsimp only
        split
        · exact h0
        · split
          · exact h0
          · split
            · exact h0
            · dsimp only
              rw [ByteArray.size_extract]; omega
      · dsimp only
        split
        · split
          · exact h0
          · exact h0
        · split
          · exact h0
          · exact h0
theorem fieldsF_thin (d : Nat) : ∀ b : ByteArray, ∀ x ∈ (fieldsF d b).1, x.2.2.2.size ≤ b.size := by
  induction d with
  | zero => intro b x hx; cases hx
  | succ d ih =>
    intro b x hx
    rw [fieldsF] at hx
    split at hx
    · cases hx
    · split at hx
      · cases hx
      · split at hx
        · cases hx
        · rcases List.mem_cons.1 hx with e | h
          · rw [e]; exact oneS_thin b
          · exact Nat.le_trans (ih _ x h) (by rw [ByteArray.size_extract]; omega)
theorem fieldsS_thin (b : ByteArray) (hb : b.size ≤ 140737488351232) : ∀ x ∈ (fieldsS b).1.map toP, x.f3.size ≤ 140737488351232 := by
  intro x hx
  obtain ⟨y, hy, rfl⟩ := List.mem_map.1 hx
  unfold fieldsS at hy
  by_cases h : b.size > 1048576
  · rw [if_pos h] at hy; cases hy
  · rw [if_neg h] at hy
    exact Nat.le_trans (fieldsF_thin _ b y hy) hb
theorem hbBut {g : Nat} {w w1 w2 : World} (h : Aside0 (Below w.heap.size w w1)) (hB : But g w1 w2) (hg : Aside0 (w.heap.size ≤ g)) : Aside0 (Below w.heap.size w w2) :=
  ⟨⟨hB.os.trans h.out.os, hB.tape.trans h.out.tape, hB.output.trans h.out.output, Nat.le_trans h.out.size hB.size, fun i hi => (hB.block i (Nat.lt_of_lt_of_le hi h.out.size) (fun e => Nat.not_le.2 hi (e ▸ hg.out))).trans (h.out.block i hi)⟩⟩
theorem bkBut {g j : Nat} {w W : World} {o : Obj} (h : Aside0 (w.heap[j]? = some o)) (hB : But g w W) (hn : Aside0 (j ≠ g)) : Aside0 (W.heap[j]? = some o) := ⟨hB.keep h.out hn.out⟩
theorem rBut {α : Type} {d : Kd α} {e base g B : Nat} {w W : World} {v : Value} {xs : List α} (h : Aside0 (d.R e w base (fun k => B ≤ k) v xs)) (hB : But g w W) (hn : Aside0 (g < B)) : Aside0 (d.R e W base (fun k => B ≤ k) v xs) :=
  ⟨Kd.R_step h.out (fun k hk hlt => hB.block k hlt (by have := hn.out; omega))⟩
structure MsgT where
  name : ByteArray
  kind : Int
  dims : List Int
  data : ByteArray
  few : List Int
  many : List Int
  raw : Bool
  ext : List ByteArray
  wh : Int
  els : Int
def noMsg : MsgT := ⟨⟨#[]⟩, 0, [], ⟨#[]⟩, [], [], false, [], 0, 0⟩
def apartX (k2 : Int) (n3 d3 : ByteArray) (dO : Bool) (o2 : Int) (x1 x5 x7 : List Int) (ts : List ByteArray) (kd : Int) : MsgT × Int :=
  if 1 < o2 then (noMsg, 19) else if nameR n3 = false then (noMsg, 8) else if sizeK kd = 0 then (noMsg, 5) else
  (⟨n3, kd, x1, d3, x5, x7, dO, ts, o2, (sizeS x1).1⟩, (sizeS x1).2)
def apartY (k2 : Int) (n3 d3 : ByteArray) (dO : Bool) (o2 : Int) (x1 x5 x7 : List Int) (t : List ByteArray × Nat) (f : Int) : MsgT × Int :=
  if f ≠ 0 then (noMsg, f) else if t.2 ≠ 0 then (noMsg, (t.2 : Int)) else apartX k2 n3 d3 dO o2 x1 x5 x7 t.1 (if k2 ≤ 1048576 then wrap64 k2 else 0)
def apartW (k2 : Int) (n3 d3 : ByteArray) (dO : Bool) (o2 : Int) (x1 x5 x7 : List Int × Nat) (t : List ByteArray × Nat) : MsgT × Int :=
  apartY k2 n3 d3 dO o2 x1.1 x5.1 x7.1 t (rowsE (rowsE (x1.2 : Int) (x5.2 : Int)) (x7.2 : Int))
def apartV (L : List S95) (k2 : Int) (n3 d3 : ByteArray) (dO : Bool) (o2 : Int) (e : Int) : MsgT × Int :=
  if e ≠ 0 then (noMsg, e) else apartW k2 n3 d3 dO o2 (intsL ((L.filter fun x => x.f0 == 1).map flP) []) (intsL ((L.filter fun x => x.f0 == 5).map flP) []) (intsL ((L.filter fun x => x.f0 == 7).map flP) []) (textsL ((L.filter fun x => x.f0 == 13).map flP) [])
def apartU (L : List S95) (k n d o : Int × Int × Int × ByteArray × Bool) : MsgT × Int :=
  apartV L k.2.2.1 n.2.2.2.1 d.2.2.2.1 d.2.2.2.2 o.2.2.1 (lastE o.2.2.2.2 o.2.1 0 (lastE d.2.2.2.2 d.2.1 2 (lastE n.2.2.2.2 n.2.1 2 (lastE k.2.2.2.2 k.2.1 0 0))))
def apartS (b : ByteArray) : MsgT × Int :=
  if (fieldsS b).2 ≠ 0 then (noMsg, ((fieldsS b).2 : Int)) else
  apartU ((fieldsS b).1.map toP) (lastTup ((((fieldsS b).1.map toP).filter fun x => x.f0 == 2).getLast?)) (lastTup ((((fieldsS b).1.map toP).filter fun x => x.f0 == 8).getLast?)) (lastTup ((((fieldsS b).1.map toP).filter fun x => x.f0 == 9).getLast?)) (lastTup ((((fieldsS b).1.map toP).filter fun x => x.f0 == 14).getLast?))
def ApartPost (w : World) (R : MsgT × Int) (en : Ending) (w' : World) : Prop := ∃ A1 c1 A2 c2 A3 c3 A4 c4, en = .returned (.tuple #[.agg #[.string R.1.name, .int .i64 R.1.kind, .slice A1 R.1.dims.length c1, .string R.1.data, .slice A2 R.1.few.length c2, .slice A3 R.1.many.length c3, .bool R.1.raw, .slice A4 R.1.ext.length c4, .int .u64 R.1.wh, .int .i64 R.1.els], .int .i64 R.2])
      ∧ Kd.R (Kd.int .i64) 2 w' w.heap.size (fun _ => True) (.slice A1 R.1.dims.length c1) R.1.dims
      ∧ Kd.R (Kd.int .i64) 2 w' w.heap.size (fun _ => True) (.slice A2 R.1.few.length c2) R.1.few
      ∧ Kd.R (Kd.int .i64) 2 w' w.heap.size (fun _ => True) (.slice A3 R.1.many.length c3) R.1.many
      ∧ Kd.R Kd.string 9 w' w.heap.size (fun _ => True) (.slice A4 R.1.ext.length c4) R.1.ext
      ∧ Below w.heap.size w w'
theorem apart_zero {w w' : World} {R : MsgT × Int} {e : Int} (h : R = (noMsg, e)) (hb : Below w.heap.size w w') : ApartPost w R (.returned (.tuple #[.agg #[.string (⟨#[]⟩ : ByteArray), .int .i64 0, .slice none 0 0, .string (⟨#[]⟩ : ByteArray), .slice none 0 0, .slice none 0 0, .bool false, .slice none 0 0, .int .u64 0, .int .i64 0], .int .i64 e])) w' := by
  subst h
  exact ⟨none, 0, none, 0, none, 0, none, 0, rfl, Kd.R_nil _ _ _ _ _, Kd.R_nil _ _ _ _ _, Kd.R_nil _ _ _ _ _, Kd.R_nil _ _ _ _ _, hb⟩
theorem below10 {w W : World} {g : Nat} {v0 v1 v2 v3 v4 v5 v6 v7 v8 v9 : Value} (h : Below w.heap.size w W) (hg : w.heap.size ≤ g) : Below w.heap.size w ((((((((((W.setCell ⟨g, 0, none⟩ v0).setCell ⟨g, 1, none⟩ v1).setCell ⟨g, 2, none⟩ v2).setCell ⟨g, 3, none⟩ v3).setCell ⟨g, 4, none⟩ v4).setCell ⟨g, 5, none⟩ v5).setCell ⟨g, 6, none⟩ v6).setCell ⟨g, 7, none⟩ v7).setCell ⟨g, 8, none⟩ v8).setCell ⟨g, 9, none⟩ v9) :=
  below_set (below_set (below_set (below_set (below_set (below_set (below_set (below_set (below_set (below_set h hg) hg) hg) hg) hg) hg) hg) hg) hg) hg
theorem last_thin {l : List S95} {num y0 y1 y2 : Int} {y3 : ByteArray} {ok : Bool} (h : lastTup ((l.filter fun x => x.f0 == num).getLast?) = (y0, y1, y2, y3, ok)) (hs : ∀ x ∈ l, x.f3.size ≤ 140737488351232) : y3.size ≤ 140737488351232 := by
  cases hg : (l.filter fun x => x.f0 == num).getLast? with
  | none =>
    rw [hg] at h
    simp only [lastTup, Prod.mk.injEq] at h
    rw [← h.2.2.2.1]; exact Nat.zero_le _
  | some z =>
    rw [hg] at h
    simp only [lastTup, Prod.mk.injEq] at h
    rw [← h.2.2.2.1]
    exact hs z ((List.mem_filter.1 (List.mem_of_getLast? hg)).1)
theorem rFar2' {α : Type} {d : Kd α} {e base g g' i j B : Nat} {w : World} {v a b : Value} {xs : List α} (h : d.R e w base (fun k => B ≤ k) v xs) (hn : g < B) (hn' : g' < B) : d.R e ((w.setCell ⟨g, i, none⟩ a).setCell ⟨g', j, none⟩ b) base (fun k => B ≤ k) v xs :=
  Kd.R_far (p := ⟨g', j, none⟩) (Kd.R_far (p := ⟨g, i, none⟩) h (fun k hk => Nat.ne_of_gt (Nat.lt_of_lt_of_le hn hk)) _) (fun k hk => Nat.ne_of_gt (Nat.lt_of_lt_of_le hn' hk)) _
theorem rFar2 {α : Type} {d : Kd α} {e base g g' i j B : Nat} {w : World} {v a b : Value} {xs : List α} (h : d.R e w base (fun k => B ≤ k) v xs) (hn : g < B) (hn' : g' < B) (nd : Nat) : d.R e (((w.setCell ⟨g, i, none⟩ a).setCell ⟨g', j, none⟩ b).drewN nd) base (fun k => B ≤ k) v xs :=
  Kd.R_drewN (rFar2' h hn hn') nd
theorem rEnd {α : Type} {d : Kd α} {e base g B B0 : Nat} {W : World} {v v0 v1 v2 v3 v4 v5 v6 v7 v8 v9 : Value} {xs : List α} (h : d.R e W base (fun k => B ≤ k) v xs) (hn : g < B) (hb : B0 ≤ base) : d.R e ((((((((((W.setCell ⟨g, 0, none⟩ v0).setCell ⟨g, 1, none⟩ v1).setCell ⟨g, 2, none⟩ v2).setCell ⟨g, 3, none⟩ v3).setCell ⟨g, 4, none⟩ v4).setCell ⟨g, 5, none⟩ v5).setCell ⟨g, 6, none⟩ v6).setCell ⟨g, 7, none⟩ v7).setCell ⟨g, 8, none⟩ v8).setCell ⟨g, 9, none⟩ v9).drew B0 (fun _ => True) v xs := by
  have hf : ∀ (i : Nat), ∀ k, B ≤ k → k ≠ (⟨g, i, none⟩ : Addr).block := fun i k hk => Nat.ne_of_gt (Nat.lt_of_lt_of_le hn hk)
  exact Kd.R_mono (Kd.R_lower (Kd.R_drew (Kd.R_far (Kd.R_far (Kd.R_far (Kd.R_far (Kd.R_far (Kd.R_far (Kd.R_far (Kd.R_far (Kd.R_far (Kd.R_far h (hf 0) _) (hf 1) _) (hf 2) _) (hf 3) _) (hf 4) _) (hf 5) _) (hf 6) _) (hf 7) _) (hf 8) _) (hf 9) _)) hb) (fun _ _ => trivial)
theorem blk10 {w : World} {g t : Nat} {a0 a1 a2 a3 a4 a5 a6 a7 a8 a9 v0 v1 v2 v3 v4 v5 v6 v7 v8 v9 : Value} (h : w.heap[g]? = some (.cells #[a0, a1, a2, a3, a4, a5, a6, a7, a8, a9] t (0, 0))) :
    ((((((((((w.setCell ⟨g, 0, none⟩ v0).setCell ⟨g, 1, none⟩ v1).setCell ⟨g, 2, none⟩ v2).setCell ⟨g, 3, none⟩ v3).setCell ⟨g, 4, none⟩ v4).setCell ⟨g, 5, none⟩ v5).setCell ⟨g, 6, none⟩ v6).setCell ⟨g, 7, none⟩ v7).setCell ⟨g, 8, none⟩ v8).setCell ⟨g, 9, none⟩ v9).drew.heap[g]? = some (.cells #[v0, v1, v2, v3, v4, v5, v6, v7, v8, v9] t (0, 0)) := by
  have h2 := blk_drew (blk_set (blk_set (blk_set (blk_set (blk_set (blk_set (blk_set (blk_set (blk_set (blk_set h 0 v0) 1 v1) 2 v2) 3 v3) 4 v4) 5 v5) 6 v6) 7 v7) 8 v8) 9 v9)
  simp only [List.setIfInBounds_toArray, List.set_cons_zero, List.set_cons_succ] at h2
  exact h2
theorem rFar3 {α : Type} {d : Kd α} {e base g B : Nat} {w : World} {v a b c : Value} {xs : List α} (h : d.R e w base (fun k => B ≤ k) v xs) (hn : g < B) : d.R e (((w.setCell ⟨g, 2, none⟩ a).setCell ⟨g, 4, none⟩ b).setCell ⟨g, 5, none⟩ c) base (fun k => B ≤ k) v xs :=
  Kd.R_far (p := ⟨g, 5, none⟩) (Kd.R_far (p := ⟨g, 4, none⟩) (Kd.R_far (p := ⟨g, 2, none⟩) h (fun k hk => Nat.ne_of_gt (Nat.lt_of_lt_of_le hn hk)) _) (fun k hk => Nat.ne_of_gt (Nat.lt_of_lt_of_le hn hk)) _) (fun k hk => Nat.ne_of_gt (Nat.lt_of_lt_of_le hn hk)) _
theorem apart_e4 {b : ByteArray} {R : MsgT × Int} {L : List S95} {k0 k1 k2 n0 n1 n2 d0 d1 d2 o0 o1 o2 e1 e2 e3 e4 : Int} {k3 n3 d3 o3 : ByteArray} {ko no dO oo : Bool} (hR : apartS b = R) (h0 : (fieldsS b).2 = 0) (hL : (fieldsS b).1.map toP = L)
    (hk : lastTup ((L.filter fun x => x.f0 == 2).getLast?) = (k0, k1, k2, k3, ko)) (hn : lastTup ((L.filter fun x => x.f0 == 8).getLast?) = (n0, n1, n2, n3, no)) (hd : lastTup ((L.filter fun x => x.f0 == 9).getLast?) = (d0, d1, d2, d3, dO)) (ho : lastTup ((L.filter fun x => x.f0 == 14).getLast?) = (o0, o1, o2, o3, oo))
    (h1 : lastE ko k1 0 0 = e1) (h2 : lastE no n1 2 e1 = e2) (h3 : lastE dO d1 2 e2 = e3) (h4 : lastE oo o1 0 e3 = e4) : R = apartV L k2 n3 d3 dO o2 e4 := by
  rw [← hR]
  unfold apartS
  rw [if_neg (by rw [h0]; simp), hL, hk, hn, hd, ho]
  unfold apartU
  rw [h1, h2, h3, h4]
set_option maxHeartbeats 4000000 in
set_option maxRecDepth 100000 in
theorem apart_any (b : ByteArray) (w : World) (hb : b.size ≤ 140737488351232) :
    Calls Tryz.prog 21 #[.string b] w (ApartPost w (apartS b)) := by
  have hu59 := Tryz.underlying59
  have hu33 := Tryz.underlying33
  have hu95 := Tryz.underlying95
  obtain ⟨R, hR⟩ : ∃ R, apartS b = R := ⟨_, rfl⟩
  have HR := Aside0.mk hR
  rw [hR]
  have HS := Aside0.mk hb
  have HB := Aside0.mk (Below.refl w.heap.size w)
  clear hR hb
  go_enter Tryz.func21, Tryz.ntmps21
  go_wp2_with (first | ((with_reducible refine gate_dst (N := 2) rfl ?_); refine boxE (N := 2) (cs := #[.string (⟨#[]⟩ : ByteArray), .int .i64 0, .slice none 0 0, .string (⟨#[]⟩ : ByteArray), .slice none 0 0, .slice none 0 0, .bool false, .slice none 0 0, .int .u64 0, .int .i64 0]) (t := 59) ?_; intro gr hg w1 hbox hb; have BR := mk0 hbox; have GR := gwS HB hg; replace HB := hbS HB hb; clear hb hbox hg))
  refine (wire_Fields_s.calls b _ _ _ (if_pos HS.out)).mono ?_
  rintro en w2 ⟨v, rfl, hx, hb⟩
  obtain ⟨A, c, rfl⟩ := Kd.R_slice hx
  have HL := Aside0.mk (show Kd.F k95 w2 (fun k => k < w2.heap.size) A _ _ from Kd.R_F (Kd.R_mono (Kd.R_bound hx) (fun k hk => hk.2.2.1)))
  have HLc := Aside0.mk (Kd.R_reads' hx).2.1
  replace BR := bkS BR hb
  replace HB := hbS HB hb
  clear hb hx
  have H1 := Aside0.mk (show ((fieldsS b).1.map toP).length ≤ 3518437208883 from by rw [List.length_map]; exact fieldsS_few b)
  have H2 := Aside0.mk (fieldsS_thin b HS.out)
  have H0 : ∃ e0 : Nat, (fieldsS b).2 = e0 := ⟨_, rfl⟩
  obtain ⟨e0, he0⟩ := H0
  have HE0 := Aside0.mk he0
  rw [he0]
  obtain ⟨L, hLd⟩ : ∃ L, (fieldsS b).1.map toP = L := ⟨_, rfl⟩
  rw [hLd] at H1 H2 HL HLc ⊢
  have HLd := Aside0.mk hLd
  clear he0 hLd
  by_cases h0 : e0 ≠ 0
  · have b0 : ((e0 : Int) != 0) = true := bne_iff_ne.2 (by omega)
    have E := Aside0.mk (show R = (noMsg, (e0 : Int)) from by rw [← HR.out]; unfold apartS; rw [if_pos (by rw [HE0.out]; exact h0), HE0.out])
    clear h0
    go_wp2_with (first | ((with_reducible refine gate_dst (N := 4) rfl ?_); refine boxE (N := 4) (cs := #[.slice none 0 0]) (t := 96) ?_; intro gl hg w3 hbox hb; have BL := mk0 hbox; have GL := gwS HB hg; have NRL := neS BR hg; have NLR := neT BR hg; replace HL := mk0 (F_below HL.out hb); replace BR := bkS BR hb; replace HB := hbS HB hb; clear hb hbox hg; have hl0 := cz1 BL; have fl0 := fz BL 0) | ((with_reducible refine gate_dst (N := 5) rfl ?_); refine boxE (N := 5) (cs := #[.int .i64 0]) (t := 34) ?_; intro ge hg w4 hbox hb; have BE := mk0 hbox; have GE := gwS HB hg; have NRE := neS BR hg; have NER := neT BR hg; have NLE := neS BL hg; have NEL := neT BL hg; replace HL := mk0 (F_below HL.out hb); replace BR := bkS BR hb; replace BL := bkS BL hb; replace HB := hbS HB hb; clear hb hbox hg hl0 fl0; have hl0 := cz1 BL; have fl0 := fz BL 0; have he0 := cz1 BE; have fe0 := fz BE 0; have n1 := NLE.out; have n2 := NEL.out))
    obtain ⟨w5, hw5⟩ : ∃ w5, w5 = (w4.setCell ⟨gl, 0, none⟩ (.slice A L.length c)).setCell ⟨ge, 0, none⟩ (.int .i64 (e0 : Int)) := ⟨_, rfl⟩
    rw [← hw5]
    replace BR := mk0 (show w5.heap[gr]? = some _ from by rw [hw5]; exact bkW BR)
    replace BE := mk0 (show w5.heap[ge]? = some (.cells #[.int .i64 (e0 : Int)] 34 (0, 0)) from by rw [hw5]; exact bkW BE)
    replace HB := mk0 (show Below w.heap.size w w5 from by rw [hw5]; exact below_set (below_set HB.out GL.out) GE.out)
    clear hw5 hl0 fl0 he0 fe0 BL HL n1 n2
    have he0 := cz1 BE
    have fe0 := fz BE 0
    have hr0 := blk_cell BR.out 0
    have hr1 := blk_cell BR.out 1
    have hr2 := blk_cell BR.out 2
    have hr3 := blk_cell BR.out 3
    have hr4 := blk_cell BR.out 4
    have hr5 := blk_cell BR.out 5
    have hr6 := blk_cell BR.out 6
    have hr7 := blk_cell BR.out 7
    have hr8 := blk_cell BR.out 8
    have hr9 := blk_cell BR.out 9
    have fr0 := fz BR 0
    have fr1 := fz BR 1
    have fr2 := fz BR 2
    have fr3 := fz BR 3
    have fr4 := fz BR 4
    have fr5 := fz BR 5
    have fr6 := fz BR 6
    have fr7 := fz BR 7
    have fr8 := fz BR 8
    have fr9 := fz BR 9
    have n1 := NRE.out
    have n2 := NER.out
    go_region
    go_wp2
    refine bodyPost_ret (results_ct rfl _ _ gr 59 #[.string (⟨#[]⟩ : ByteArray), .int .i64 0, .slice none 0 0, .string (⟨#[]⟩ : ByteArray), .slice none 0 0, .slice none 0 0, .bool false, .slice none 0 0, .int .u64 0, .int .i64 0] (0, 0) _ rfl (bkW BR) hu59 rfl (by kernel_rfl)) rfl ?_
    exact apart_zero E.out (below_drew1 (below10 HB.out GR.out))
  have b0 : ((e0 : Int) != 0) = false := bne_eq_false_iff_eq.2 (by omega)
  have hz : e0 = 0 := by omega
  subst hz
  clear h0
  have hD := HLd.out
  obtain ⟨k0, k1, k2, k3, ko, hk⟩ : ∃ k0 k1 k2 k3 ko, lastTup ((L.filter fun x => x.f0 == 2).getLast?) = (k0, k1, k2, k3, ko) := ⟨_, _, _, _, _, rfl⟩
  obtain ⟨n0, n1, n2, n3, no, hn⟩ : ∃ k0 k1 k2 k3 ko, lastTup ((L.filter fun x => x.f0 == 8).getLast?) = (k0, k1, k2, k3, ko) := ⟨_, _, _, _, _, rfl⟩
  obtain ⟨d0, d1, d2, d3, dO, hd⟩ : ∃ k0 k1 k2 k3 ko, lastTup ((L.filter fun x => x.f0 == 9).getLast?) = (k0, k1, k2, k3, ko) := ⟨_, _, _, _, _, rfl⟩
  obtain ⟨o0, o1, o2, o3, oo, ho⟩ : ∃ k0 k1 k2 k3 ko, lastTup ((L.filter fun x => x.f0 == 14).getLast?) = (k0, k1, k2, k3, ko) := ⟨_, _, _, _, _, rfl⟩
  have HK := mk0 hk
  have HN := mk0 hn
  have HD := mk0 hd
  have HO := mk0 ho
  clear hk hn hd ho hD
  go_wp2_with (first | ((with_reducible refine gate_dst (N := 4) rfl ?_); refine boxE (N := 4) (cs := #[.slice none 0 0]) (t := 96) ?_; intro gl hg w3 hbox hb; have BL := mk0 hbox; have GL := gwS HB hg; have GL2 := mk0 (show w2.heap.size ≤ gl from Nat.le_of_eq hg.symm); have HS2 := mk0 (show w2.heap.size ≤ w3.heap.size from hb.size); have NRL := neS BR hg; have NLR := neT BR hg; replace HL := mk0 (F_below HL.out hb); replace BR := bkS BR hb; replace HB := hbS HB hb; clear hb hbox hg; have hl0 := cz1 BL; have fl0 := fz BL 0) | ((with_reducible refine gate_dst (N := 5) rfl ?_); refine boxE (N := 5) (cs := #[.int .i64 0]) (t := 34) ?_; intro ge hg w4 hbox hb; have BE := mk0 hbox; have GE := gwS HB hg; have GE2 := mk0 (show w2.heap.size ≤ ge from Nat.le_trans HS2.out (Nat.le_of_eq hg.symm)); have NRE := neS BR hg; have NER := neT BR hg; have NLE := neS BL hg; have NEL := neT BL hg; replace HL := mk0 (F_below HL.out hb); replace BR := bkS BR hb; replace BL := bkS BL hb; replace HB := hbS HB hb; clear hb hbox hg hl0 fl0; have hl0 := cz1 BL; have fl0 := fz BL 0; have he0 := cz1 BE; have fe0 := fz BE 0; have n1 := NLE.out; have n2 := NEL.out) | ((with_reducible refine gate_dst (N := 6) rfl ?_); (obtain ⟨w5, hw5⟩ : ∃ w5, w5 = (w4.setCell ⟨gl, 0, none⟩ (.slice A L.length c)).setCell ⟨ge, 0, none⟩ (.int .i64 (0 : Int)) := ⟨_, rfl⟩); (rw [← hw5]); (replace BR := mk0 (show w5.heap[gr]? = some _ from by rw [hw5]; exact bkW BR)); (replace BE := mk0 (show w5.heap[ge]? = some (.cells #[.int .i64 (0 : Int)] 34 (0, 0)) from by rw [hw5]; exact bkW BE)); (replace BL := mk0 (show w5.heap[gl]? = some (.cells #[.slice A L.length c] 96 (0, 0)) from by rw [hw5]; exact bkW BL)); (replace HL := mk0 (show Kd.F k95 w5 (fun k => k < w2.heap.size) A _ _ from by rw [hw5]; exact Kd.F_far (Kd.F_far HL.out (p := ⟨gl, 0, none⟩) (fun k hk => Nat.ne_of_lt (Nat.lt_of_lt_of_le hk GL2.out)) _) (p := ⟨ge, 0, none⟩) (fun k hk => Nat.ne_of_lt (Nat.lt_of_lt_of_le hk GE2.out)) _)); (replace HB := mk0 (show Below w.heap.size w w5 from by rw [hw5]; exact below_set (below_set HB.out GL.out) GE.out)); (clear hw5 hl0 fl0 he0 fe0 n1 n2); refine boxE (N := 6) (cs := #[.string (⟨#[]⟩ : ByteArray), .int .i64 0, .slice none 0 0, .string (⟨#[]⟩ : ByteArray), .slice none 0 0, .slice none 0 0, .bool false, .slice none 0 0, .int .u64 0, .int .i64 0]) (t := 59) ?_; intro gm hg w6 hbox hb; have BM := mk0 hbox; have GM := gwS HB hg; have NRM := neS BR hg; have NMR := neT BR hg; have NLM := neS BL hg; have NML := neT BL hg; have NEM := neS BE hg; have GEM := mk0 (show ge < gm from by rw [hg]; exact blk_lt BE.out); have NME := neT BE hg; replace HL := mk0 (F_below HL.out hb); replace BR := bkS BR hb; replace BL := bkS BL hb; replace BE := bkS BE hb; replace HB := hbS HB hb; clear hb hbox hg; have hl0 := cz1 BL; have fl0 := fz BL 0))
  refine (last_any A c L 2 0 ge 0 _ _ _ _ _ _ (Kd.F_now HL.out) HLc.out H1.out BE.out HK.out).mono ?_
  rintro en wc0 ⟨rfl, hB, hbe⟩
  replace BR := bkBut BR hB NRE
  replace BL := bkBut BL hB NLE
  replace BM := bkBut BM hB NME
  replace HL := mk0 (F_but HL.out hB (fun k hk => Nat.ne_of_lt (Nat.lt_of_lt_of_le hk GE2.out)))
  replace HB := hbBut HB hB GE
  replace BE := mk0 hbe
  clear hB hbe
  obtain ⟨e1, he1⟩ : ∃ e1, lastE ko k1 0 0 = e1 := ⟨_, rfl⟩
  rw [he1] at BE
  have HE1 := mk0 he1
  clear he1
  go_wp2_with (first | ((with_reducible refine gate_dst (N := 7) rfl ?_); refine boxE (N := 7) (cs := #[.int .i64 0, .int .i64 0, .int .u64 0, .string (⟨#[]⟩ : ByteArray)]) (t := 95) ?_; intro gk hg wa0 hbox hb; have BK := mk0 hbox; have GK := gwS HB hg; have GK2 := mk0 (show w2.heap.size ≤ gk from Nat.le_trans GE2.out (Nat.le_trans (Nat.le_of_lt (blk_lt BE.out)) (Nat.le_of_eq hg.symm))); have NRK := neS BR hg; have NLK := neS BL hg; have NEK := neS BE hg; have NMK := neS BM hg; have NKR := neT BR hg; have NKL := neT BL hg; have NKE := neT BE hg; have NKM := neT BM hg; replace HL := mk0 (F_below HL.out hb); replace BR := bkS BR hb; replace BL := bkS BL hb; replace BE := bkS BE hb; replace BM := bkS BM hb; replace HB := hbS HB hb; clear hb hbox hg; obtain ⟨hc0, hc1, hc2, hc3⟩ := cz4 BK; have hf0 := fz BK 0; have hf1 := fz BK 1; have hf2 := fz BK 2; have hf3 := fz BK 3; have hl0 := cz1 BL; have fl0 := fz BL 0; have m1 := NLK.out; have m2 := NKL.out))
  obtain ⟨wb0, hw⟩ : ∃ wb, wb = (((wa0.setCell ⟨gk, 0, none⟩ (.int .i64 k0)).setCell ⟨gk, 1, none⟩ (.int .i64 k1)).setCell ⟨gk, 2, none⟩ (.int .u64 k2)).setCell ⟨gk, 3, none⟩ (.string k3) := ⟨_, rfl⟩
  rw [← hw]
  replace BR := mk0 (show wb0.heap[gr]? = some _ from by rw [hw]; exact bkW BR)
  replace BL := mk0 (show wb0.heap[gl]? = some _ from by rw [hw]; exact bkW BL)
  replace BE := mk0 (show wb0.heap[ge]? = some _ from by rw [hw]; exact bkW BE)
  replace BM := mk0 (show wb0.heap[gm]? = some _ from by rw [hw]; exact bkW BM)
  replace BK := mk0 (show wb0.heap[gk]? = some (.cells #[.int .i64 k0, .int .i64 k1, .int .u64 k2, .string k3] 95 (0, 0)) from by rw [hw]; exact bkW BK)
  replace HL := mk0 (show Kd.F k95 wb0 (fun k => k < w2.heap.size) A _ _ from by rw [hw]; exact (Kd.F_far (Kd.F_far (Kd.F_far (Kd.F_far HL.out (p := ⟨gk, 0, none⟩) (fun k hk => Nat.ne_of_lt (Nat.lt_of_lt_of_le hk GK2.out)) _) (p := ⟨gk, 1, none⟩) (fun k hk => Nat.ne_of_lt (Nat.lt_of_lt_of_le hk GK2.out)) _) (p := ⟨gk, 2, none⟩) (fun k hk => Nat.ne_of_lt (Nat.lt_of_lt_of_le hk GK2.out)) _) (p := ⟨gk, 3, none⟩) (fun k hk => Nat.ne_of_lt (Nat.lt_of_lt_of_le hk GK2.out)) _))
  replace HB := mk0 (show Below w.heap.size w wb0 from by rw [hw]; exact below4 HB.out GK.out)
  clear hw hc0 hc1 hc2 hc3 hf0 hf1 hf2 hf3 hl0 fl0 m1 m2
  refine (last_any A c L 8 2 ge e1 _ _ _ _ _ _ (Kd.F_now HL.out) HLc.out H1.out BE.out HN.out).mono ?_
  rintro en wc1 ⟨rfl, hB, hbe⟩
  replace BR := bkBut BR hB NRE
  replace BL := bkBut BL hB NLE
  replace BM := bkBut BM hB NME
  replace BK := bkBut BK hB NKE
  replace HL := mk0 (F_but HL.out hB (fun k hk => Nat.ne_of_lt (Nat.lt_of_lt_of_le hk GE2.out)))
  replace HB := hbBut HB hB GE
  replace BE := mk0 hbe
  clear hB hbe
  obtain ⟨e2, he2⟩ : ∃ e2, lastE no n1 2 e1 = e2 := ⟨_, rfl⟩
  rw [he2] at BE
  have HE2 := mk0 he2
  clear he2
  go_wp2_with (first | ((with_reducible refine gate_dst (N := 9) rfl ?_); refine boxE (N := 9) (cs := #[.int .i64 0, .int .i64 0, .int .u64 0, .string (⟨#[]⟩ : ByteArray)]) (t := 95) ?_; intro gn hg wa1 hbox hb; have BN := mk0 hbox; have GN := gwS HB hg; have GN2 := mk0 (show w2.heap.size ≤ gn from Nat.le_trans GE2.out (Nat.le_trans (Nat.le_of_lt (blk_lt BE.out)) (Nat.le_of_eq hg.symm))); have NRN := neS BR hg; have NLN := neS BL hg; have NEN := neS BE hg; have NMN := neS BM hg; have NKN := neS BK hg; have NNR := neT BR hg; have NNL := neT BL hg; have NNE := neT BE hg; have NNM := neT BM hg; have NNK := neT BK hg; replace HL := mk0 (F_below HL.out hb); replace BR := bkS BR hb; replace BL := bkS BL hb; replace BE := bkS BE hb; replace BM := bkS BM hb; replace BK := bkS BK hb; replace HB := hbS HB hb; clear hb hbox hg; obtain ⟨hc0, hc1, hc2, hc3⟩ := cz4 BN; have hf0 := fz BN 0; have hf1 := fz BN 1; have hf2 := fz BN 2; have hf3 := fz BN 3; have hl0 := cz1 BL; have fl0 := fz BL 0; have m1 := NLN.out; have m2 := NNL.out))
  obtain ⟨wb1, hw⟩ : ∃ wb, wb = (((wa1.setCell ⟨gn, 0, none⟩ (.int .i64 n0)).setCell ⟨gn, 1, none⟩ (.int .i64 n1)).setCell ⟨gn, 2, none⟩ (.int .u64 n2)).setCell ⟨gn, 3, none⟩ (.string n3) := ⟨_, rfl⟩
  rw [← hw]
  replace BR := mk0 (show wb1.heap[gr]? = some _ from by rw [hw]; exact bkW BR)
  replace BL := mk0 (show wb1.heap[gl]? = some _ from by rw [hw]; exact bkW BL)
  replace BE := mk0 (show wb1.heap[ge]? = some _ from by rw [hw]; exact bkW BE)
  replace BM := mk0 (show wb1.heap[gm]? = some _ from by rw [hw]; exact bkW BM)
  replace BK := mk0 (show wb1.heap[gk]? = some _ from by rw [hw]; exact bkW BK)
  replace BN := mk0 (show wb1.heap[gn]? = some (.cells #[.int .i64 n0, .int .i64 n1, .int .u64 n2, .string n3] 95 (0, 0)) from by rw [hw]; exact bkW BN)
  replace HL := mk0 (show Kd.F k95 wb1 (fun k => k < w2.heap.size) A _ _ from by rw [hw]; exact (Kd.F_far (Kd.F_far (Kd.F_far (Kd.F_far HL.out (p := ⟨gn, 0, none⟩) (fun k hk => Nat.ne_of_lt (Nat.lt_of_lt_of_le hk GN2.out)) _) (p := ⟨gn, 1, none⟩) (fun k hk => Nat.ne_of_lt (Nat.lt_of_lt_of_le hk GN2.out)) _) (p := ⟨gn, 2, none⟩) (fun k hk => Nat.ne_of_lt (Nat.lt_of_lt_of_le hk GN2.out)) _) (p := ⟨gn, 3, none⟩) (fun k hk => Nat.ne_of_lt (Nat.lt_of_lt_of_le hk GN2.out)) _))
  replace HB := mk0 (show Below w.heap.size w wb1 from by rw [hw]; exact below4 HB.out GN.out)
  clear hw hc0 hc1 hc2 hc3 hf0 hf1 hf2 hf3 hl0 fl0 m1 m2
  refine (last_any A c L 9 2 ge e2 _ _ _ _ _ _ (Kd.F_now HL.out) HLc.out H1.out BE.out HD.out).mono ?_
  rintro en wc2 ⟨rfl, hB, hbe⟩
  replace BR := bkBut BR hB NRE
  replace BL := bkBut BL hB NLE
  replace BM := bkBut BM hB NME
  replace BK := bkBut BK hB NKE
  replace BN := bkBut BN hB NNE
  replace HL := mk0 (F_but HL.out hB (fun k hk => Nat.ne_of_lt (Nat.lt_of_lt_of_le hk GE2.out)))
  replace HB := hbBut HB hB GE
  replace BE := mk0 hbe
  clear hB hbe
  obtain ⟨e3, he3⟩ : ∃ e3, lastE dO d1 2 e2 = e3 := ⟨_, rfl⟩
  rw [he3] at BE
  have HE3 := mk0 he3
  clear he3
  go_wp2_with (first | ((with_reducible refine gate_dst (N := 11) rfl ?_); refine boxE (N := 11) (cs := #[.int .i64 0, .int .i64 0, .int .u64 0, .string (⟨#[]⟩ : ByteArray)]) (t := 95) ?_; intro gd hg wa2 hbox hb; have BD := mk0 hbox; have GD := gwS HB hg; have GD2 := mk0 (show w2.heap.size ≤ gd from Nat.le_trans GE2.out (Nat.le_trans (Nat.le_of_lt (blk_lt BE.out)) (Nat.le_of_eq hg.symm))); have NRD := neS BR hg; have NLD := neS BL hg; have NED := neS BE hg; have NMD := neS BM hg; have NKD := neS BK hg; have NND := neS BN hg; have NDR := neT BR hg; have NDL := neT BL hg; have NDE := neT BE hg; have NDM := neT BM hg; have NDK := neT BK hg; have NDN := neT BN hg; replace HL := mk0 (F_below HL.out hb); replace BR := bkS BR hb; replace BL := bkS BL hb; replace BE := bkS BE hb; replace BM := bkS BM hb; replace BK := bkS BK hb; replace BN := bkS BN hb; replace HB := hbS HB hb; clear hb hbox hg; obtain ⟨hc0, hc1, hc2, hc3⟩ := cz4 BD; have hf0 := fz BD 0; have hf1 := fz BD 1; have hf2 := fz BD 2; have hf3 := fz BD 3; have hl0 := cz1 BL; have fl0 := fz BL 0; have m1 := NLD.out; have m2 := NDL.out))
  obtain ⟨wb2, hw⟩ : ∃ wb, wb = (((wa2.setCell ⟨gd, 0, none⟩ (.int .i64 d0)).setCell ⟨gd, 1, none⟩ (.int .i64 d1)).setCell ⟨gd, 2, none⟩ (.int .u64 d2)).setCell ⟨gd, 3, none⟩ (.string d3) := ⟨_, rfl⟩
  rw [← hw]
  replace BR := mk0 (show wb2.heap[gr]? = some _ from by rw [hw]; exact bkW BR)
  replace BL := mk0 (show wb2.heap[gl]? = some _ from by rw [hw]; exact bkW BL)
  replace BE := mk0 (show wb2.heap[ge]? = some _ from by rw [hw]; exact bkW BE)
  replace BM := mk0 (show wb2.heap[gm]? = some _ from by rw [hw]; exact bkW BM)
  replace BK := mk0 (show wb2.heap[gk]? = some _ from by rw [hw]; exact bkW BK)
  replace BN := mk0 (show wb2.heap[gn]? = some _ from by rw [hw]; exact bkW BN)
  replace BD := mk0 (show wb2.heap[gd]? = some (.cells #[.int .i64 d0, .int .i64 d1, .int .u64 d2, .string d3] 95 (0, 0)) from by rw [hw]; exact bkW BD)
  replace HL := mk0 (show Kd.F k95 wb2 (fun k => k < w2.heap.size) A _ _ from by rw [hw]; exact (Kd.F_far (Kd.F_far (Kd.F_far (Kd.F_far HL.out (p := ⟨gd, 0, none⟩) (fun k hk => Nat.ne_of_lt (Nat.lt_of_lt_of_le hk GD2.out)) _) (p := ⟨gd, 1, none⟩) (fun k hk => Nat.ne_of_lt (Nat.lt_of_lt_of_le hk GD2.out)) _) (p := ⟨gd, 2, none⟩) (fun k hk => Nat.ne_of_lt (Nat.lt_of_lt_of_le hk GD2.out)) _) (p := ⟨gd, 3, none⟩) (fun k hk => Nat.ne_of_lt (Nat.lt_of_lt_of_le hk GD2.out)) _))
  replace HB := mk0 (show Below w.heap.size w wb2 from by rw [hw]; exact below4 HB.out GD.out)
  clear hw hc0 hc1 hc2 hc3 hf0 hf1 hf2 hf3 hl0 fl0 m1 m2
  refine (last_any A c L 14 0 ge e3 _ _ _ _ _ _ (Kd.F_now HL.out) HLc.out H1.out BE.out HO.out).mono ?_
  rintro en wc3 ⟨rfl, hB, hbe⟩
  replace BR := bkBut BR hB NRE
  replace BL := bkBut BL hB NLE
  replace BM := bkBut BM hB NME
  replace BK := bkBut BK hB NKE
  replace BN := bkBut BN hB NNE
  replace BD := bkBut BD hB NDE
  replace HL := mk0 (F_but HL.out hB (fun k hk => Nat.ne_of_lt (Nat.lt_of_lt_of_le hk GE2.out)))
  replace HB := hbBut HB hB GE
  replace BE := mk0 hbe
  clear hB hbe
  obtain ⟨e4, he4⟩ : ∃ e4, lastE oo o1 0 e3 = e4 := ⟨_, rfl⟩
  rw [he4] at BE
  have HE4 := mk0 he4
  clear he4
  by_cases h4 : e4 ≠ 0
  · have b4 : (e4 != 0) = true := bne_iff_ne.2 h4
    have E := Aside0.mk (show R = (noMsg, e4) from (apart_e4 HR.out HE0.out HLd.out HK.out HN.out HD.out HO.out HE1.out HE2.out HE3.out HE4.out).trans (if_pos h4))
    clear h4
    go_wp2_with (first | ((with_reducible refine gate_dst (N := 13) rfl ?_); refine boxE (N := 13) (cs := #[.int .i64 0, .int .i64 0, .int .u64 0, .string (⟨#[]⟩ : ByteArray)]) (t := 95) ?_; intro go_ hg wa3 hbox hb; have BO := mk0 hbox; have GO := gwS HB hg; have GO2 := mk0 (show w2.heap.size ≤ go_ from Nat.le_trans GE2.out (Nat.le_trans (Nat.le_of_lt (blk_lt BE.out)) (Nat.le_of_eq hg.symm))); have NRO := neS BR hg; have NLO := neS BL hg; have NEO := neS BE hg; have NMO := neS BM hg; have NKO := neS BK hg; have NNO := neS BN hg; have NDO := neS BD hg; have NOR := neT BR hg; have NOL := neT BL hg; have NOE := neT BE hg; have NOM := neT BM hg; have NOK := neT BK hg; have NON := neT BN hg; have NOD := neT BD hg; replace HL := mk0 (F_below HL.out hb); replace BR := bkS BR hb; replace BL := bkS BL hb; replace BE := bkS BE hb; replace BM := bkS BM hb; replace BK := bkS BK hb; replace BN := bkS BN hb; replace BD := bkS BD hb; replace HB := hbS HB hb; clear hb hbox hg; obtain ⟨hc0, hc1, hc2, hc3⟩ := cz4 BO; have hf0 := fz BO 0; have hf1 := fz BO 1; have hf2 := fz BO 2; have hf3 := fz BO 3; have hl0 := cz1 BL; have fl0 := fz BL 0; have m1 := NLO.out; have m2 := NOL.out; have hee := cz1 BE; have m3 := NEO.out; have m4 := NOE.out))
    obtain ⟨wb3, hw⟩ : ∃ wb, wb = (((wa3.setCell ⟨go_, 0, none⟩ (.int .i64 o0)).setCell ⟨go_, 1, none⟩ (.int .i64 o1)).setCell ⟨go_, 2, none⟩ (.int .u64 o2)).setCell ⟨go_, 3, none⟩ (.string o3) := ⟨_, rfl⟩
    rw [← hw]
    replace BR := mk0 (show wb3.heap[gr]? = some _ from by rw [hw]; exact bkW BR)
    replace BL := mk0 (show wb3.heap[gl]? = some _ from by rw [hw]; exact bkW BL)
    replace BE := mk0 (show wb3.heap[ge]? = some _ from by rw [hw]; exact bkW BE)
    replace BM := mk0 (show wb3.heap[gm]? = some _ from by rw [hw]; exact bkW BM)
    replace BK := mk0 (show wb3.heap[gk]? = some _ from by rw [hw]; exact bkW BK)
    replace BN := mk0 (show wb3.heap[gn]? = some _ from by rw [hw]; exact bkW BN)
    replace BD := mk0 (show wb3.heap[gd]? = some _ from by rw [hw]; exact bkW BD)
    replace BO := mk0 (show wb3.heap[go_]? = some (.cells #[.int .i64 o0, .int .i64 o1, .int .u64 o2, .string o3] 95 (0, 0)) from by rw [hw]; exact bkW BO)
    replace HL := mk0 (show Kd.F k95 wb3 (fun k => k < w2.heap.size) A _ _ from by rw [hw]; exact (Kd.F_far (Kd.F_far (Kd.F_far (Kd.F_far HL.out (p := ⟨go_, 0, none⟩) (fun k hk => Nat.ne_of_lt (Nat.lt_of_lt_of_le hk GO2.out)) _) (p := ⟨go_, 1, none⟩) (fun k hk => Nat.ne_of_lt (Nat.lt_of_lt_of_le hk GO2.out)) _) (p := ⟨go_, 2, none⟩) (fun k hk => Nat.ne_of_lt (Nat.lt_of_lt_of_le hk GO2.out)) _) (p := ⟨go_, 3, none⟩) (fun k hk => Nat.ne_of_lt (Nat.lt_of_lt_of_le hk GO2.out)) _))
    replace HB := mk0 (show Below w.heap.size w wb3 from by rw [hw]; exact below4 HB.out GO.out)
    clear hw hc0 hc1 hc2 hc3 hf0 hf1 hf2 hf3 hl0 fl0 m1 m2 hee m3 m4
    have he0 := cz1 BE
    have fe0 := fz BE 0
    have hr0 := blk_cell BR.out 0
    have hr1 := blk_cell BR.out 1
    have hr2 := blk_cell BR.out 2
    have hr3 := blk_cell BR.out 3
    have hr4 := blk_cell BR.out 4
    have hr5 := blk_cell BR.out 5
    have hr6 := blk_cell BR.out 6
    have hr7 := blk_cell BR.out 7
    have hr8 := blk_cell BR.out 8
    have hr9 := blk_cell BR.out 9
    have fr0 := fz BR 0
    have fr1 := fz BR 1
    have fr2 := fz BR 2
    have fr3 := fz BR 3
    have fr4 := fz BR 4
    have fr5 := fz BR 5
    have fr6 := fz BR 6
    have fr7 := fz BR 7
    have fr8 := fz BR 8
    have fr9 := fz BR 9
    have n1 := NRE.out
    have n2 := NER.out
    go_region
    go_wp2
    refine bodyPost_ret (results_ct rfl _ _ gr 59 #[.string (⟨#[]⟩ : ByteArray), .int .i64 0, .slice none 0 0, .string (⟨#[]⟩ : ByteArray), .slice none 0 0, .slice none 0 0, .bool false, .slice none 0 0, .int .u64 0, .int .i64 0] (0, 0) _ rfl (bkW BR) hu59 rfl (by kernel_rfl)) rfl ?_
    exact apart_zero E.out (below_drew1 (below10 HB.out GR.out))
  have b4 : (e4 != 0) = false := bne_eq_false_iff_eq.2 (by omega)
  have hz : e4 = 0 := by omega
  subst hz
  have HV := Aside0.mk (show R = _ from (apart_e4 HR.out HE0.out HLd.out HK.out HN.out HD.out HO.out HE1.out HE2.out HE3.out HE4.out).trans (if_neg (by simp)))
  have HN3 := Aside0.mk (last_thin HN.out H2.out)
  clear h4 HR HE0 HLd HK HN HD HO HE1 HE2 HE3 HE4
  go_wp2_with (first | ((with_reducible refine gate_dst (N := 13) rfl ?_); refine boxE (N := 13) (cs := #[.int .i64 0, .int .i64 0, .int .u64 0, .string (⟨#[]⟩ : ByteArray)]) (t := 95) ?_; intro go_ hg wa3 hbox hb; have BO := mk0 hbox; have GO := gwS HB hg; have GO2 := mk0 (show w2.heap.size ≤ go_ from Nat.le_trans GE2.out (Nat.le_trans (Nat.le_of_lt (blk_lt BE.out)) (Nat.le_of_eq hg.symm))); have NRO := neS BR hg; have NLO := neS BL hg; have NEO := neS BE hg; have NMO := neS BM hg; have NKO := neS BK hg; have NNO := neS BN hg; have NDO := neS BD hg; have NOR := neT BR hg; have NOL := neT BL hg; have NOE := neT BE hg; have NOM := neT BM hg; have NOK := neT BK hg; have NON := neT BN hg; have NOD := neT BD hg; replace HL := mk0 (F_below HL.out hb); replace BR := bkS BR hb; replace BL := bkS BL hb; replace BE := bkS BE hb; replace BM := bkS BM hb; replace BK := bkS BK hb; replace BN := bkS BN hb; replace BD := bkS BD hb; replace HB := hbS HB hb; clear hb hbox hg; obtain ⟨hc0, hc1, hc2, hc3⟩ := cz4 BO; have hf0 := fz BO 0; have hf1 := fz BO 1; have hf2 := fz BO 2; have hf3 := fz BO 3; have hl0 := cz1 BL; have fl0 := fz BL 0; have m1 := NLO.out; have m2 := NOL.out; have hee := cz1 BE; have m3 := NEO.out; have m4 := NOE.out))
  obtain ⟨wb3, hw⟩ : ∃ wb, wb = (((wa3.setCell ⟨go_, 0, none⟩ (.int .i64 o0)).setCell ⟨go_, 1, none⟩ (.int .i64 o1)).setCell ⟨go_, 2, none⟩ (.int .u64 o2)).setCell ⟨go_, 3, none⟩ (.string o3) := ⟨_, rfl⟩
  rw [← hw]
  replace BR := mk0 (show wb3.heap[gr]? = some _ from by rw [hw]; exact bkW BR)
  replace BL := mk0 (show wb3.heap[gl]? = some _ from by rw [hw]; exact bkW BL)
  replace BE := mk0 (show wb3.heap[ge]? = some _ from by rw [hw]; exact bkW BE)
  replace BM := mk0 (show wb3.heap[gm]? = some _ from by rw [hw]; exact bkW BM)
  replace BK := mk0 (show wb3.heap[gk]? = some _ from by rw [hw]; exact bkW BK)
  replace BN := mk0 (show wb3.heap[gn]? = some _ from by rw [hw]; exact bkW BN)
  replace BD := mk0 (show wb3.heap[gd]? = some _ from by rw [hw]; exact bkW BD)
  replace BO := mk0 (show wb3.heap[go_]? = some (.cells #[.int .i64 o0, .int .i64 o1, .int .u64 o2, .string o3] 95 (0, 0)) from by rw [hw]; exact bkW BO)
  replace HL := mk0 (show Kd.F k95 wb3 (fun k => k < w2.heap.size) A _ _ from by rw [hw]; exact (Kd.F_far (Kd.F_far (Kd.F_far (Kd.F_far HL.out (p := ⟨go_, 0, none⟩) (fun k hk => Nat.ne_of_lt (Nat.lt_of_lt_of_le hk GO2.out)) _) (p := ⟨go_, 1, none⟩) (fun k hk => Nat.ne_of_lt (Nat.lt_of_lt_of_le hk GO2.out)) _) (p := ⟨go_, 2, none⟩) (fun k hk => Nat.ne_of_lt (Nat.lt_of_lt_of_le hk GO2.out)) _) (p := ⟨go_, 3, none⟩) (fun k hk => Nat.ne_of_lt (Nat.lt_of_lt_of_le hk GO2.out)) _))
  replace HB := mk0 (show Below w.heap.size w wb3 from by rw [hw]; exact below4 HB.out GO.out)
  clear hw hc0 hc1 hc2 hc3 hf0 hf1 hf2 hf3 hl0 fl0 m1 m2 hee m3 m4
  have hn3 := blk_cell BN.out 3
  have hd3 := blk_cell BD.out 3
  have ho2 := blk_cell BO.out 2
  have hm0 := blk_cell BM.out 0
  have hm3 := blk_cell BM.out 3
  have hm6 := blk_cell BM.out 6
  have hm8 := blk_cell BM.out 8
  have fm0 := fz BM 0
  have fm3 := fz BM 3
  have fm6 := fz BM 6
  have fm8 := fz BM 8
  have m1 := NMN.out
  have m2 := NNM.out
  have m3 := NMD.out
  have m4 := NDM.out
  have m5 := NMO.out
  have m6 := NOM.out
  go_region
  obtain ⟨w20, hw⟩ : ∃ wb, wb = ((((wb3.setCell ⟨gm, 0, none⟩ (.string n3)).setCell ⟨gm, 3, none⟩ (.string d3)).setCell ⟨gm, 6, none⟩ (.bool dO)).setCell ⟨gm, 8, none⟩ (.int .u64 o2)).drew := ⟨_, rfl⟩
  rw [← hw]
  replace BR := mk0 (show w20.heap[gr]? = some _ from by rw [hw]; exact bkW BR)
  replace BL := mk0 (show w20.heap[gl]? = some _ from by rw [hw]; exact bkW BL)
  replace BE := mk0 (show w20.heap[ge]? = some _ from by rw [hw]; exact bkW BE)
  replace BK := mk0 (show w20.heap[gk]? = some _ from by rw [hw]; exact bkW BK)
  replace BM := mk0 (show w20.heap[gm]? = some (.cells #[.string n3, .int .i64 0, .slice none 0 0, .string d3, .slice none 0 0, .slice none 0 0, .bool dO, .slice none 0 0, .int .u64 o2, .int .i64 0] 59 (0, 0)) from by rw [hw]; exact bkW BM)
  have GM2 := mk0 (show w2.heap.size ≤ gm from Nat.le_trans GE2.out (Nat.le_of_lt GEM.out))
  replace HL := mk0 (show Kd.F k95 w20 (fun k => k < w2.heap.size) A _ _ from by rw [hw]; exact F_below (Kd.F_far (Kd.F_far (Kd.F_far (Kd.F_far HL.out (p := ⟨gm, 0, none⟩) (fun k hk => Nat.ne_of_lt (Nat.lt_of_lt_of_le hk GM2.out)) _) (p := ⟨gm, 3, none⟩) (fun k hk => Nat.ne_of_lt (Nat.lt_of_lt_of_le hk GM2.out)) _) (p := ⟨gm, 6, none⟩) (fun k hk => Nat.ne_of_lt (Nat.lt_of_lt_of_le hk GM2.out)) _) (p := ⟨gm, 8, none⟩) (fun k hk => Nat.ne_of_lt (Nat.lt_of_lt_of_le hk GM2.out)) _) (below_drew1 (Below.refl _ _)))
  replace HB := mk0 (show Below w.heap.size w w20 from by rw [hw]; exact below_drew1 (below_set (below_set (below_set (below_set HB.out GM.out) GM.out) GM.out) GM.out))
  clear hw hn3 hd3 ho2 hm0 fm0 hm3 fm3 hm6 fm6 hm8 fm8 m1 m2 m3 m4 m5 m6 BN BD BO
  have hk2 := blk_cell BK.out 2
  have hm1 := blk_cell BM.out 1
  have fm1 := fz BM 1
  have m1 := NKM.out
  have m2 := NMK.out
  by_cases hs : k2 ≤ 1048576
  · have bs : decide (k2 ≤ 1048576) = true := decide_eq_true hs
    obtain ⟨kd, hkd⟩ : ∃ kd, (if k2 ≤ 1048576 then wrap64 k2 else 0) = kd := ⟨_, rfl⟩
    have HKd := mk0 hkd
    rw [if_pos hs] at hkd
    clear hs
    (go_wp2_with (first | fail))
    obtain ⟨w21, hw⟩ : ∃ wb, wb = w20.setCell ⟨gm, 1, none⟩ (.int .i64 kd) := ⟨_, rfl⟩
    rw [← hw]
    replace BR := mk0 (show w21.heap[gr]? = some _ from by rw [hw]; exact bkW BR)
    replace BL := mk0 (show w21.heap[gl]? = some _ from by rw [hw]; exact bkW BL)
    replace BE := mk0 (show w21.heap[ge]? = some _ from by rw [hw]; exact bkW BE)
    replace BM := mk0 (show w21.heap[gm]? = some (.cells #[.string n3, .int .i64 kd, .slice none 0 0, .string d3, .slice none 0 0, .slice none 0 0, .bool dO, .slice none 0 0, .int .u64 o2, .int .i64 0] 59 (0, 0)) from by rw [hw]; exact bkW BM)
    replace HL := mk0 (show Kd.F k95 w21 (fun k => k < w2.heap.size) A _ _ from by rw [hw]; exact Kd.F_far HL.out (p := ⟨gm, 1, none⟩) (fun k hk => Nat.ne_of_lt (Nat.lt_of_lt_of_le hk GM2.out)) _)
    replace HB := mk0 (show Below w.heap.size w w21 from by rw [hw]; exact below_set HB.out GM.out)
    clear hw hk2 hm1 fm1 m1 m2 hkd bs BK
    obtain ⟨x1, f1, hx1⟩ : ∃ (x1 : List Int) (f1 : Nat), intsL ((L.filter fun x => x.f0 == 1).map flP) [] = (x1, f1) := ⟨_, _, rfl⟩
    obtain ⟨x5, f5, hx5⟩ : ∃ (x1 : List Int) (f1 : Nat), intsL ((L.filter fun x => x.f0 == 5).map flP) [] = (x1, f1) := ⟨_, _, rfl⟩
    obtain ⟨x7, f7, hx7⟩ : ∃ (x1 : List Int) (f1 : Nat), intsL ((L.filter fun x => x.f0 == 7).map flP) [] = (x1, f1) := ⟨_, _, rfl⟩
    obtain ⟨ts, ft, hts⟩ : ∃ (x1 : List ByteArray) (f1 : Nat), textsL ((L.filter fun x => x.f0 == 13).map flP) [] = (x1, f1) := ⟨_, _, rfl⟩
    replace HV := mk0 (show R = apartY k2 n3 d3 dO o2 x1 x5 x7 (ts, ft) (rowsE (rowsE (f1 : Int) (f5 : Int)) (f7 : Int)) from by rw [HV.out, hx1, hx5, hx7, hts]; rfl)
    have HX1 := mk0 hx1
    have HX5 := mk0 hx5
    have HX7 := mk0 hx7
    have HT := mk0 hts
    clear hx1 hx5 hx7 hts
    refine (rows_any A c L 1 gl ge 0 (f1 : Int) x1 _ (Kd.F_now HL.out) HLc.out H1.out H2.out BL.out BE.out (by rw [HX1.out, Int.toNat_natCast]) (Int.natCast_nonneg _)).mono ?_
    rintro en w22 ⟨A1, c1, rfl, hx, hB, hbe⟩
    have X1 := mk0 (Kd.R_mono (Kd.R_bound hx) (fun k hk => hk.2.1))
    have E1E := mk0 (blk_lt BE.out)
    have E1M := mk0 (blk_lt BM.out)
    have E1R := mk0 (blk_lt BR.out)
    have E1B := mk0 HB.out.size
    replace BR := bkBut BR hB NRE
    replace BL := bkBut BL hB NLE
    replace BM := bkBut BM hB NME
    replace HL := mk0 (F_but HL.out hB (fun k hk => Nat.ne_of_lt (Nat.lt_of_lt_of_le hk GE2.out)))
    replace HB := hbBut HB hB GE
    replace BE := mk0 hbe
    clear hB hbe hx
    replace BE := mk0 (show w22.heap[ge]? = some (.cells #[.int .i64 (f1 : Int)] 34 (0, 0)) from BE.out)
    have hl0 := cz1 BL
    go_wp2_with (first | fail)
    clear hl0
    refine (rows_any A c L 5 gl ge (f1 : Int) (f5 : Int) x5 _ (Kd.F_now HL.out) HLc.out H1.out H2.out BL.out BE.out (by rw [HX5.out, Int.toNat_natCast]) (Int.natCast_nonneg _)).mono ?_
    rintro en w23 ⟨A5, c5, rfl, hx, hB, hbe⟩
    have X5 := mk0 (Kd.R_mono (Kd.R_bound hx) (fun k hk => hk.2.1))
    have E5E := mk0 (blk_lt BE.out)
    have E5M := mk0 (blk_lt BM.out)
    have E5R := mk0 (blk_lt BR.out)
    have E5B := mk0 HB.out.size
    replace X1 := rBut X1 hB E1E
    replace BR := bkBut BR hB NRE
    replace BL := bkBut BL hB NLE
    replace BM := bkBut BM hB NME
    replace HL := mk0 (F_but HL.out hB (fun k hk => Nat.ne_of_lt (Nat.lt_of_lt_of_le hk GE2.out)))
    replace HB := hbBut HB hB GE
    replace BE := mk0 hbe
    clear hB hbe hx
    have hl0 := cz1 BL
    go_wp2_with (first | fail)
    clear hl0
    refine (rows_any A c L 7 gl ge (rowsE (f1 : Int) (f5 : Int)) (f7 : Int) x7 _ (Kd.F_now HL.out) HLc.out H1.out H2.out BL.out BE.out (by rw [HX7.out, Int.toNat_natCast]) (Int.natCast_nonneg _)).mono ?_
    rintro en w24 ⟨A7, c7, rfl, hx, hB, hbe⟩
    have X7 := mk0 (Kd.R_mono (Kd.R_bound hx) (fun k hk => hk.2.1))
    have E7E := mk0 (blk_lt BE.out)
    have E7M := mk0 (blk_lt BM.out)
    have E7R := mk0 (blk_lt BR.out)
    have E7B := mk0 HB.out.size
    replace X1 := rBut X1 hB E1E
    replace X5 := rBut X5 hB E5E
    replace BR := bkBut BR hB NRE
    replace BL := bkBut BL hB NLE
    replace BM := bkBut BM hB NME
    replace HL := mk0 (F_but HL.out hB (fun k hk => Nat.ne_of_lt (Nat.lt_of_lt_of_le hk GE2.out)))
    replace HB := hbBut HB hB GE
    replace BE := mk0 hbe
    clear hB hbe hx
    have hm2 := blk_cell BM.out 2
    have fm2 := fz BM 2
    have hm4 := blk_cell BM.out 4
    have fm4 := fz BM 4
    have hm5 := blk_cell BM.out 5
    have fm5 := fz BM 5
    have hee := cz1 BE
    have hl0 := cz1 BL
    have m1 := NEM.out
    have m2 := NME.out
    have m3 := NLM.out
    have m4 := NML.out
    obtain ⟨F, hF⟩ : ∃ F, rowsE (rowsE (f1 : Int) (f5 : Int)) (f7 : Int) = F := ⟨_, rfl⟩
    rw [hF] at HV BE hee
    clear hF
    by_cases hf0 : F = 0
    · have bF : (F == 0) = true := beq_iff_eq.2 hf0
      go_wp2_with (first | fail)
      obtain ⟨w25, hw⟩ : ∃ wb, wb = ((w24.setCell ⟨gm, 2, none⟩ (.slice A1 x1.length c1)).setCell ⟨gm, 4, none⟩ (.slice A5 x5.length c5)).setCell ⟨gm, 5, none⟩ (.slice A7 x7.length c7) := ⟨_, rfl⟩
      rw [← hw]
      replace BR := mk0 (show w25.heap[gr]? = some _ from by rw [hw]; exact bkW BR)
      replace BE := mk0 (show w25.heap[ge]? = some _ from by rw [hw]; exact bkW BE)
      replace BM := mk0 (show w25.heap[gm]? = some (.cells #[.string n3, .int .i64 kd, .slice A1 x1.length c1, .string d3, .slice A5 x5.length c5, .slice A7 x7.length c7, .bool dO, .slice none 0 0, .int .u64 o2, .int .i64 0] 59 (0, 0)) from by rw [hw]; exact bkW BM)
      replace HL := mk0 (show Kd.F k95 w25 (fun k => k < w2.heap.size) A _ _ from by rw [hw]; exact Kd.F_far (Kd.F_far (Kd.F_far HL.out (p := ⟨gm, 2, none⟩) (fun k hk => Nat.ne_of_lt (Nat.lt_of_lt_of_le hk GM2.out)) _) (p := ⟨gm, 4, none⟩) (fun k hk => Nat.ne_of_lt (Nat.lt_of_lt_of_le hk GM2.out)) _) (p := ⟨gm, 5, none⟩) (fun k hk => Nat.ne_of_lt (Nat.lt_of_lt_of_le hk GM2.out)) _)
      replace HB := mk0 (show Below w.heap.size w w25 from by rw [hw]; exact below_set (below_set (below_set HB.out GM.out) GM.out) GM.out)
      replace X1 := mk0 (show Kd.R (Kd.int .i64) 2 w25 _ _ _ x1 from by rw [hw]; exact rFar3 X1.out E1M.out)
      replace X5 := mk0 (show Kd.R (Kd.int .i64) 2 w25 _ _ _ x5 from by rw [hw]; exact rFar3 X5.out E5M.out)
      replace X7 := mk0 (show Kd.R (Kd.int .i64) 2 w25 _ _ _ x7 from by rw [hw]; exact rFar3 X7.out E7M.out)
      clear hw hm2 fm2 hm4 fm4 hm5 fm5 hee hl0 m1 m2 m3 m4
      have E0 := Aside0.mk (show R = (if ft ≠ 0 then (noMsg, (ft : Int)) else apartX k2 n3 d3 dO o2 x1 x5 x7 ts kd) from by rw [HV.out, ← HKd.out]; exact if_neg (fun h => h hf0))
      clear hf0 HV HKd
      refine (pack_Texts_s.calls A c L 13 ts (ft : Int) _ (Kd.F_now HL.out) HLc.out ((if_pos H1.out).trans (by rw [HT.out]))).mono ?_
      rintro en w26 ⟨v, rfl, hx, hb⟩
      obtain ⟨AT, cT, rfl⟩ := Kd.R_slice hx
      have XT := mk0 (Kd.R_mono (Kd.R_bound hx) (fun k hk => hk.2.1))
      have ETM := mk0 (blk_lt BM.out)
      have ETE := mk0 (blk_lt BE.out)
      have ETR := mk0 (blk_lt BR.out)
      have ETB := mk0 HB.out.size
      replace X1 := mk0 (Kd.R_below X1.out hb)
      replace X5 := mk0 (Kd.R_below X5.out hb)
      replace X7 := mk0 (Kd.R_below X7.out hb)
      replace BR := bkS BR hb
      replace BE := bkS BE hb
      replace BM := bkS BM hb
      replace HB := hbS HB hb
      clear hb hx HL BL
      have hm7 := blk_cell BM.out 7
      have fm7 := fz BM 7
      have hee := cz1 BE
      have fee := fz BE 0
      have m1 := NEM.out
      have m2 := NME.out
      by_cases hft : ft ≠ 0
      · have bT : ((ft : Int) != 0) = true := bne_iff_ne.2 (by omega)
        have E := Aside0.mk (show R = (noMsg, (ft : Int)) from E0.out.trans (if_pos hft))
        clear hft
        go_wp2_with (first | fail)
        obtain ⟨w27, hw⟩ : ∃ wb, wb = (w26.setCell ⟨gm, 7, none⟩ (.slice AT ts.length cT)).setCell ⟨ge, 0, none⟩ (.int .i64 (ft : Int)) := ⟨_, rfl⟩
        rw [← hw]
        replace BR := mk0 (show w27.heap[gr]? = some _ from by rw [hw]; exact bkW BR)
        replace BE := mk0 (show w27.heap[ge]? = some (.cells #[.int .i64 (ft : Int)] 34 (0, 0)) from by rw [hw]; exact bkW BE)
        replace HB := mk0 (show Below w.heap.size w w27 from by rw [hw]; exact below_set (below_set HB.out GM.out) GE.out)
        clear hw hee fee hm7 fm7 m1 m2
        have hee := cz1 BE
        have fee := fz BE 0
        have hr0 := blk_cell BR.out 0
        have hr1 := blk_cell BR.out 1
        have hr2 := blk_cell BR.out 2
        have hr3 := blk_cell BR.out 3
        have hr4 := blk_cell BR.out 4
        have hr5 := blk_cell BR.out 5
        have hr6 := blk_cell BR.out 6
        have hr7 := blk_cell BR.out 7
        have hr8 := blk_cell BR.out 8
        have hr9 := blk_cell BR.out 9
        have fr0 := fz BR 0
        have fr1 := fz BR 1
        have fr2 := fz BR 2
        have fr3 := fz BR 3
        have fr4 := fz BR 4
        have fr5 := fz BR 5
        have fr6 := fz BR 6
        have fr7 := fz BR 7
        have fr8 := fz BR 8
        have fr9 := fz BR 9
        have n1 := NRE.out
        have n2 := NER.out
        go_region
        go_wp2
        refine bodyPost_ret (results_ct rfl _ _ gr 59 #[.string (⟨#[]⟩ : ByteArray), .int .i64 0, .slice none 0 0, .string (⟨#[]⟩ : ByteArray), .slice none 0 0, .slice none 0 0, .bool false, .slice none 0 0, .int .u64 0, .int .i64 0] (0, 0) _ rfl (bkW BR) hu59 rfl (by kernel_rfl)) rfl ?_
        exact apart_zero E.out (below_drew1 (below10 HB.out GR.out))
      · have bT : ((ft : Int) != 0) = false := bne_eq_false_iff_eq.2 (by omega)
        have E := Aside0.mk (show R = apartX k2 n3 d3 dO o2 x1 x5 x7 ts kd from E0.out.trans (if_neg hft))
        have hz : ft = 0 := by omega
        subst hz
        clear hft E0
        have hm8 := blk_cell BM.out 8
        have hm0 := blk_cell BM.out 0
        by_cases hw1 : 1 < o2
        · have bw : decide (1 < o2) = true := decide_eq_true hw1
          have E2 := Aside0.mk (show R = (noMsg, 19) from E.out.trans (if_pos hw1))
          clear hw1
          have hr0 := blk_cell BR.out 0
          have hr1 := blk_cell BR.out 1
          have hr2 := blk_cell BR.out 2
          have hr3 := blk_cell BR.out 3
          have hr4 := blk_cell BR.out 4
          have hr5 := blk_cell BR.out 5
          have hr6 := blk_cell BR.out 6
          have hr7 := blk_cell BR.out 7
          have hr8 := blk_cell BR.out 8
          have hr9 := blk_cell BR.out 9
          have fr0 := fz BR 0
          have fr1 := fz BR 1
          have fr2 := fz BR 2
          have fr3 := fz BR 3
          have fr4 := fz BR 4
          have fr5 := fz BR 5
          have fr6 := fz BR 6
          have fr7 := fz BR 7
          have fr8 := fz BR 8
          have fr9 := fz BR 9
          have n1 := NRE.out
          have n2 := NER.out
          have n3_ := NRM.out
          have n4 := NMR.out
          go_wp2_with (first | fail)
          refine bodyPost_ret (results_ct rfl _ _ gr 59 #[.string (⟨#[]⟩ : ByteArray), .int .i64 0, .slice none 0 0, .string (⟨#[]⟩ : ByteArray), .slice none 0 0, .slice none 0 0, .bool false, .slice none 0 0, .int .u64 0, .int .i64 0] (0, 0) _ rfl (bkW BR) hu59 rfl (by kernel_rfl)) rfl ?_
          exact apart_zero E2.out (below10 (below_set (below_set HB.out GM.out) GE.out) GR.out)
        · have bw : decide (1 < o2) = false := decide_eq_false hw1
          have E2 := Aside0.mk (show R = _ from E.out.trans (if_neg hw1))
          clear hw1 E
          go_wp2_with (first | fail)
          refine (tensor_Name_s.calls n3 (nameR n3) _ (if_pos HN3.out)).mono ?_
          rintro en w27 ⟨rfl, ⟨nd, hw⟩⟩
          replace BR := mk0 (show w27.heap[gr]? = some _ from by rw [hw]; exact bkW BR)
          replace BE := mk0 (show w27.heap[ge]? = some (.cells #[.int .i64 0] 34 (0, 0)) from by rw [hw]; exact bkW BE)
          replace BM := mk0 (show w27.heap[gm]? = some (.cells #[.string n3, .int .i64 kd, .slice A1 x1.length c1, .string d3, .slice A5 x5.length c5, .slice A7 x7.length c7, .bool dO, .slice AT ts.length cT, .int .u64 o2, .int .i64 0] 59 (0, 0)) from by rw [hw]; exact bkW BM)
          replace HB := mk0 (show Below w.heap.size w w27 from by rw [hw]; exact pw_below_drewN (below_set (below_set HB.out GM.out) GE.out) nd)
          replace X1 := mk0 (show Kd.R (Kd.int .i64) 2 w27 _ _ _ x1 from by rw [hw]; exact rFar2 X1.out E1M.out E1E.out nd)
          replace X5 := mk0 (show Kd.R (Kd.int .i64) 2 w27 _ _ _ x5 from by rw [hw]; exact rFar2 X5.out E5M.out E5E.out nd)
          replace X7 := mk0 (show Kd.R (Kd.int .i64) 2 w27 _ _ _ x7 from by rw [hw]; exact rFar2 X7.out E7M.out E7E.out nd)
          replace XT := mk0 (show Kd.R Kd.string 9 w27 _ _ _ ts from by rw [hw]; exact rFar2 XT.out ETM.out ETE.out nd)
          clear hw hm7 fm7 hee fee m1 m2 hm8 hm0
          by_cases hn : nameR n3 = false
          · rw [hn]
            have E3 := Aside0.mk (show R = (noMsg, 8) from E2.out.trans (if_pos hn))
            clear hn
            have hr0 := blk_cell BR.out 0
            have hr1 := blk_cell BR.out 1
            have hr2 := blk_cell BR.out 2
            have hr3 := blk_cell BR.out 3
            have hr4 := blk_cell BR.out 4
            have hr5 := blk_cell BR.out 5
            have hr6 := blk_cell BR.out 6
            have hr7 := blk_cell BR.out 7
            have hr8 := blk_cell BR.out 8
            have hr9 := blk_cell BR.out 9
            have fr0 := fz BR 0
            have fr1 := fz BR 1
            have fr2 := fz BR 2
            have fr3 := fz BR 3
            have fr4 := fz BR 4
            have fr5 := fz BR 5
            have fr6 := fz BR 6
            have fr7 := fz BR 7
            have fr8 := fz BR 8
            have fr9 := fz BR 9
            go_wp2_with (first | fail)
            refine bodyPost_ret (results_ct rfl _ _ gr 59 #[.string (⟨#[]⟩ : ByteArray), .int .i64 0, .slice none 0 0, .string (⟨#[]⟩ : ByteArray), .slice none 0 0, .slice none 0 0, .bool false, .slice none 0 0, .int .u64 0, .int .i64 0] (0, 0) _ rfl (bkW BR) hu59 rfl (by kernel_rfl)) rfl ?_
            exact apart_zero E3.out (below10 HB.out GR.out)
          · have hn2 : nameR n3 = true := by simpa using hn
            have E3 := Aside0.mk (show R = _ from E2.out.trans (if_neg hn))
            rw [hn2]
            clear hn hn2 E2
            have hm1 := blk_cell BM.out 1
            go_wp2_with (first | fail)
            refine (kind_Kind_Size.calls kd (sizeK kd) _ rfl).mono ?_
            rintro en w28 ⟨rfl, hb⟩
            replace BR := bkS BR hb
            replace BM := bkS BM hb
            replace BE := bkS BE hb
            replace X1 := mk0 (Kd.R_below X1.out hb)
            replace X5 := mk0 (Kd.R_below X5.out hb)
            replace X7 := mk0 (Kd.R_below X7.out hb)
            replace XT := mk0 (Kd.R_below XT.out hb)
            replace HB := hbS HB hb
            clear hb hm1
            by_cases hs : sizeK kd = 0
            · have bs : (sizeK kd == 0) = true := beq_iff_eq.2 hs
              have E4 := Aside0.mk (show R = (noMsg, 5) from E3.out.trans (if_pos hs))
              clear hs
              have hr0 := blk_cell BR.out 0
              have hr1 := blk_cell BR.out 1
              have hr2 := blk_cell BR.out 2
              have hr3 := blk_cell BR.out 3
              have hr4 := blk_cell BR.out 4
              have hr5 := blk_cell BR.out 5
              have hr6 := blk_cell BR.out 6
              have hr7 := blk_cell BR.out 7
              have hr8 := blk_cell BR.out 8
              have hr9 := blk_cell BR.out 9
              have fr0 := fz BR 0
              have fr1 := fz BR 1
              have fr2 := fz BR 2
              have fr3 := fz BR 3
              have fr4 := fz BR 4
              have fr5 := fz BR 5
              have fr6 := fz BR 6
              have fr7 := fz BR 7
              have fr8 := fz BR 8
              have fr9 := fz BR 9
              go_wp2_with (first | fail)
              refine bodyPost_ret (results_ct rfl _ _ gr 59 #[.string (⟨#[]⟩ : ByteArray), .int .i64 0, .slice none 0 0, .string (⟨#[]⟩ : ByteArray), .slice none 0 0, .slice none 0 0, .bool false, .slice none 0 0, .int .u64 0, .int .i64 0] (0, 0) _ rfl (bkW BR) hu59 rfl (by kernel_rfl)) rfl ?_
              exact apart_zero E4.out (below10 HB.out GR.out)
            · have bs : (sizeK kd == 0) = false := beq_eq_false_iff_ne.2 hs
              have E4 := Aside0.mk (show R = _ from E3.out.trans (if_neg hs))
              clear hs E3
              have hm2 := blk_cell BM.out 2
              go_wp2_with (first | fail)
              refine (shape_Size_s.calls A1 c1 x1 (sizeS x1).1 (sizeS x1).2 _ (Kd.R_reads' X1.out).2.2 (Kd.R_reads' X1.out).2.1 rfl).mono ?_
              rintro en w29 ⟨rfl, hb⟩
              replace BR := bkS BR hb
              replace BM := bkS BM hb
              replace BE := bkS BE hb
              replace X1 := mk0 (Kd.R_below X1.out hb)
              replace X5 := mk0 (Kd.R_below X5.out hb)
              replace X7 := mk0 (Kd.R_below X7.out hb)
              replace XT := mk0 (Kd.R_below XT.out hb)
              replace HB := hbS HB hb
              clear hb hm2
              have hm9 := blk_cell BM.out 9
              have fm9 := fz BM 9
              have hee := cz1 BE
              have fee := fz BE 0
              have m1 := NEM.out
              have m2 := NME.out
              obtain ⟨z1, hz1⟩ : ∃ z, (sizeS x1).1 = z := ⟨_, rfl⟩
              obtain ⟨z2, hz2⟩ : ∃ z, (sizeS x1).2 = z := ⟨_, rfl⟩
              rw [hz1, hz2] at E4 ⊢
              clear hz1 hz2
              go_wp2_with (first | fail)
              obtain ⟨w30, hw⟩ : ∃ wb, wb = (w29.setCell ⟨gm, 9, none⟩ (.int .i64 z1)).setCell ⟨ge, 0, none⟩ (.int .i64 z2) := ⟨_, rfl⟩
              rw [← hw]
              replace BR := mk0 (show w30.heap[gr]? = some _ from by rw [hw]; exact bkW BR)
              replace BE := mk0 (show w30.heap[ge]? = some (.cells #[.int .i64 z2] 34 (0, 0)) from by rw [hw]; exact bkW BE)
              replace BM := mk0 (show w30.heap[gm]? = some (.cells #[.string n3, .int .i64 kd, .slice A1 x1.length c1, .string d3, .slice A5 x5.length c5, .slice A7 x7.length c7, .bool dO, .slice AT ts.length cT, .int .u64 o2, .int .i64 z1] 59 (0, 0)) from by rw [hw]; exact bkW BM)
              replace HB := mk0 (show Below w.heap.size w w30 from by rw [hw]; exact below_set (below_set HB.out GM.out) GE.out)
              replace X1 := mk0 (show Kd.R (Kd.int .i64) 2 w30 _ _ _ x1 from by rw [hw]; exact rFar2' X1.out E1M.out E1E.out)
              replace X5 := mk0 (show Kd.R (Kd.int .i64) 2 w30 _ _ _ x5 from by rw [hw]; exact rFar2' X5.out E5M.out E5E.out)
              replace X7 := mk0 (show Kd.R (Kd.int .i64) 2 w30 _ _ _ x7 from by rw [hw]; exact rFar2' X7.out E7M.out E7E.out)
              replace XT := mk0 (show Kd.R Kd.string 9 w30 _ _ _ ts from by rw [hw]; exact rFar2' XT.out ETM.out ETE.out)
              clear hw hm9 fm9 hee fee m1 m2
              have hee := cz1 BE
              have fee := fz BE 0
              have hr0 := blk_cell BR.out 0
              have hr1 := blk_cell BR.out 1
              have hr2 := blk_cell BR.out 2
              have hr3 := blk_cell BR.out 3
              have hr4 := blk_cell BR.out 4
              have hr5 := blk_cell BR.out 5
              have hr6 := blk_cell BR.out 6
              have hr7 := blk_cell BR.out 7
              have hr8 := blk_cell BR.out 8
              have hr9 := blk_cell BR.out 9
              have fr0 := fz BR 0
              have fr1 := fz BR 1
              have fr2 := fz BR 2
              have fr3 := fz BR 3
              have fr4 := fz BR 4
              have fr5 := fz BR 5
              have fr6 := fz BR 6
              have fr7 := fz BR 7
              have fr8 := fz BR 8
              have fr9 := fz BR 9
              have hm0 := blk_cell BM.out 0
              have hm1 := blk_cell BM.out 1
              have hm2 := blk_cell BM.out 2
              have hm3 := blk_cell BM.out 3
              have hm4 := blk_cell BM.out 4
              have hm5 := blk_cell BM.out 5
              have hm6 := blk_cell BM.out 6
              have hm7 := blk_cell BM.out 7
              have hm8 := blk_cell BM.out 8
              have hm9 := blk_cell BM.out 9
              have n1 := NRE.out
              have n2 := NER.out
              have n4 := NRM.out
              have n5 := NMR.out
              go_region
              go_wp2
              refine bodyPost_ret (results_ct rfl _ _ gr 59 #[.string n3, .int .i64 kd, .slice A1 x1.length c1, .string d3, .slice A5 x5.length c5, .slice A7 x7.length c7, .bool dO, .slice AT ts.length cT, .int .u64 o2, .int .i64 z1] (0, 0) _ rfl (blk10 BR.out) hu59 rfl (by kernel_rfl)) rfl ?_
              rw [E4.out]
              exact ⟨A1, c1, A5, c5, A7, c7, AT, cT, rfl, rEnd X1.out E1R.out E1B.out, rEnd X5.out E5R.out E5B.out, rEnd X7.out E7R.out E7B.out, rEnd XT.out ETR.out ETB.out, below_drew1 (below10 HB.out GR.out)⟩
    · have bF : (F == 0) = false := beq_eq_false_iff_ne.2 hf0
      have bG : (F != 0) = true := bne_iff_ne.2 hf0
      go_wp2_with (first | fail)
      obtain ⟨w25, hw⟩ : ∃ wb, wb = ((w24.setCell ⟨gm, 2, none⟩ (.slice A1 x1.length c1)).setCell ⟨gm, 4, none⟩ (.slice A5 x5.length c5)).setCell ⟨gm, 5, none⟩ (.slice A7 x7.length c7) := ⟨_, rfl⟩
      rw [← hw]
      replace BR := mk0 (show w25.heap[gr]? = some _ from by rw [hw]; exact bkW BR)
      replace BE := mk0 (show w25.heap[ge]? = some _ from by rw [hw]; exact bkW BE)
      replace BM := mk0 (show w25.heap[gm]? = some (.cells #[.string n3, .int .i64 kd, .slice A1 x1.length c1, .string d3, .slice A5 x5.length c5, .slice A7 x7.length c7, .bool dO, .slice none 0 0, .int .u64 o2, .int .i64 0] 59 (0, 0)) from by rw [hw]; exact bkW BM)
      replace HL := mk0 (show Kd.F k95 w25 (fun k => k < w2.heap.size) A _ _ from by rw [hw]; exact Kd.F_far (Kd.F_far (Kd.F_far HL.out (p := ⟨gm, 2, none⟩) (fun k hk => Nat.ne_of_lt (Nat.lt_of_lt_of_le hk GM2.out)) _) (p := ⟨gm, 4, none⟩) (fun k hk => Nat.ne_of_lt (Nat.lt_of_lt_of_le hk GM2.out)) _) (p := ⟨gm, 5, none⟩) (fun k hk => Nat.ne_of_lt (Nat.lt_of_lt_of_le hk GM2.out)) _)
      replace HB := mk0 (show Below w.heap.size w w25 from by rw [hw]; exact below_set (below_set (below_set HB.out GM.out) GM.out) GM.out)
      replace X1 := mk0 (show Kd.R (Kd.int .i64) 2 w25 _ _ _ x1 from by rw [hw]; exact rFar3 X1.out E1M.out)
      replace X5 := mk0 (show Kd.R (Kd.int .i64) 2 w25 _ _ _ x5 from by rw [hw]; exact rFar3 X5.out E5M.out)
      replace X7 := mk0 (show Kd.R (Kd.int .i64) 2 w25 _ _ _ x7 from by rw [hw]; exact rFar3 X7.out E7M.out)
      clear hw hm2 fm2 hm4 fm4 hm5 fm5 hee hl0 m1 m2 m3 m4
      have E := Aside0.mk (show R = (noMsg, F) from HV.out.trans (if_pos hf0))
      have hee := cz1 BE
      have fee := fz BE 0
      have hr0 := blk_cell BR.out 0
      have hr1 := blk_cell BR.out 1
      have hr2 := blk_cell BR.out 2
      have hr3 := blk_cell BR.out 3
      have hr4 := blk_cell BR.out 4
      have hr5 := blk_cell BR.out 5
      have hr6 := blk_cell BR.out 6
      have hr7 := blk_cell BR.out 7
      have hr8 := blk_cell BR.out 8
      have hr9 := blk_cell BR.out 9
      have fr0 := fz BR 0
      have fr1 := fz BR 1
      have fr2 := fz BR 2
      have fr3 := fz BR 3
      have fr4 := fz BR 4
      have fr5 := fz BR 5
      have fr6 := fz BR 6
      have fr7 := fz BR 7
      have fr8 := fz BR 8
      have fr9 := fz BR 9
      have n1 := NRE.out
      have n2 := NER.out
      go_region
      go_wp2
      refine bodyPost_ret (results_ct rfl _ _ gr 59 #[.string (⟨#[]⟩ : ByteArray), .int .i64 0, .slice none 0 0, .string (⟨#[]⟩ : ByteArray), .slice none 0 0, .slice none 0 0, .bool false, .slice none 0 0, .int .u64 0, .int .i64 0] (0, 0) _ rfl (bkW BR) hu59 rfl (by kernel_rfl)) rfl ?_
      exact apart_zero E.out (below_drew1 (below10 HB.out GR.out))
  · have bs : decide (k2 ≤ 1048576) = false := decide_eq_false hs
    obtain ⟨kd, hkd⟩ : ∃ kd, (if k2 ≤ 1048576 then wrap64 k2 else 0) = kd := ⟨_, rfl⟩
    have HKd := mk0 hkd
    rw [if_neg hs] at hkd
    clear hs
    (go_wp2_with (first | fail))
    replace BM := mk0 (show w20.heap[gm]? = some (.cells #[.string n3, .int .i64 kd, .slice none 0 0, .string d3, .slice none 0 0, .slice none 0 0, .bool dO, .slice none 0 0, .int .u64 o2, .int .i64 0] 59 (0, 0)) from by rw [← hkd]; exact BM.out)
    clear hkd
    have hw21 : ∃ w21 : World, w20 = w21 := ⟨_, rfl⟩
    obtain ⟨w21, rfl⟩ := hw21
    clear hk2 hm1 fm1 m1 m2 bs BK
    obtain ⟨x1, f1, hx1⟩ : ∃ (x1 : List Int) (f1 : Nat), intsL ((L.filter fun x => x.f0 == 1).map flP) [] = (x1, f1) := ⟨_, _, rfl⟩
    obtain ⟨x5, f5, hx5⟩ : ∃ (x1 : List Int) (f1 : Nat), intsL ((L.filter fun x => x.f0 == 5).map flP) [] = (x1, f1) := ⟨_, _, rfl⟩
    obtain ⟨x7, f7, hx7⟩ : ∃ (x1 : List Int) (f1 : Nat), intsL ((L.filter fun x => x.f0 == 7).map flP) [] = (x1, f1) := ⟨_, _, rfl⟩
    obtain ⟨ts, ft, hts⟩ : ∃ (x1 : List ByteArray) (f1 : Nat), textsL ((L.filter fun x => x.f0 == 13).map flP) [] = (x1, f1) := ⟨_, _, rfl⟩
    replace HV := mk0 (show R = apartY k2 n3 d3 dO o2 x1 x5 x7 (ts, ft) (rowsE (rowsE (f1 : Int) (f5 : Int)) (f7 : Int)) from by rw [HV.out, hx1, hx5, hx7, hts]; rfl)
    have HX1 := mk0 hx1
    have HX5 := mk0 hx5
    have HX7 := mk0 hx7
    have HT := mk0 hts
    clear hx1 hx5 hx7 hts
    refine (rows_any A c L 1 gl ge 0 (f1 : Int) x1 _ (Kd.F_now HL.out) HLc.out H1.out H2.out BL.out BE.out (by rw [HX1.out, Int.toNat_natCast]) (Int.natCast_nonneg _)).mono ?_
    rintro en w22 ⟨A1, c1, rfl, hx, hB, hbe⟩
    have X1 := mk0 (Kd.R_mono (Kd.R_bound hx) (fun k hk => hk.2.1))
    have E1E := mk0 (blk_lt BE.out)
    have E1M := mk0 (blk_lt BM.out)
    have E1R := mk0 (blk_lt BR.out)
    have E1B := mk0 HB.out.size
    replace BR := bkBut BR hB NRE
    replace BL := bkBut BL hB NLE
    replace BM := bkBut BM hB NME
    replace HL := mk0 (F_but HL.out hB (fun k hk => Nat.ne_of_lt (Nat.lt_of_lt_of_le hk GE2.out)))
    replace HB := hbBut HB hB GE
    replace BE := mk0 hbe
    clear hB hbe hx
    replace BE := mk0 (show w22.heap[ge]? = some (.cells #[.int .i64 (f1 : Int)] 34 (0, 0)) from BE.out)
    have hl0 := cz1 BL
    go_wp2_with (first | fail)
    clear hl0
    refine (rows_any A c L 5 gl ge (f1 : Int) (f5 : Int) x5 _ (Kd.F_now HL.out) HLc.out H1.out H2.out BL.out BE.out (by rw [HX5.out, Int.toNat_natCast]) (Int.natCast_nonneg _)).mono ?_
    rintro en w23 ⟨A5, c5, rfl, hx, hB, hbe⟩
    have X5 := mk0 (Kd.R_mono (Kd.R_bound hx) (fun k hk => hk.2.1))
    have E5E := mk0 (blk_lt BE.out)
    have E5M := mk0 (blk_lt BM.out)
    have E5R := mk0 (blk_lt BR.out)
    have E5B := mk0 HB.out.size
    replace X1 := rBut X1 hB E1E
    replace BR := bkBut BR hB NRE
    replace BL := bkBut BL hB NLE
    replace BM := bkBut BM hB NME
    replace HL := mk0 (F_but HL.out hB (fun k hk => Nat.ne_of_lt (Nat.lt_of_lt_of_le hk GE2.out)))
    replace HB := hbBut HB hB GE
    replace BE := mk0 hbe
    clear hB hbe hx
    have hl0 := cz1 BL
    go_wp2_with (first | fail)
    clear hl0
    refine (rows_any A c L 7 gl ge (rowsE (f1 : Int) (f5 : Int)) (f7 : Int) x7 _ (Kd.F_now HL.out) HLc.out H1.out H2.out BL.out BE.out (by rw [HX7.out, Int.toNat_natCast]) (Int.natCast_nonneg _)).mono ?_
    rintro en w24 ⟨A7, c7, rfl, hx, hB, hbe⟩
    have X7 := mk0 (Kd.R_mono (Kd.R_bound hx) (fun k hk => hk.2.1))
    have E7E := mk0 (blk_lt BE.out)
    have E7M := mk0 (blk_lt BM.out)
    have E7R := mk0 (blk_lt BR.out)
    have E7B := mk0 HB.out.size
    replace X1 := rBut X1 hB E1E
    replace X5 := rBut X5 hB E5E
    replace BR := bkBut BR hB NRE
    replace BL := bkBut BL hB NLE
    replace BM := bkBut BM hB NME
    replace HL := mk0 (F_but HL.out hB (fun k hk => Nat.ne_of_lt (Nat.lt_of_lt_of_le hk GE2.out)))
    replace HB := hbBut HB hB GE
    replace BE := mk0 hbe
    clear hB hbe hx
    have hm2 := blk_cell BM.out 2
    have fm2 := fz BM 2
    have hm4 := blk_cell BM.out 4
    have fm4 := fz BM 4
    have hm5 := blk_cell BM.out 5
    have fm5 := fz BM 5
    have hee := cz1 BE
    have hl0 := cz1 BL
    have m1 := NEM.out
    have m2 := NME.out
    have m3 := NLM.out
    have m4 := NML.out
    obtain ⟨F, hF⟩ : ∃ F, rowsE (rowsE (f1 : Int) (f5 : Int)) (f7 : Int) = F := ⟨_, rfl⟩
    rw [hF] at HV BE hee
    clear hF
    by_cases hf0 : F = 0
    · have bF : (F == 0) = true := beq_iff_eq.2 hf0
      go_wp2_with (first | fail)
      obtain ⟨w25, hw⟩ : ∃ wb, wb = ((w24.setCell ⟨gm, 2, none⟩ (.slice A1 x1.length c1)).setCell ⟨gm, 4, none⟩ (.slice A5 x5.length c5)).setCell ⟨gm, 5, none⟩ (.slice A7 x7.length c7) := ⟨_, rfl⟩
      rw [← hw]
      replace BR := mk0 (show w25.heap[gr]? = some _ from by rw [hw]; exact bkW BR)
      replace BE := mk0 (show w25.heap[ge]? = some _ from by rw [hw]; exact bkW BE)
      replace BM := mk0 (show w25.heap[gm]? = some (.cells #[.string n3, .int .i64 kd, .slice A1 x1.length c1, .string d3, .slice A5 x5.length c5, .slice A7 x7.length c7, .bool dO, .slice none 0 0, .int .u64 o2, .int .i64 0] 59 (0, 0)) from by rw [hw]; exact bkW BM)
      replace HL := mk0 (show Kd.F k95 w25 (fun k => k < w2.heap.size) A _ _ from by rw [hw]; exact Kd.F_far (Kd.F_far (Kd.F_far HL.out (p := ⟨gm, 2, none⟩) (fun k hk => Nat.ne_of_lt (Nat.lt_of_lt_of_le hk GM2.out)) _) (p := ⟨gm, 4, none⟩) (fun k hk => Nat.ne_of_lt (Nat.lt_of_lt_of_le hk GM2.out)) _) (p := ⟨gm, 5, none⟩) (fun k hk => Nat.ne_of_lt (Nat.lt_of_lt_of_le hk GM2.out)) _)
      replace HB := mk0 (show Below w.heap.size w w25 from by rw [hw]; exact below_set (below_set (below_set HB.out GM.out) GM.out) GM.out)
      replace X1 := mk0 (show Kd.R (Kd.int .i64) 2 w25 _ _ _ x1 from by rw [hw]; exact rFar3 X1.out E1M.out)
      replace X5 := mk0 (show Kd.R (Kd.int .i64) 2 w25 _ _ _ x5 from by rw [hw]; exact rFar3 X5.out E5M.out)
      replace X7 := mk0 (show Kd.R (Kd.int .i64) 2 w25 _ _ _ x7 from by rw [hw]; exact rFar3 X7.out E7M.out)
      clear hw hm2 fm2 hm4 fm4 hm5 fm5 hee hl0 m1 m2 m3 m4
      have E0 := Aside0.mk (show R = (if ft ≠ 0 then (noMsg, (ft : Int)) else apartX k2 n3 d3 dO o2 x1 x5 x7 ts kd) from by rw [HV.out, ← HKd.out]; exact if_neg (fun h => h hf0))
      clear hf0 HV HKd
      refine (pack_Texts_s.calls A c L 13 ts (ft : Int) _ (Kd.F_now HL.out) HLc.out ((if_pos H1.out).trans (by rw [HT.out]))).mono ?_
      rintro en w26 ⟨v, rfl, hx, hb⟩
      obtain ⟨AT, cT, rfl⟩ := Kd.R_slice hx
      have XT := mk0 (Kd.R_mono (Kd.R_bound hx) (fun k hk => hk.2.1))
      have ETM := mk0 (blk_lt BM.out)
      have ETE := mk0 (blk_lt BE.out)
      have ETR := mk0 (blk_lt BR.out)
      have ETB := mk0 HB.out.size
      replace X1 := mk0 (Kd.R_below X1.out hb)
      replace X5 := mk0 (Kd.R_below X5.out hb)
      replace X7 := mk0 (Kd.R_below X7.out hb)
      replace BR := bkS BR hb
      replace BE := bkS BE hb
      replace BM := bkS BM hb
      replace HB := hbS HB hb
      clear hb hx HL BL
      have hm7 := blk_cell BM.out 7
      have fm7 := fz BM 7
      have hee := cz1 BE
      have fee := fz BE 0
      have m1 := NEM.out
      have m2 := NME.out
      by_cases hft : ft ≠ 0
      · have bT : ((ft : Int) != 0) = true := bne_iff_ne.2 (by omega)
        have E := Aside0.mk (show R = (noMsg, (ft : Int)) from E0.out.trans (if_pos hft))
        clear hft
        go_wp2_with (first | fail)
        obtain ⟨w27, hw⟩ : ∃ wb, wb = (w26.setCell ⟨gm, 7, none⟩ (.slice AT ts.length cT)).setCell ⟨ge, 0, none⟩ (.int .i64 (ft : Int)) := ⟨_, rfl⟩
        rw [← hw]
        replace BR := mk0 (show w27.heap[gr]? = some _ from by rw [hw]; exact bkW BR)
        replace BE := mk0 (show w27.heap[ge]? = some (.cells #[.int .i64 (ft : Int)] 34 (0, 0)) from by rw [hw]; exact bkW BE)
        replace HB := mk0 (show Below w.heap.size w w27 from by rw [hw]; exact below_set (below_set HB.out GM.out) GE.out)
        clear hw hee fee hm7 fm7 m1 m2
        have hee := cz1 BE
        have fee := fz BE 0
        have hr0 := blk_cell BR.out 0
        have hr1 := blk_cell BR.out 1
        have hr2 := blk_cell BR.out 2
        have hr3 := blk_cell BR.out 3
        have hr4 := blk_cell BR.out 4
        have hr5 := blk_cell BR.out 5
        have hr6 := blk_cell BR.out 6
        have hr7 := blk_cell BR.out 7
        have hr8 := blk_cell BR.out 8
        have hr9 := blk_cell BR.out 9
        have fr0 := fz BR 0
        have fr1 := fz BR 1
        have fr2 := fz BR 2
        have fr3 := fz BR 3
        have fr4 := fz BR 4
        have fr5 := fz BR 5
        have fr6 := fz BR 6
        have fr7 := fz BR 7
        have fr8 := fz BR 8
        have fr9 := fz BR 9
        have n1 := NRE.out
        have n2 := NER.out
        go_region
        go_wp2
        refine bodyPost_ret (results_ct rfl _ _ gr 59 #[.string (⟨#[]⟩ : ByteArray), .int .i64 0, .slice none 0 0, .string (⟨#[]⟩ : ByteArray), .slice none 0 0, .slice none 0 0, .bool false, .slice none 0 0, .int .u64 0, .int .i64 0] (0, 0) _ rfl (bkW BR) hu59 rfl (by kernel_rfl)) rfl ?_
        exact apart_zero E.out (below_drew1 (below10 HB.out GR.out))
      · have bT : ((ft : Int) != 0) = false := bne_eq_false_iff_eq.2 (by omega)
        have E := Aside0.mk (show R = apartX k2 n3 d3 dO o2 x1 x5 x7 ts kd from E0.out.trans (if_neg hft))
        have hz : ft = 0 := by omega
        subst hz
        clear hft E0
        have hm8 := blk_cell BM.out 8
        have hm0 := blk_cell BM.out 0
        by_cases hw1 : 1 < o2
        · have bw : decide (1 < o2) = true := decide_eq_true hw1
          have E2 := Aside0.mk (show R = (noMsg, 19) from E.out.trans (if_pos hw1))
          clear hw1
          have hr0 := blk_cell BR.out 0
          have hr1 := blk_cell BR.out 1
          have hr2 := blk_cell BR.out 2
          have hr3 := blk_cell BR.out 3
          have hr4 := blk_cell BR.out 4
          have hr5 := blk_cell BR.out 5
          have hr6 := blk_cell BR.out 6
          have hr7 := blk_cell BR.out 7
          have hr8 := blk_cell BR.out 8
          have hr9 := blk_cell BR.out 9
          have fr0 := fz BR 0
          have fr1 := fz BR 1
          have fr2 := fz BR 2
          have fr3 := fz BR 3
          have fr4 := fz BR 4
          have fr5 := fz BR 5
          have fr6 := fz BR 6
          have fr7 := fz BR 7
          have fr8 := fz BR 8
          have fr9 := fz BR 9
          have n1 := NRE.out
          have n2 := NER.out
          have n3_ := NRM.out
          have n4 := NMR.out
          go_wp2_with (first | fail)
          refine bodyPost_ret (results_ct rfl _ _ gr 59 #[.string (⟨#[]⟩ : ByteArray), .int .i64 0, .slice none 0 0, .string (⟨#[]⟩ : ByteArray), .slice none 0 0, .slice none 0 0, .bool false, .slice none 0 0, .int .u64 0, .int .i64 0] (0, 0) _ rfl (bkW BR) hu59 rfl (by kernel_rfl)) rfl ?_
          exact apart_zero E2.out (below10 (below_set (below_set HB.out GM.out) GE.out) GR.out)
        · have bw : decide (1 < o2) = false := decide_eq_false hw1
          have E2 := Aside0.mk (show R = _ from E.out.trans (if_neg hw1))
          clear hw1 E
          go_wp2_with (first | fail)
          refine (tensor_Name_s.calls n3 (nameR n3) _ (if_pos HN3.out)).mono ?_
          rintro en w27 ⟨rfl, ⟨nd, hw⟩⟩
          replace BR := mk0 (show w27.heap[gr]? = some _ from by rw [hw]; exact bkW BR)
          replace BE := mk0 (show w27.heap[ge]? = some (.cells #[.int .i64 0] 34 (0, 0)) from by rw [hw]; exact bkW BE)
          replace BM := mk0 (show w27.heap[gm]? = some (.cells #[.string n3, .int .i64 kd, .slice A1 x1.length c1, .string d3, .slice A5 x5.length c5, .slice A7 x7.length c7, .bool dO, .slice AT ts.length cT, .int .u64 o2, .int .i64 0] 59 (0, 0)) from by rw [hw]; exact bkW BM)
          replace HB := mk0 (show Below w.heap.size w w27 from by rw [hw]; exact pw_below_drewN (below_set (below_set HB.out GM.out) GE.out) nd)
          replace X1 := mk0 (show Kd.R (Kd.int .i64) 2 w27 _ _ _ x1 from by rw [hw]; exact rFar2 X1.out E1M.out E1E.out nd)
          replace X5 := mk0 (show Kd.R (Kd.int .i64) 2 w27 _ _ _ x5 from by rw [hw]; exact rFar2 X5.out E5M.out E5E.out nd)
          replace X7 := mk0 (show Kd.R (Kd.int .i64) 2 w27 _ _ _ x7 from by rw [hw]; exact rFar2 X7.out E7M.out E7E.out nd)
          replace XT := mk0 (show Kd.R Kd.string 9 w27 _ _ _ ts from by rw [hw]; exact rFar2 XT.out ETM.out ETE.out nd)
          clear hw hm7 fm7 hee fee m1 m2 hm8 hm0
          by_cases hn : nameR n3 = false
          · rw [hn]
            have E3 := Aside0.mk (show R = (noMsg, 8) from E2.out.trans (if_pos hn))
            clear hn
            have hr0 := blk_cell BR.out 0
            have hr1 := blk_cell BR.out 1
            have hr2 := blk_cell BR.out 2
            have hr3 := blk_cell BR.out 3
            have hr4 := blk_cell BR.out 4
            have hr5 := blk_cell BR.out 5
            have hr6 := blk_cell BR.out 6
            have hr7 := blk_cell BR.out 7
            have hr8 := blk_cell BR.out 8
            have hr9 := blk_cell BR.out 9
            have fr0 := fz BR 0
            have fr1 := fz BR 1
            have fr2 := fz BR 2
            have fr3 := fz BR 3
            have fr4 := fz BR 4
            have fr5 := fz BR 5
            have fr6 := fz BR 6
            have fr7 := fz BR 7
            have fr8 := fz BR 8
            have fr9 := fz BR 9
            go_wp2_with (first | fail)
            refine bodyPost_ret (results_ct rfl _ _ gr 59 #[.string (⟨#[]⟩ : ByteArray), .int .i64 0, .slice none 0 0, .string (⟨#[]⟩ : ByteArray), .slice none 0 0, .slice none 0 0, .bool false, .slice none 0 0, .int .u64 0, .int .i64 0] (0, 0) _ rfl (bkW BR) hu59 rfl (by kernel_rfl)) rfl ?_
            exact apart_zero E3.out (below10 HB.out GR.out)
          · have hn2 : nameR n3 = true := by simpa using hn
            have E3 := Aside0.mk (show R = _ from E2.out.trans (if_neg hn))
            rw [hn2]
            clear hn hn2 E2
            have hm1 := blk_cell BM.out 1
            go_wp2_with (first | fail)
            refine (kind_Kind_Size.calls kd (sizeK kd) _ rfl).mono ?_
            rintro en w28 ⟨rfl, hb⟩
            replace BR := bkS BR hb
            replace BM := bkS BM hb
            replace BE := bkS BE hb
            replace X1 := mk0 (Kd.R_below X1.out hb)
            replace X5 := mk0 (Kd.R_below X5.out hb)
            replace X7 := mk0 (Kd.R_below X7.out hb)
            replace XT := mk0 (Kd.R_below XT.out hb)
            replace HB := hbS HB hb
            clear hb hm1
            by_cases hs : sizeK kd = 0
            · have bs : (sizeK kd == 0) = true := beq_iff_eq.2 hs
              have E4 := Aside0.mk (show R = (noMsg, 5) from E3.out.trans (if_pos hs))
              clear hs
              have hr0 := blk_cell BR.out 0
              have hr1 := blk_cell BR.out 1
              have hr2 := blk_cell BR.out 2
              have hr3 := blk_cell BR.out 3
              have hr4 := blk_cell BR.out 4
              have hr5 := blk_cell BR.out 5
              have hr6 := blk_cell BR.out 6
              have hr7 := blk_cell BR.out 7
              have hr8 := blk_cell BR.out 8
              have hr9 := blk_cell BR.out 9
              have fr0 := fz BR 0
              have fr1 := fz BR 1
              have fr2 := fz BR 2
              have fr3 := fz BR 3
              have fr4 := fz BR 4
              have fr5 := fz BR 5
              have fr6 := fz BR 6
              have fr7 := fz BR 7
              have fr8 := fz BR 8
              have fr9 := fz BR 9
              go_wp2_with (first | fail)
              refine bodyPost_ret (results_ct rfl _ _ gr 59 #[.string (⟨#[]⟩ : ByteArray), .int .i64 0, .slice none 0 0, .string (⟨#[]⟩ : ByteArray), .slice none 0 0, .slice none 0 0, .bool false, .slice none 0 0, .int .u64 0, .int .i64 0] (0, 0) _ rfl (bkW BR) hu59 rfl (by kernel_rfl)) rfl ?_
              exact apart_zero E4.out (below10 HB.out GR.out)
            · have bs : (sizeK kd == 0) = false := beq_eq_false_iff_ne.2 hs
              have E4 := Aside0.mk (show R = _ from E3.out.trans (if_neg hs))
              clear hs E3
              have hm2 := blk_cell BM.out 2
              go_wp2_with (first | fail)
              refine (shape_Size_s.calls A1 c1 x1 (sizeS x1).1 (sizeS x1).2 _ (Kd.R_reads' X1.out).2.2 (Kd.R_reads' X1.out).2.1 rfl).mono ?_
              rintro en w29 ⟨rfl, hb⟩
              replace BR := bkS BR hb
              replace BM := bkS BM hb
              replace BE := bkS BE hb
              replace X1 := mk0 (Kd.R_below X1.out hb)
              replace X5 := mk0 (Kd.R_below X5.out hb)
              replace X7 := mk0 (Kd.R_below X7.out hb)
              replace XT := mk0 (Kd.R_below XT.out hb)
              replace HB := hbS HB hb
              clear hb hm2
              have hm9 := blk_cell BM.out 9
              have fm9 := fz BM 9
              have hee := cz1 BE
              have fee := fz BE 0
              have m1 := NEM.out
              have m2 := NME.out
              obtain ⟨z1, hz1⟩ : ∃ z, (sizeS x1).1 = z := ⟨_, rfl⟩
              obtain ⟨z2, hz2⟩ : ∃ z, (sizeS x1).2 = z := ⟨_, rfl⟩
              rw [hz1, hz2] at E4 ⊢
              clear hz1 hz2
              go_wp2_with (first | fail)
              obtain ⟨w30, hw⟩ : ∃ wb, wb = (w29.setCell ⟨gm, 9, none⟩ (.int .i64 z1)).setCell ⟨ge, 0, none⟩ (.int .i64 z2) := ⟨_, rfl⟩
              rw [← hw]
              replace BR := mk0 (show w30.heap[gr]? = some _ from by rw [hw]; exact bkW BR)
              replace BE := mk0 (show w30.heap[ge]? = some (.cells #[.int .i64 z2] 34 (0, 0)) from by rw [hw]; exact bkW BE)
              replace BM := mk0 (show w30.heap[gm]? = some (.cells #[.string n3, .int .i64 kd, .slice A1 x1.length c1, .string d3, .slice A5 x5.length c5, .slice A7 x7.length c7, .bool dO, .slice AT ts.length cT, .int .u64 o2, .int .i64 z1] 59 (0, 0)) from by rw [hw]; exact bkW BM)
              replace HB := mk0 (show Below w.heap.size w w30 from by rw [hw]; exact below_set (below_set HB.out GM.out) GE.out)
              replace X1 := mk0 (show Kd.R (Kd.int .i64) 2 w30 _ _ _ x1 from by rw [hw]; exact rFar2' X1.out E1M.out E1E.out)
              replace X5 := mk0 (show Kd.R (Kd.int .i64) 2 w30 _ _ _ x5 from by rw [hw]; exact rFar2' X5.out E5M.out E5E.out)
              replace X7 := mk0 (show Kd.R (Kd.int .i64) 2 w30 _ _ _ x7 from by rw [hw]; exact rFar2' X7.out E7M.out E7E.out)
              replace XT := mk0 (show Kd.R Kd.string 9 w30 _ _ _ ts from by rw [hw]; exact rFar2' XT.out ETM.out ETE.out)
              clear hw hm9 fm9 hee fee m1 m2
              have hee := cz1 BE
              have fee := fz BE 0
              have hr0 := blk_cell BR.out 0
              have hr1 := blk_cell BR.out 1
              have hr2 := blk_cell BR.out 2
              have hr3 := blk_cell BR.out 3
              have hr4 := blk_cell BR.out 4
              have hr5 := blk_cell BR.out 5
              have hr6 := blk_cell BR.out 6
              have hr7 := blk_cell BR.out 7
              have hr8 := blk_cell BR.out 8
              have hr9 := blk_cell BR.out 9
              have fr0 := fz BR 0
              have fr1 := fz BR 1
              have fr2 := fz BR 2
              have fr3 := fz BR 3
              have fr4 := fz BR 4
              have fr5 := fz BR 5
              have fr6 := fz BR 6
              have fr7 := fz BR 7
              have fr8 := fz BR 8
              have fr9 := fz BR 9
              have hm0 := blk_cell BM.out 0
              have hm1 := blk_cell BM.out 1
              have hm2 := blk_cell BM.out 2
              have hm3 := blk_cell BM.out 3
              have hm4 := blk_cell BM.out 4
              have hm5 := blk_cell BM.out 5
              have hm6 := blk_cell BM.out 6
              have hm7 := blk_cell BM.out 7
              have hm8 := blk_cell BM.out 8
              have hm9 := blk_cell BM.out 9
              have n1 := NRE.out
              have n2 := NER.out
              have n4 := NRM.out
              have n5 := NMR.out
              go_region
              go_wp2
              refine bodyPost_ret (results_ct rfl _ _ gr 59 #[.string n3, .int .i64 kd, .slice A1 x1.length c1, .string d3, .slice A5 x5.length c5, .slice A7 x7.length c7, .bool dO, .slice AT ts.length cT, .int .u64 o2, .int .i64 z1] (0, 0) _ rfl (blk10 BR.out) hu59 rfl (by kernel_rfl)) rfl ?_
              rw [E4.out]
              exact ⟨A1, c1, A5, c5, A7, c7, AT, cT, rfl, rEnd X1.out E1R.out E1B.out, rEnd X5.out E5R.out E5B.out, rEnd X7.out E7R.out E7B.out, rEnd XT.out ETR.out ETB.out, below_drew1 (below10 HB.out GR.out)⟩
    · have bF : (F == 0) = false := beq_eq_false_iff_ne.2 hf0
      have bG : (F != 0) = true := bne_iff_ne.2 hf0
      go_wp2_with (first | fail)
      obtain ⟨w25, hw⟩ : ∃ wb, wb = ((w24.setCell ⟨gm, 2, none⟩ (.slice A1 x1.length c1)).setCell ⟨gm, 4, none⟩ (.slice A5 x5.length c5)).setCell ⟨gm, 5, none⟩ (.slice A7 x7.length c7) := ⟨_, rfl⟩
      rw [← hw]
      replace BR := mk0 (show w25.heap[gr]? = some _ from by rw [hw]; exact bkW BR)
      replace BE := mk0 (show w25.heap[ge]? = some _ from by rw [hw]; exact bkW BE)
      replace BM := mk0 (show w25.heap[gm]? = some (.cells #[.string n3, .int .i64 kd, .slice A1 x1.length c1, .string d3, .slice A5 x5.length c5, .slice A7 x7.length c7, .bool dO, .slice none 0 0, .int .u64 o2, .int .i64 0] 59 (0, 0)) from by rw [hw]; exact bkW BM)
      replace HL := mk0 (show Kd.F k95 w25 (fun k => k < w2.heap.size) A _ _ from by rw [hw]; exact Kd.F_far (Kd.F_far (Kd.F_far HL.out (p := ⟨gm, 2, none⟩) (fun k hk => Nat.ne_of_lt (Nat.lt_of_lt_of_le hk GM2.out)) _) (p := ⟨gm, 4, none⟩) (fun k hk => Nat.ne_of_lt (Nat.lt_of_lt_of_le hk GM2.out)) _) (p := ⟨gm, 5, none⟩) (fun k hk => Nat.ne_of_lt (Nat.lt_of_lt_of_le hk GM2.out)) _)
      replace HB := mk0 (show Below w.heap.size w w25 from by rw [hw]; exact below_set (below_set (below_set HB.out GM.out) GM.out) GM.out)
      replace X1 := mk0 (show Kd.R (Kd.int .i64) 2 w25 _ _ _ x1 from by rw [hw]; exact rFar3 X1.out E1M.out)
      replace X5 := mk0 (show Kd.R (Kd.int .i64) 2 w25 _ _ _ x5 from by rw [hw]; exact rFar3 X5.out E5M.out)
      replace X7 := mk0 (show Kd.R (Kd.int .i64) 2 w25 _ _ _ x7 from by rw [hw]; exact rFar3 X7.out E7M.out)
      clear hw hm2 fm2 hm4 fm4 hm5 fm5 hee hl0 m1 m2 m3 m4
      have E := Aside0.mk (show R = (noMsg, F) from HV.out.trans (if_pos hf0))
      have hee := cz1 BE
      have fee := fz BE 0
      have hr0 := blk_cell BR.out 0
      have hr1 := blk_cell BR.out 1
      have hr2 := blk_cell BR.out 2
      have hr3 := blk_cell BR.out 3
      have hr4 := blk_cell BR.out 4
      have hr5 := blk_cell BR.out 5
      have hr6 := blk_cell BR.out 6
      have hr7 := blk_cell BR.out 7
      have hr8 := blk_cell BR.out 8
      have hr9 := blk_cell BR.out 9
      have fr0 := fz BR 0
      have fr1 := fz BR 1
      have fr2 := fz BR 2
      have fr3 := fz BR 3
      have fr4 := fz BR 4
      have fr5 := fz BR 5
      have fr6 := fz BR 6
      have fr7 := fz BR 7
      have fr8 := fz BR 8
      have fr9 := fz BR 9
      have n1 := NRE.out
      have n2 := NER.out
      go_region
      go_wp2
      refine bodyPost_ret (results_ct rfl _ _ gr 59 #[.string (⟨#[]⟩ : ByteArray), .int .i64 0, .slice none 0 0, .string (⟨#[]⟩ : ByteArray), .slice none 0 0, .slice none 0 0, .bool false, .slice none 0 0, .int .u64 0, .int .i64 0] (0, 0) _ rfl (bkW BR) hu59 rfl (by kernel_rfl)) rfl ?_
      exact apart_zero E.out (below_drew1 (below10 HB.out GR.out))
end Go.Proofs.YtgmggompdidcoaaGreatDoor.X
