import Derived.Test.YtpojamikfcmnoaaMGaussBack0
import Derived.Test.YtpojamikfcmnoaaMGaussBack4
import Derived.Test.YtpojamikfcmnoaaMGaussBack2
import Derived.Test.YtpojamikfcmnoaaMGaussBack1
import Derived.Test.YtpojamikfcmnoaaMGaussBack3
-- by xprint.py, a program of this session, over the kit's print.py
namespace Go.Proofs.Ytpojamikfcmnoaa.X
open Go.RowKit Go.Proofs.YtpojamikfcmnoaaW.PrintWords Go.Proofs.YtpojamikfcmnoaaW.PrintLast Go.Proofs.YtpojamikfcmnoaaW.PrintMore
attribute [local go_sem] max2_int min2_int max_two min_two max_three min_three max_four min_four   -- for this text's walks alone
set_option linter.unusedVariables false
set_option linter.unusedSimpArgs false

def agateref06_bits_s.f (a0 : Int) : Option Int := if -1048576 ≤ a0 ∧ a0 ≤ 1048576 then some (floatOfInt .f32 a0 : Int) else none
theorem ref06bits_l0 (d : Nat) : ∀ (k x e x3 : Nat), 8388608 ≤ x * 2 ^ d → x * 2 ^ d < 16777216 → d < k → d < e → e ≤ 150 → x3 ≤ 2147483648 → agateref06_bits.l0 k (x : Int) (x3 : Int) (e : Int) = some ((x3 + (e - d) * 8388608 + (x * 2 ^ d - 8388608) : Nat) : Int) := by
  induction d with
  | zero =>
    intro k x e x3 h0 h1 hk he h150 h3
    obtain ⟨k, rfl⟩ : ∃ m, k = m + 1 := ⟨k - 1, by omega⟩
    rw [Nat.pow_zero, Nat.mul_one] at h0 h1
    rw [agateref06_bits.l0, if_neg (by omega), Nat.pow_zero, Nat.mul_one, wrap64_id (by omega) (by omega)]
    exact congrArg some (by omega)
  | succ d ih =>
    intro k x e x3 h0 h1 hk he h150 h3
    obtain ⟨k, rfl⟩ : ∃ m, k = m + 1 := ⟨k - 1, by omega⟩
    have e1 : x * 2 ^ (d + 1) = x * 2 * 2 ^ d := by rw [Nat.pow_succ, Nat.mul_comm (2 ^ d), Nat.mul_assoc]
    rw [e1] at h0 h1 ⊢
    have hx : x * 2 ≤ x * 2 * 2 ^ d := Nat.le_mul_of_pos_right _ (Nat.two_pow_pos _)
    rw [agateref06_bits.l0, if_pos (by omega), wrap64_id (by omega) (by omega), show ((e : Int) - 1) % 4294967296 = ((e - 1 : Nat) : Int) by omega, show (x : Int) * 2 = ((x * 2 : Nat) : Int) by omega, ih k (x * 2) (e - 1) x3 h0 h1 (by omega) (by omega) (by omega) h3]
    exact congrArg (fun n : Nat => some (n : Int)) (by omega)
theorem ref06bits_word (n : Int) (h : n ≠ 0) (h1 : n.natAbs ≤ 1048576) (x3 : Nat) (h3 : x3 = if n < 0 then 2147483648 else 0) : agateref06_bits.l0 25 (n.natAbs : Int) (x3 : Int) 150 = some (floatOfInt .f32 n : Int) := by
  have hk : n.natAbs ≠ 0 := by omega
  have hl : n.natAbs.log2 ≤ 20 := by
    have := (Nat.log2_lt hk).2 (show n.natAbs < 2 ^ 21 by omega); omega
  have hL := (Nat.log2_eq_iff hk).1 rfl
  have u1 : n.natAbs * 2 ^ (23 - n.natAbs.log2) < 16777216 := by
    have h2 : n.natAbs * 2 ^ (23 - n.natAbs.log2) < 2 ^ (n.natAbs.log2 + 1) * 2 ^ (23 - n.natAbs.log2) := (Nat.mul_lt_mul_right (Nat.two_pow_pos _)).2 hL.2
    rw [← Nat.pow_add, show n.natAbs.log2 + 1 + (23 - n.natAbs.log2) = 24 by omega] at h2
    exact h2
  have u0 : 8388608 ≤ n.natAbs * 2 ^ (23 - n.natAbs.log2) := by
    have h2 : 2 ^ n.natAbs.log2 * 2 ^ (23 - n.natAbs.log2) ≤ n.natAbs * 2 ^ (23 - n.natAbs.log2) := Nat.mul_le_mul_right _ hL.1
    rw [← Nat.pow_add, show n.natAbs.log2 + (23 - n.natAbs.log2) = 23 by omega] at h2
    exact h2
  have := ref06bits_l0 (23 - n.natAbs.log2) 25 n.natAbs 150 x3 u0 u1 (by omega) (by omega) (by omega) (by rw [h3]; split <;> omega)
  refine this.trans ?_
  rw [F32_word n h (by omega), ← h3]
  exact congrArg (fun n : Nat => some (n : Int)) (by omega)
theorem agateref06_bits_s.ev (a0 : Int) (r) (h : agateref06_bits_s.f a0 = some r) : ∃ k, agateref06_bits.f k a0 = some r := by
  unfold agateref06_bits_s.f at h
  split at h
  · rename_i hs
    rw [← h]
    refine ⟨26, ?_⟩
    unfold agateref06_bits.f
    by_cases h0 : a0 = 0
    · rw [if_pos h0, h0]; rfl
    · rw [if_neg h0]
      by_cases h1 : a0 < 0
      · rw [if_pos h1, wrap64_id (by omega) (by omega), agateref06_bits.j0, show -a0 = (a0.natAbs : Int) by omega]
        exact ref06bits_word a0 h0 (by omega) 2147483648 (by rw [if_pos h1])
      · rw [if_neg h1, agateref06_bits.j0]
        have := ref06bits_word a0 h0 (by omega) 0 (by rw [if_neg h1])
        rwa [show (a0.natAbs : Int) = a0 by omega] at this
  · cases h

set_option maxHeartbeats 1000000 in
theorem agateref06_bits_s.calls (a0 : Int) (r : Int) (w : World) (h : agateref06_bits_s.f a0 = some r) :
    Calls Try.prog 58 #[.int .i64 a0] w fun e w' => e = .returned (.int .u32 r) ∧ Drawn0 w w' := by
  obtain ⟨k, hk⟩ := agateref06_bits_s.ev a0 _ h
  exact agateref06_bits.calls k a0 r w hk

end Go.Proofs.Ytpojamikfcmnoaa.X
-- by xprint.py, a program of this session, over the kit's print.py
namespace Go.Proofs.Ytpojamikfcmnoaa.X
open Go.RowKit Go.Proofs.YtpojamikfcmnoaaW.PrintWords Go.Proofs.YtpojamikfcmnoaaW.PrintLast Go.Proofs.YtpojamikfcmnoaaW.PrintMore
attribute [local go_sem] max2_int min2_int max_two min_two max_three min_three max_four min_four   -- for this text's walks alone
set_option linter.unusedVariables false
set_option linter.unusedSimpArgs false

/-! ### agateref06_May: function 52 -/
def agateref06_May.f (a0_0 : Int) (a0_1 : Int) : Option (Bool) := if a0_0 ≥ (-1048576) then (if a0_0 ≤ 1048576 then (if a0_1 ≥ (-1048576) then (some (decide (a0_1 ≤ 1048576))) else (some false)) else (some false)) else (some false)
set_option maxHeartbeats 8000000 in
set_option maxRecDepth 100000 in
theorem agateref06_May.calls (a0_0 : Int) (a0_1 : Int) (r : Bool) (w : World) (h : agateref06_May.f a0_0 a0_1 = some r) :
    Calls Try.prog 52 #[.agg #[.int .i64 a0_0, .int .i64 a0_1]] w fun e w' => e = .returned (.bool r) ∧ Below w.heap.size w w' := by
  have hu23 := Try.underlying23
  have HB := Aside0.mk (Below.refl w.heap.size w)
  have H : (if a0_0 ≥ (-1048576) then (if a0_0 ≤ 1048576 then (if a0_1 ≥ (-1048576) then (some (decide (a0_1 ≤ 1048576))) else (some false)) else (some false)) else (some false)) = some r := h
  clear h
  by_cases c2 : a0_0 ≥ (-1048576)
  · rw [if_pos c2] at H
    have c2b0 : decide ((-1048576) ≤ a0_0) = true := decide_eq_true c2
    clear c2
    by_cases c3 : a0_0 ≤ 1048576
    · rw [if_pos c3] at H
      have c3b0 : decide (a0_0 ≤ 1048576) = true := decide_eq_true c3
      clear c3
      by_cases c4 : a0_1 ≥ (-1048576)
      · rw [if_pos c4] at H
        have c4b0 : decide ((-1048576) ≤ a0_1) = true := decide_eq_true c4
        clear c4
        obtain rfl := Option.some.inj H
        go_enter Try.func52, Try.ntmps52
        go_wp2_with (first | ((with_reducible refine gate_dst (N := 1) rfl ?_); refine box_event ?hg (N := 1) ?hd (cs := #[.int .i64 a0_0, .int .i64 a0_1]) (t := 23) ?hr ?_; (case hd => rfl); (case hg => rfl); (case hr => first | (go_simp; done) | (go_simp; rfl)); intro gb101 hg w5 hbox hb; have n0_ := Aside0.mk (below_step (by repeat (first | (with_reducible first | exact HB.out | apply below_alloc | apply pw_below_drewN | apply below_drew1) | exact HB.out)) hb); have n1_ := Aside0.mk (hbox); have n2_ := Aside0.mk ((by rw [hg]; exact (below_size (by repeat (first | (with_reducible first | exact HB.out | apply below_alloc | apply pw_below_drewN | apply below_drew1) | exact HB.out))) : w.heap.size ≤ gb101)); have n3_ := Aside0.mk ((by rw [hg]; exact (below_size (by repeat (first | (with_reducible first | exact HB.out | apply below_alloc | apply pw_below_drewN | apply below_drew1) | exact HB.out))) : w.heap.size ≤ gb101)); clear HB; have HB := n0_; have BK101 := n1_; have GW101 := n2_; have GE101 := n3_; clear n0_ n1_ n2_ n3_; clear hb hbox hg; have hcz6_0 : w5.cell? ⟨gb101, 0, none⟩ = some (.int .i64 a0_0) := (blk_cell BK101.out 0).trans rfl; have hcz6_1 : w5.cell? ⟨gb101, 1, none⟩ = some (.int .i64 a0_1) := (blk_cell BK101.out 1).trans rfl; have hfz6_0 := blk_frozen BK101.out 0; have hfz6_1 := blk_frozen BK101.out 1))
        go_ret
        exact ⟨by first | rfl | (simp [errW_none, errW_some] <;> rfl) | (simp [*, errW_none, errW_some] <;> rfl), by repeat (first | (with_reducible first | exact HB.out | apply below_alloc | apply pw_below_drewN | apply below_drew1 | refine below_set ?_ GE101.out) | exact HB.out)⟩
      · rw [if_neg c4] at H
        have c4b0 : decide ((-1048576) ≤ a0_1) = false := decide_eq_false c4
        clear c4
        obtain rfl := Option.some.inj H
        go_enter Try.func52, Try.ntmps52
        go_wp2_with (first | ((with_reducible refine gate_dst (N := 1) rfl ?_); refine box_event ?hg (N := 1) ?hd (cs := #[.int .i64 a0_0, .int .i64 a0_1]) (t := 23) ?hr ?_; (case hd => rfl); (case hg => rfl); (case hr => first | (go_simp; done) | (go_simp; rfl)); intro gb101 hg w7 hbox hb; have n0_ := Aside0.mk (below_step (by repeat (first | (with_reducible first | exact HB.out | apply below_alloc | apply pw_below_drewN | apply below_drew1) | exact HB.out)) hb); have n1_ := Aside0.mk (hbox); have n2_ := Aside0.mk ((by rw [hg]; exact (below_size (by repeat (first | (with_reducible first | exact HB.out | apply below_alloc | apply pw_below_drewN | apply below_drew1) | exact HB.out))) : w.heap.size ≤ gb101)); have n3_ := Aside0.mk ((by rw [hg]; exact (below_size (by repeat (first | (with_reducible first | exact HB.out | apply below_alloc | apply pw_below_drewN | apply below_drew1) | exact HB.out))) : w.heap.size ≤ gb101)); clear HB; have HB := n0_; have BK101 := n1_; have GW101 := n2_; have GE101 := n3_; clear n0_ n1_ n2_ n3_; clear hb hbox hg; have hcz8_0 : w7.cell? ⟨gb101, 0, none⟩ = some (.int .i64 a0_0) := (blk_cell BK101.out 0).trans rfl; have hcz8_1 : w7.cell? ⟨gb101, 1, none⟩ = some (.int .i64 a0_1) := (blk_cell BK101.out 1).trans rfl; have hfz8_0 := blk_frozen BK101.out 0; have hfz8_1 := blk_frozen BK101.out 1))
        go_ret
        exact ⟨by first | rfl | (simp [errW_none, errW_some] <;> rfl) | (simp [*, errW_none, errW_some] <;> rfl), by repeat (first | (with_reducible first | exact HB.out | apply below_alloc | apply pw_below_drewN | apply below_drew1 | refine below_set ?_ GE101.out) | exact HB.out)⟩
    · rw [if_neg c3] at H
      have c3b0 : decide (a0_0 ≤ 1048576) = false := decide_eq_false c3
      clear c3
      obtain rfl := Option.some.inj H
      go_enter Try.func52, Try.ntmps52
      go_wp2_with (first | ((with_reducible refine gate_dst (N := 1) rfl ?_); refine box_event ?hg (N := 1) ?hd (cs := #[.int .i64 a0_0, .int .i64 a0_1]) (t := 23) ?hr ?_; (case hd => rfl); (case hg => rfl); (case hr => first | (go_simp; done) | (go_simp; rfl)); intro gb101 hg w9 hbox hb; have n0_ := Aside0.mk (below_step (by repeat (first | (with_reducible first | exact HB.out | apply below_alloc | apply pw_below_drewN | apply below_drew1) | exact HB.out)) hb); have n1_ := Aside0.mk (hbox); have n2_ := Aside0.mk ((by rw [hg]; exact (below_size (by repeat (first | (with_reducible first | exact HB.out | apply below_alloc | apply pw_below_drewN | apply below_drew1) | exact HB.out))) : w.heap.size ≤ gb101)); have n3_ := Aside0.mk ((by rw [hg]; exact (below_size (by repeat (first | (with_reducible first | exact HB.out | apply below_alloc | apply pw_below_drewN | apply below_drew1) | exact HB.out))) : w.heap.size ≤ gb101)); clear HB; have HB := n0_; have BK101 := n1_; have GW101 := n2_; have GE101 := n3_; clear n0_ n1_ n2_ n3_; clear hb hbox hg; have hcz10_0 : w9.cell? ⟨gb101, 0, none⟩ = some (.int .i64 a0_0) := (blk_cell BK101.out 0).trans rfl; have hcz10_1 : w9.cell? ⟨gb101, 1, none⟩ = some (.int .i64 a0_1) := (blk_cell BK101.out 1).trans rfl; have hfz10_0 := blk_frozen BK101.out 0; have hfz10_1 := blk_frozen BK101.out 1))
      go_ret
      exact ⟨by first | rfl | (simp [errW_none, errW_some] <;> rfl) | (simp [*, errW_none, errW_some] <;> rfl), by repeat (first | (with_reducible first | exact HB.out | apply below_alloc | apply pw_below_drewN | apply below_drew1 | refine below_set ?_ GE101.out) | exact HB.out)⟩
  · rw [if_neg c2] at H
    have c2b0 : decide ((-1048576) ≤ a0_0) = false := decide_eq_false c2
    clear c2
    obtain rfl := Option.some.inj H
    go_enter Try.func52, Try.ntmps52
    go_wp2_with (first | ((with_reducible refine gate_dst (N := 1) rfl ?_); refine box_event ?hg (N := 1) ?hd (cs := #[.int .i64 a0_0, .int .i64 a0_1]) (t := 23) ?hr ?_; (case hd => rfl); (case hg => rfl); (case hr => first | (go_simp; done) | (go_simp; rfl)); intro gb101 hg w11 hbox hb; have n0_ := Aside0.mk (below_step (by repeat (first | (with_reducible first | exact HB.out | apply below_alloc | apply pw_below_drewN | apply below_drew1) | exact HB.out)) hb); have n1_ := Aside0.mk (hbox); have n2_ := Aside0.mk ((by rw [hg]; exact (below_size (by repeat (first | (with_reducible first | exact HB.out | apply below_alloc | apply pw_below_drewN | apply below_drew1) | exact HB.out))) : w.heap.size ≤ gb101)); have n3_ := Aside0.mk ((by rw [hg]; exact (below_size (by repeat (first | (with_reducible first | exact HB.out | apply below_alloc | apply pw_below_drewN | apply below_drew1) | exact HB.out))) : w.heap.size ≤ gb101)); clear HB; have HB := n0_; have BK101 := n1_; have GW101 := n2_; have GE101 := n3_; clear n0_ n1_ n2_ n3_; clear hb hbox hg; have hcz12_0 : w11.cell? ⟨gb101, 0, none⟩ = some (.int .i64 a0_0) := (blk_cell BK101.out 0).trans rfl; have hcz12_1 : w11.cell? ⟨gb101, 1, none⟩ = some (.int .i64 a0_1) := (blk_cell BK101.out 1).trans rfl; have hfz12_0 := blk_frozen BK101.out 0; have hfz12_1 := blk_frozen BK101.out 1))
    go_ret
    exact ⟨by first | rfl | (simp [errW_none, errW_some] <;> rfl) | (simp [*, errW_none, errW_some] <;> rfl), by repeat (first | (with_reducible first | exact HB.out | apply below_alloc | apply pw_below_drewN | apply below_drew1 | refine below_set ?_ GE101.out) | exact HB.out)⟩

end Go.Proofs.Ytpojamikfcmnoaa.X
-- by xprint.py, a program of this session, over the kit's print.py
namespace Go.Proofs.Ytpojamikfcmnoaa.X
open Go.RowKit Go.Proofs.YtpojamikfcmnoaaW.PrintWords Go.Proofs.YtpojamikfcmnoaaW.PrintLast Go.Proofs.YtpojamikfcmnoaaW.PrintMore
attribute [local go_sem] max2_int min2_int max_two min_two max_three min_three max_four min_four   -- for this text's walks alone
set_option linter.unusedVariables false
set_option linter.unusedSimpArgs false

def agateref06_May_s.f (a b : Int) : Option Bool := some (mayR a b)
theorem agateref06_May_s.ev (a b : Int) (r) (h : agateref06_May_s.f a b = some r) : ∃ k : Nat, agateref06_May.f a b = some r := by
  refine ⟨0, ?_⟩
  rw [← h]
  unfold agateref06_May.f agateref06_May_s.f mayR
  by_cases h1 : a ≥ -1048576
  · rw [if_pos h1]
    by_cases h2 : a ≤ 1048576
    · rw [if_pos h2, decide_eq_true (⟨h1, h2⟩ : -1048576 ≤ a ∧ a ≤ 1048576), Bool.true_and]
      by_cases h3 : b ≥ -1048576
      · rw [if_pos h3]; congr 1; rw [decide_eq_decide]; exact ⟨fun g => ⟨h3, g⟩, fun g => g.2⟩
      · rw [if_neg h3, decide_eq_false (fun g => h3 g.1)]
    · rw [if_neg h2, decide_eq_false (fun g => h2 g.2)]; rfl
  · rw [if_neg h1, decide_eq_false (fun g => h1 g.1)]; rfl

set_option maxHeartbeats 1000000 in
theorem agateref06_May_s.calls (a0_0 : Int) (a0_1 : Int) (r : Bool) (w : World) (h : agateref06_May_s.f a0_0 a0_1 = some r) :
    Calls Try.prog 52 #[.agg #[.int .i64 a0_0, .int .i64 a0_1]] w fun e w' => e = .returned (.bool r) ∧ Below w.heap.size w w' := by
  obtain ⟨k, hk⟩ := agateref06_May_s.ev a0_0 a0_1 _ h
  exact agateref06_May.calls a0_0 a0_1 r w hk

end Go.Proofs.Ytpojamikfcmnoaa.X
-- by xprint.py, a program of this session, over the kit's print.py
namespace Go.Proofs.Ytpojamikfcmnoaa.X
open Go.RowKit Go.Proofs.YtpojamikfcmnoaaW.PrintWords Go.Proofs.YtpojamikfcmnoaaW.PrintLast Go.Proofs.YtpojamikfcmnoaaW.PrintMore
attribute [local go_sem] max2_int min2_int max_two min_two max_three min_three max_four min_four   -- for this text's walks alone
set_option linter.unusedVariables false
set_option linter.unusedSimpArgs false

/-! ### agateref06_Put: function 20 -/
def agateref06_Put.f (a0_0 : Int) (a0_1 : Int) : Option (ByteArray × Int) := (agateref06_May_s.f a0_0 a0_1).bind fun t102 => (if t102 = true then ((agateref06_bits_s.f a0_0).bind fun t103 => ((agateref06_laid.f t103).bind fun t104 => ((agateref06_bits_s.f a0_1).bind fun t105 => ((agateref06_laid.f t105).bind fun t106 => (if t104.size + t106.size ≤ 9223372036854775807 then (some (t104 ++ t106, 0)) else (none)))))) else (some ((⟨#[]⟩ : ByteArray), 17)))
def agateref06_Put.T3 : Bool × List (List Nat × List Nat) := (true, [([], []), ([0], [0]), ([1], [1]), ([2, 2], [2]), ([], []), ([4], [4]), ([5, 3], [5]), ([6, 6], [6]), ([3, 7], [3, 7]), ([8, 7, 0, 1, 2, 3, 4, 5, 6, 7, 8], [8]), ([9, 0, 1, 2, 3, 4, 5, 6, 7, 8, 9], [])])
def agateref06_Put.B3 : List Nat := [0, 1, 3, 7, 0, 16, 63, 127, 255, 511, 1023]
theorem agateref06_Put.tab3 : rtab .any (opsOf Try.f20 3) = agateref06_Put.T3 := by kernel_rfl
theorem agateref06_Put.bits3 : waitsOk agateref06_Put.T3.2 agateref06_Put.B3 = true := by kernel_rfl
set_option maxHeartbeats 8000000 in
set_option maxRecDepth 100000 in
theorem agateref06_Put.calls (a0_0 : Int) (a0_1 : Int) (r1 : ByteArray) (r2 : Int) (w : World) (h : agateref06_Put.f a0_0 a0_1 = some (r1, r2)) :
    Calls Try.prog 20 #[.agg #[.int .i64 a0_0, .int .i64 a0_1]] w fun e w' => e = .returned (.tuple #[.string r1, .int .i64 r2]) ∧ Below w.heap.size w w' := by
  have hu23 := Try.underlying23
  have HB := Aside0.mk (Below.refl w.heap.size w)
  have H : ((agateref06_May_s.f a0_0 a0_1).bind fun t102 => (if t102 = true then ((agateref06_bits_s.f a0_0).bind fun t103 => ((agateref06_laid.f t103).bind fun t104 => ((agateref06_bits_s.f a0_1).bind fun t105 => ((agateref06_laid.f t105).bind fun t106 => (if t104.size + t106.size ≤ 9223372036854775807 then (some (t104 ++ t106, 0)) else (none)))))) else (some ((⟨#[]⟩ : ByteArray), 17)))) = some (r1, r2) := h
  clear h
  replace H := Option.bind_eq_some_iff.mp H
  obtain ⟨t102, A20, H⟩ := H
  replace H : (if t102 = true then ((agateref06_bits_s.f a0_0).bind fun t103 => ((agateref06_laid.f t103).bind fun t104 => ((agateref06_bits_s.f a0_1).bind fun t105 => ((agateref06_laid.f t105).bind fun t106 => (if t104.size + t106.size ≤ 9223372036854775807 then (some (t104 ++ t106, 0)) else (none)))))) else (some ((⟨#[]⟩ : ByteArray), 17))) = some (r1, r2) := H
  have A2 := Aside0.mk A20
  clear A20
  by_cases c3 : t102 = true
  · subst c3
    have H1 : ((agateref06_bits_s.f a0_0).bind fun t103 => ((agateref06_laid.f t103).bind fun t104 => ((agateref06_bits_s.f a0_1).bind fun t105 => ((agateref06_laid.f t105).bind fun t106 => (if t104.size + t106.size ≤ 9223372036854775807 then (some (t104 ++ t106, 0)) else (none)))))) = some (r1, r2) := by rw [if_pos rfl] at H; exact H
    clear H
    have H := H1
    clear H1
    replace H := Option.bind_eq_some_iff.mp H
    obtain ⟨t103, A40, H⟩ := H
    replace H : ((agateref06_laid.f t103).bind fun t104 => ((agateref06_bits_s.f a0_1).bind fun t105 => ((agateref06_laid.f t105).bind fun t106 => (if t104.size + t106.size ≤ 9223372036854775807 then (some (t104 ++ t106, 0)) else (none))))) = some (r1, r2) := H
    have A4 := Aside0.mk A40
    clear A40
    replace H := Option.bind_eq_some_iff.mp H
    obtain ⟨t104, A50, H⟩ := H
    replace H : ((agateref06_bits_s.f a0_1).bind fun t105 => ((agateref06_laid.f t105).bind fun t106 => (if t104.size + t106.size ≤ 9223372036854775807 then (some (t104 ++ t106, 0)) else (none)))) = some (r1, r2) := H
    have A5 := Aside0.mk A50
    clear A50
    replace H := Option.bind_eq_some_iff.mp H
    obtain ⟨t105, A60, H⟩ := H
    replace H : ((agateref06_laid.f t105).bind fun t106 => (if t104.size + t106.size ≤ 9223372036854775807 then (some (t104 ++ t106, 0)) else (none))) = some (r1, r2) := H
    have A6 := Aside0.mk A60
    clear A60
    replace H := Option.bind_eq_some_iff.mp H
    obtain ⟨t106, A70, H⟩ := H
    replace H : (if t104.size + t106.size ≤ 9223372036854775807 then (some (t104 ++ t106, 0)) else (none)) = some (r1, r2) := H
    have A7 := Aside0.mk A70
    clear A70
    by_cases c8 : t104.size + t106.size ≤ 9223372036854775807
    · rw [if_pos c8] at H
      have c8b0 := eq_true c8
      have c8b1 : decide (t104.size + t106.size ≤ 9223372036854775807) = true := decide_eq_true c8
      try have c8b2 : (9223372036854775807 < t104.size + t106.size) = False := eq_false (Nat.not_lt.2 c8)
      try have c8b3 := c8b2
      try simp only [ByteArray.size_append] at c8b3
      simp only [Option.some.injEq, Prod.mk.injEq] at H
      obtain ⟨rfl, rfl⟩ := H
      go_enter Try.func20, Try.ntmps20
      try go_wp2_with (first | ((with_reducible refine gate_dst (N := 1) rfl ?_); refine box_event ?hg (N := 1) ?hd (cs := #[.int .i64 a0_0, .int .i64 a0_1]) (t := 23) ?hr ?_; (case hd => rfl); (case hg => rfl); (case hr => first | (go_simp; done) | (go_simp; rfl)); intro gb101 hg w9 hbox hb; have n0_ := Aside0.mk (below_step (by repeat (first | (with_reducible first | exact HB.out | apply below_alloc | apply pw_below_drewN | apply below_drew1) | exact HB.out)) hb); have n1_ := Aside0.mk (hbox); have n2_ := Aside0.mk ((by rw [hg]; exact (below_size (by repeat (first | (with_reducible first | exact HB.out | apply below_alloc | apply pw_below_drewN | apply below_drew1) | exact HB.out))) : w.heap.size ≤ gb101)); have n3_ := Aside0.mk ((by rw [hg]; exact (below_size (by repeat (first | (with_reducible first | exact HB.out | apply below_alloc | apply pw_below_drewN | apply below_drew1) | exact HB.out))) : w.heap.size ≤ gb101)); clear HB; have HB := n0_; have BK101 := n1_; have GW101 := n2_; have GE101 := n3_; clear n0_ n1_ n2_ n3_; clear hb hbox hg; have hcz10_0 : w9.cell? ⟨gb101, 0, none⟩ = some (.int .i64 a0_0) := (blk_cell BK101.out 0).trans rfl; have hcz10_1 : w9.cell? ⟨gb101, 1, none⟩ = some (.int .i64 a0_1) := (blk_cell BK101.out 1).trans rfl; have hfz10_0 := blk_frozen BK101.out 0; have hfz10_1 := blk_frozen BK101.out 1) | ((with_reducible refine gate_callee (f := 52) rfl ?_); refine goesL_ (some 5) rfl rfl Try.func52 (by kernel_rfl) rfl #[.agg #[.int .i64 a0_0, .int .i64 a0_1]] rfl (by (try simp only [List.map_toArray, List.map_cons, List.map_nil]); first | done | rfl | (simp only [List.length_drop, List.length_take]; rfl)) ?_; (with_reducible refine (agateref06_May_s.calls a0_0 a0_1 true _ A2.out).mono ?_); rintro e w11 ⟨rfl, hb⟩; refine ⟨_, rfl, ?_⟩; have n0_ := Aside0.mk (blk_below (g := gb101) (o := .cells #[.int .i64 a0_0, .int .i64 a0_1] 23 (0, 0)) (by (with_reducible repeat (first | refine blk_drewN ?_ _ | refine blk_drew ?_ | refine blk_alloc ?_ _)); exact BK101.out) hb); have n1_ := Aside0.mk (below_step (by repeat (first | (with_reducible first | exact HB.out | apply below_alloc | apply pw_below_drewN | apply below_drew1 | refine below_set ?_ GE101.out) | exact HB.out)) hb); clear BK101; clear HB; have BK101 := n0_; have HB := n1_; clear n0_ n1_; (try clear hb); (try clear hb2); (try clear hk); (try clear hi)))
      have n0_ := Aside0.mk (blk_drew BK101.out)
      have n1_ := Aside0.mk (below_drew1 HB.out)
      clear BK101
      clear HB
      have BK101 := n0_
      have HB := n1_
      clear n0_ n1_
      refine start_ (n := 11) (S := fun w' => w'.cell? ⟨gb101, 0, none⟩ = some (.int .i64 a0_0) ∧ w'.cell? ⟨gb101, 1, none⟩ = some (.int .i64 a0_1)) (ds := []) #[false, false, false, false, false, false, false, false, false, false, false] (by kernel_rfl) rfl rfl ⟨(blk_cell BK101.out 0).trans rfl, (blk_cell BK101.out 1).trans rfl⟩ (fun hHeld => ?_); refine with_tabW agateref06_Put.tab3 agateref06_Put.bits3 (fun HT_ HW_ => ?_)
      generalize w11.drew = w12 at BK101 HB hHeld ⊢
      refine pure_ (i := 0) (N := some 7) (v := ?_) (a' := ?_) #[true, false, false, false, false, false, false, false, false, false, false] rfl rfl (any_of HT_.out (by kernel_rfl)) (fun _ _ _ h => h) (Or.inl ⟨by rfl, ?_⟩) ?_ ?_
      rotate_left
      · intro w'
        go_simp
        with_reducible rfl
      rotate_left
      · simp only [Act.put, List.setIfInBounds_toArray, List.set_cons_zero, List.set_cons_succ, i64_w, i32_w]
        rfl
      refine pure_ (i := 4) (N := some 11) (v := ?_) (a' := ?_) #[true, false, false, false, true, false, false, false, false, false, false] rfl rfl (any_of HT_.out (by kernel_rfl)) (fun _ _ _ h => h) (Or.inl ⟨by rfl, ?_⟩) ?_ ?_
      rotate_left
      · intro w'
        go_simp
        with_reducible rfl
      rotate_left
      · simp only [Act.put, List.setIfInBounds_toArray, List.set_cons_zero, List.set_cons_succ, i64_w, i32_w]
        rfl
      refine take_ (i := 1) (N := some 8) (v := ?_) (a' := ?_) #[true, true, false, false, true, false, false, false, false, false, false] rfl rfl (take_ofW HT_.out HW_.out (by kernel_rfl)) (fun _ _ _ h => h) (Or.inl ⟨by rfl, ?_⟩) hHeld ?_ ?_
      rotate_left
      · rintro w' ⟨s0, s1⟩
        go_simp
        with_reducible rfl
      rotate_left
      · simp only [Act.put, List.setIfInBounds_toArray, List.set_cons_zero, List.set_cons_succ, i64_w, i32_w]
        rfl
      refine take_ (i := 5) (N := some 12) (v := ?_) (a' := ?_) #[true, true, false, false, true, true, false, false, false, false, false] rfl rfl (take_ofW HT_.out HW_.out (by kernel_rfl)) (fun _ _ _ h => h) (Or.inl ⟨by rfl, ?_⟩) hHeld ?_ ?_
      rotate_left
      · rintro w' ⟨s0, s1⟩
        go_simp
        with_reducible rfl
      rotate_left
      · simp only [Act.put, List.setIfInBounds_toArray, List.set_cons_zero, List.set_cons_succ, i64_w, i32_w]
        rfl
      refine one_ (i := 2) (N := some 9) #[true, true, true, false, true, true, false, false, false, false, false] rfl rfl (one_of HT_.out (by kernel_rfl)) (by decide) (fun K hK => ?_)
      refine goes_ Try.func58 (by kernel_rfl) rfl #[.int .i64 a0_0] (by rfl) rfl rfl (by (try simp only [List.map_toArray, List.map_cons, List.map_nil]); first | done | rfl | (simp only [List.length_drop, List.length_take]; rfl)) ?_
      with_reducible refine (agateref06_bits_s.calls a0_0 t103 _ A4.out).mono ?_
      rintro e w' ⟨rfl, ⟨nd, rfl⟩⟩
      refine ⟨_, rfl, ?_⟩
      refine hK.out _ _ ⟨(blk_cell BK101.out 0).trans rfl, (blk_cell BK101.out 1).trans rfl⟩ (fun hHeld => ?_)
      clear hK K
      refine norm_ (a' := ?_) ?_ ?_
      rotate_left
      · show Act.put _ (some 9) _ = _
        simp only [Act.put, List.setIfInBounds_toArray, List.set_cons_zero, List.set_cons_succ, i64_w, i32_w]
        rfl
      refine one_ (i := 3) (N := some 10) #[true, true, true, true, true, true, false, false, false, false, false] rfl rfl (one_of HT_.out (by kernel_rfl)) (by decide) (fun K hK => ?_)
      refine goes_ Try.func57 (by kernel_rfl) rfl #[.int .u32 t103] (by rfl) rfl rfl (by (try simp only [List.map_toArray, List.map_cons, List.map_nil]); first | done | rfl | (simp only [List.length_drop, List.length_take]; rfl)) ?_
      with_reducible refine (agateref06_laid.calls t103 t104 _ A5.out).mono ?_
      rintro e w13 ⟨rfl, hb⟩
      refine ⟨_, rfl, ?_⟩
      have n0_ := Aside0.mk (blk_below (g := gb101) (o := .cells #[.int .i64 a0_0, .int .i64 a0_1] 23 (0, 0)) (by (with_reducible repeat (first | refine blk_drewN ?_ _ | refine blk_drew ?_ | refine blk_alloc ?_ _)); exact BK101.out) hb)
      have n1_ := Aside0.mk (below_step (by repeat (first | (with_reducible first | exact HB.out | apply below_alloc | apply pw_below_drewN | apply below_drew1 | refine below_set ?_ GE101.out) | exact HB.out)) hb)
      clear BK101
      clear HB
      have BK101 := n0_
      have HB := n1_
      clear n0_ n1_
      (try clear hb)
      (try clear hb2)
      (try clear hk)
      (try clear hi)
      refine hK.out _ _ ⟨(blk_cell BK101.out 0).trans rfl, (blk_cell BK101.out 1).trans rfl⟩ (fun hHeld => ?_)
      clear hK K
      refine norm_ (a' := ?_) ?_ ?_
      rotate_left
      · show Act.put _ (some 10) _ = _
        simp only [Act.put, List.setIfInBounds_toArray, List.set_cons_zero, List.set_cons_succ, i64_w, i32_w]
        rfl
      refine one_ (i := 6) (N := some 13) #[true, true, true, true, true, true, true, false, false, false, false] rfl rfl (one_of HT_.out (by kernel_rfl)) (by decide) (fun K hK => ?_)
      refine goes_ Try.func58 (by kernel_rfl) rfl #[.int .i64 a0_1] (by rfl) rfl rfl (by (try simp only [List.map_toArray, List.map_cons, List.map_nil]); first | done | rfl | (simp only [List.length_drop, List.length_take]; rfl)) ?_
      with_reducible refine (agateref06_bits_s.calls a0_1 t105 _ A6.out).mono ?_
      rintro e w' ⟨rfl, ⟨nd, rfl⟩⟩
      refine ⟨_, rfl, ?_⟩
      refine hK.out _ _ ⟨(blk_cell BK101.out 0).trans rfl, (blk_cell BK101.out 1).trans rfl⟩ (fun hHeld => ?_)
      clear hK K
      refine norm_ (a' := ?_) ?_ ?_
      rotate_left
      · show Act.put _ (some 13) _ = _
        simp only [Act.put, List.setIfInBounds_toArray, List.set_cons_zero, List.set_cons_succ, i64_w, i32_w]
        rfl
      refine one_ (i := 7) (N := some 14) #[true, true, true, true, true, true, true, true, false, false, false] rfl rfl (one_of HT_.out (by kernel_rfl)) (by decide) (fun K hK => ?_)
      refine goes_ Try.func57 (by kernel_rfl) rfl #[.int .u32 t105] (by rfl) rfl rfl (by (try simp only [List.map_toArray, List.map_cons, List.map_nil]); first | done | rfl | (simp only [List.length_drop, List.length_take]; rfl)) ?_
      with_reducible refine (agateref06_laid.calls t105 t106 _ A7.out).mono ?_
      rintro e w14 ⟨rfl, hb⟩
      refine ⟨_, rfl, ?_⟩
      have n0_ := Aside0.mk (blk_below (g := gb101) (o := .cells #[.int .i64 a0_0, .int .i64 a0_1] 23 (0, 0)) (by (with_reducible repeat (first | refine blk_drewN ?_ _ | refine blk_drew ?_ | refine blk_alloc ?_ _)); exact BK101.out) hb)
      have n1_ := Aside0.mk (below_step (by repeat (first | (with_reducible first | exact HB.out | apply below_alloc | apply pw_below_drewN | apply below_drew1 | refine below_set ?_ GE101.out) | exact HB.out)) hb)
      clear BK101
      clear HB
      have BK101 := n0_
      have HB := n1_
      clear n0_ n1_
      (try clear hb)
      (try clear hb2)
      (try clear hk)
      (try clear hi)
      refine hK.out _ _ ⟨(blk_cell BK101.out 0).trans rfl, (blk_cell BK101.out 1).trans rfl⟩ (fun hHeld => ?_)
      clear hK K
      refine norm_ (a' := ?_) ?_ ?_
      rotate_left
      · show Act.put _ (some 14) _ = _
        simp only [Act.put, List.setIfInBounds_toArray, List.set_cons_zero, List.set_cons_succ, i64_w, i32_w]
        rfl
      refine pure_ (i := 8) (N := some 15) (v := ?_) (a' := ?_) #[true, true, true, true, true, true, true, true, true, false, false] rfl rfl (any_of HT_.out (by kernel_rfl)) (fun _ _ _ h => h) (Or.inl ⟨by rfl, ?_⟩) ?_ ?_
      rotate_left
      · intro w'
        go_simp
        with_reducible rfl
      rotate_left
      · simp only [Act.put, List.setIfInBounds_toArray, List.set_cons_zero, List.set_cons_succ, i64_w, i32_w]
        rfl
      refine pure_ (i := 9) (N := some 2) (v := ?_) (a' := ?_) #[true, true, true, true, true, true, true, true, true, true, false] rfl rfl (any_of HT_.out (by kernel_rfl)) (fun _ _ _ h => h) (Or.inl ⟨by rfl, ?_⟩) ?_ ?_
      rotate_left
      · intro w'
        go_simp
        with_reducible rfl
      rotate_left
      · simp only [Act.put, List.setIfInBounds_toArray, List.set_cons_zero, List.set_cons_succ, i64_w, i32_w]
        rfl
      refine pure_ (i := 10) (N := some 3) (v := ?_) (a' := ?_) #[true, true, true, true, true, true, true, true, true, true, true] rfl rfl (any_of HT_.out (by kernel_rfl)) (fun _ _ _ h => h) (Or.inl ⟨by rfl, ?_⟩) ?_ ?_
      rotate_left
      · intro w'
        go_simp
        with_reducible rfl
      rotate_left
      · simp only [Act.put, List.setIfInBounds_toArray, List.set_cons_zero, List.set_cons_succ, i64_w, i32_w]
        rfl
      refine done_ (done_of HT_.out (by kernel_rfl)) ?_
      try go_wp2
      go_ret2
      exact ⟨by first | rfl | (simp [errW_none, errW_some] <;> rfl) | (simp [*, errW_none, errW_some] <;> rfl), by repeat (first | (with_reducible first | exact HB.out | apply below_alloc | apply pw_below_drewN | apply below_drew1 | refine below_set ?_ GE101.out) | exact HB.out)⟩
    · rw [if_neg c8] at H
      exact absurd H (by simp)
  · replace c3 := Bool.eq_false_iff.mpr c3
    subst c3
    have H1 : (some ((⟨#[]⟩ : ByteArray), 17)) = some (r1, r2) := by rw [if_neg (show ¬ (false = true) by decide)] at H; exact H
    clear H
    have H := H1
    clear H1
    simp only [Option.some.injEq, Prod.mk.injEq] at H
    obtain ⟨rfl, rfl⟩ := H
    go_enter Try.func20, Try.ntmps20
    go_wp2_with (first | ((with_reducible refine gate_dst (N := 1) rfl ?_); refine box_event ?hg (N := 1) ?hd (cs := #[.int .i64 a0_0, .int .i64 a0_1]) (t := 23) ?hr ?_; (case hd => rfl); (case hg => rfl); (case hr => first | (go_simp; done) | (go_simp; rfl)); intro gb101 hg w15 hbox hb; have n0_ := Aside0.mk (below_step (by repeat (first | (with_reducible first | exact HB.out | apply below_alloc | apply pw_below_drewN | apply below_drew1) | exact HB.out)) hb); have n1_ := Aside0.mk (hbox); have n2_ := Aside0.mk ((by rw [hg]; exact (below_size (by repeat (first | (with_reducible first | exact HB.out | apply below_alloc | apply pw_below_drewN | apply below_drew1) | exact HB.out))) : w.heap.size ≤ gb101)); have n3_ := Aside0.mk ((by rw [hg]; exact (below_size (by repeat (first | (with_reducible first | exact HB.out | apply below_alloc | apply pw_below_drewN | apply below_drew1) | exact HB.out))) : w.heap.size ≤ gb101)); clear HB; have HB := n0_; have BK101 := n1_; have GW101 := n2_; have GE101 := n3_; clear n0_ n1_ n2_ n3_; clear hb hbox hg; have hcz16_0 : w15.cell? ⟨gb101, 0, none⟩ = some (.int .i64 a0_0) := (blk_cell BK101.out 0).trans rfl; have hcz16_1 : w15.cell? ⟨gb101, 1, none⟩ = some (.int .i64 a0_1) := (blk_cell BK101.out 1).trans rfl; have hfz16_0 := blk_frozen BK101.out 0; have hfz16_1 := blk_frozen BK101.out 1) | ((with_reducible refine gate_callee (f := 52) rfl ?_); refine goesL_ (some 5) rfl rfl Try.func52 (by kernel_rfl) rfl #[.agg #[.int .i64 a0_0, .int .i64 a0_1]] rfl (by (try simp only [List.map_toArray, List.map_cons, List.map_nil]); first | done | rfl | (simp only [List.length_drop, List.length_take]; rfl)) ?_; (with_reducible refine (agateref06_May_s.calls a0_0 a0_1 false _ A2.out).mono ?_); rintro e w17 ⟨rfl, hb⟩; refine ⟨_, rfl, ?_⟩; have n0_ := Aside0.mk (blk_below (g := gb101) (o := .cells #[.int .i64 a0_0, .int .i64 a0_1] 23 (0, 0)) (by (with_reducible repeat (first | refine blk_drewN ?_ _ | refine blk_drew ?_ | refine blk_alloc ?_ _)); exact BK101.out) hb); have n1_ := Aside0.mk (below_step (by repeat (first | (with_reducible first | exact HB.out | apply below_alloc | apply pw_below_drewN | apply below_drew1 | refine below_set ?_ GE101.out) | exact HB.out)) hb); clear BK101; clear HB; have BK101 := n0_; have HB := n1_; clear n0_ n1_; (try clear hb); (try clear hb2); (try clear hk); (try clear hi)))
    go_ret2
    exact ⟨by first | rfl | (simp [errW_none, errW_some] <;> rfl) | (simp [*, errW_none, errW_some] <;> rfl), by repeat (first | (with_reducible first | exact HB.out | apply below_alloc | apply pw_below_drewN | apply below_drew1 | refine below_set ?_ GE101.out) | exact HB.out)⟩

end Go.Proofs.Ytpojamikfcmnoaa.X
