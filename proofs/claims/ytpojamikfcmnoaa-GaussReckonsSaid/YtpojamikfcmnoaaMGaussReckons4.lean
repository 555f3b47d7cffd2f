import Derived.Test.YtpojamikfcmnoaaMGaussReckons0
import Derived.Test.YtpojamikfcmnoaaMGaussReckons2
import Derived.Test.YtpojamikfcmnoaaMGaussReckons3
import Derived.Test.YtpojamikfcmnoaaMGaussReckons1
-- by xprint.py, a program of this session, over the kit's print.py
namespace Go.Proofs.Ytpojamikfcmnoaa.X
open Go.RowKit Go.Proofs.YtpojamikfcmnoaaW.PrintWords Go.Proofs.YtpojamikfcmnoaaW.PrintLast Go.Proofs.YtpojamikfcmnoaaW.PrintMore
attribute [local go_sem] max2_int min2_int max_two min_two max_three min_three max_four min_four   -- for this text's walks alone
set_option linter.unusedVariables false
set_option linter.unusedSimpArgs false

def agateref06_May_s.f (a b : Int) : Option Bool := some (mayR a b)
theorem agateref06_May_s.ev (a b : Int) (r) (h : agateref06_May_s.f a b = some r) : ∃ k : Nat, agateref06_May.f a b = some r := by
  refine ⟨0, ?_⟩
  rw [← h]
  unfold agateref06_May.f agateref06_May_s.f mayR
  by_cases h1 : a ≥ -1048576
  · rw [if_pos h1]
    by_cases h2 : a ≤ 1048576
    · rw [if_pos h2, decide_eq_true (⟨h1, h2⟩ : -1048576 ≤ a ∧ a ≤ 1048576), Bool.true_and]
      by_cases h3 : b ≥ -1048576
      · rw [if_pos h3]; congr 1; rw [decide_eq_decide]; exact ⟨fun g => ⟨h3, g⟩, fun g => g.2⟩
      · rw [if_neg h3, decide_eq_false (fun g => h3 g.1)]
    · rw [if_neg h2, decide_eq_false (fun g => h2 g.2)]; rfl
  · rw [if_neg h1, decide_eq_false (fun g => h1 g.1)]; rfl

set_option maxHeartbeats 1000000 in
theorem agateref06_May_s.calls (a0_0 : Int) (a0_1 : Int) (r : Bool) (w : World) (h : agateref06_May_s.f a0_0 a0_1 = some r) :
    Calls Try.prog 52 #[.agg #[.int .i64 a0_0, .int .i64 a0_1]] w fun e w' => e = .returned (.bool r) ∧ Below w.heap.size w w' := by
  obtain ⟨k, hk⟩ := agateref06_May_s.ev a0_0 a0_1 _ h
  exact agateref06_May.calls a0_0 a0_1 r w hk

end Go.Proofs.Ytpojamikfcmnoaa.X
-- by xprint.py, a program of this session, over the kit's print.py
namespace Go.Proofs.Ytpojamikfcmnoaa.X
open Go.RowKit Go.Proofs.YtpojamikfcmnoaaW.PrintWords Go.Proofs.YtpojamikfcmnoaaW.PrintLast Go.Proofs.YtpojamikfcmnoaaW.PrintMore
attribute [local go_sem] max2_int min2_int max_two min_two max_three min_three max_four min_four   -- for this text's walks alone
set_option linter.unusedVariables false
set_option linter.unusedSimpArgs false

def agateref06_Do.f (op a b c d : Int) : Option (Int × Int × Int) := some (doR op a b c d)
theorem do_no (op a b c d : Int) (h : mayR a b = false) : doR op a b c d = (0, 0, 17) := by unfold doR; rw [h]; rfl
theorem do_no2 (op a b c d : Int) (h3 : (op == 3) = false) (h : mayR c d = false) : doR op a b c d = (0, 0, 17) := by unfold doR; rw [h, h3]; simp
theorem mayR_of {a b : Int} (h : mayR a b = true) : (-1048576 ≤ a ∧ a ≤ 1048576) ∧ (-1048576 ≤ b ∧ b ≤ 1048576) := by
  unfold mayR at h
  simpa only [Bool.and_eq_true, decide_eq_true_eq] using h
set_option maxHeartbeats 8000000 in
set_option maxRecDepth 100000 in
theorem agateref06_Do.calls0 (a b c d : Int) (w : World) :
    Calls Try.prog 18 #[.int .i64 0, .agg #[.int .i64 a, .int .i64 b], .agg #[.int .i64 c, .int .i64 d]] w fun e w' => e = .returned (.tuple #[.agg #[.int .i64 (doR 0 a b c d).1, .int .i64 (doR 0 a b c d).2.1], .int .i64 (doR 0 a b c d).2.2]) ∧ Below w.heap.size w w' := by
  have Hno := Aside0.mk (do_no 0 a b c d)
  have Hno2 := Aside0.mk (do_no2 0 a b c d rfl)
  have Hyes := Aside0.mk (fun (h1 : mayR a b = true) (h2 : mayR c d = true) => (show doR 0 a b c d = (if mayR (wrap64 (a + c)) (wrap64 (b + d)) = true then (wrap64 (a + c), wrap64 (b + d), 0) else (0, 0, 17)) by
    obtain ⟨ba, bb⟩ := mayR_of h1
    obtain ⟨bc, bd⟩ := mayR_of h2
    have e1 : wrap64 (a + c) = a + c := wrap64_id (by omega) (by omega)
    have e2 : wrap64 (b + d) = b + d := wrap64_id (by omega) (by omega)
    rw [e1, e2]; unfold doR; rw [h1, h2]; rfl))
  have HB := Aside0.mk (Below.refl w.heap.size w)
  go_enter Try.func18, Try.ntmps18
  go_wp2_with (first | ((with_reducible refine gate_dst (N := 4) rfl ?_); refine box_event ?hg (N := 4) ?hd (cs := #[.int .i64 a, .int .i64 b]) (t := 23) ?hr ?_; (case hd => rfl); (case hg => rfl); (case hr => first | (go_simp; done) | (go_simp; rfl)); intro gA hg wA hbox hb; have m0_ := Aside0.mk (below_step HB.out hb); have m1_ := Aside0.mk hbox; have m2_ := Aside0.mk (by rw [hg]; exact below_size HB.out : w.heap.size ≤ gA); clear HB; have HB := m0_; have BKA := m1_; have GWA := m2_; clear m0_ m1_ m2_; clear hb hbox hg; have cA0wA : wA.cell? ⟨gA, 0, none⟩ = some (.int .i64 a) := (blk_cell BKA.out 0).trans rfl; have fA0wA := blk_frozen BKA.out 0; have cA1wA : wA.cell? ⟨gA, 1, none⟩ = some (.int .i64 b) := (blk_cell BKA.out 1).trans rfl; have fA1wA := blk_frozen BKA.out 1) | ((with_reducible refine gate_dst (N := 5) rfl ?_); refine box_event ?hg (N := 5) ?hd (cs := #[.int .i64 c, .int .i64 d]) (t := 23) ?hr ?_; (case hd => rfl); (case hg => rfl); (case hr => first | (go_simp; done) | (go_simp; rfl)); intro gC hg wC hbox hb; have m0_ := Aside0.mk (below_step HB.out hb); have m1_ := Aside0.mk hbox; have m2_ := Aside0.mk (by rw [hg]; exact below_size HB.out : w.heap.size ≤ gC); have neAC : ¬ gA = gC := (by have := blk_lt BKA.out; omega); have neCA : ¬ gC = gA := fun e => neAC e.symm; have nA_ := Aside0.mk (blk_below BKA.out hb); clear BKA; have BKA := nA_; clear nA_; clear HB; have HB := m0_; have BKC := m1_; have GWC := m2_; clear m0_ m1_ m2_; clear hb hbox hg; have cA0wC : wC.cell? ⟨gA, 0, none⟩ = some (.int .i64 a) := (blk_cell BKA.out 0).trans rfl; have fA0wC := blk_frozen BKA.out 0; have cA1wC : wC.cell? ⟨gA, 1, none⟩ = some (.int .i64 b) := (blk_cell BKA.out 1).trans rfl; have fA1wC := blk_frozen BKA.out 1; have cC0wC : wC.cell? ⟨gC, 0, none⟩ = some (.int .i64 c) := (blk_cell BKC.out 0).trans rfl; have fC0wC := blk_frozen BKC.out 0; have cC1wC : wC.cell? ⟨gC, 1, none⟩ = some (.int .i64 d) := (blk_cell BKC.out 1).trans rfl; have fC1wC := blk_frozen BKC.out 1) | ((with_reducible refine gate_dst (N := 6) rfl ?_); refine box_event ?hg (N := 6) ?hd (cs := #[.int .i64 0, .int .i64 0]) (t := 23) ?hr ?_; (case hd => rfl); (case hg => rfl); (case hr => first | (go_simp; done) | (go_simp; rfl)); intro gR hg wR hbox hb; have m0_ := Aside0.mk (below_step HB.out hb); have m1_ := Aside0.mk hbox; have m2_ := Aside0.mk (by rw [hg]; exact below_size HB.out : w.heap.size ≤ gR); have neAR : ¬ gA = gR := (by have := blk_lt BKA.out; omega); have neRA : ¬ gR = gA := fun e => neAR e.symm; have neCR : ¬ gC = gR := (by have := blk_lt BKC.out; omega); have neRC : ¬ gR = gC := fun e => neCR e.symm; have nA_ := Aside0.mk (blk_below BKA.out hb); have nC_ := Aside0.mk (blk_below BKC.out hb); clear BKA BKC; have BKA := nA_; have BKC := nC_; clear nA_ nC_; clear HB; have HB := m0_; have BKR := m1_; have GWR := m2_; clear m0_ m1_ m2_; clear hb hbox hg; have cA0wR : wR.cell? ⟨gA, 0, none⟩ = some (.int .i64 a) := (blk_cell BKA.out 0).trans rfl; have fA0wR := blk_frozen BKA.out 0; have cA1wR : wR.cell? ⟨gA, 1, none⟩ = some (.int .i64 b) := (blk_cell BKA.out 1).trans rfl; have fA1wR := blk_frozen BKA.out 1; have cC0wR : wR.cell? ⟨gC, 0, none⟩ = some (.int .i64 c) := (blk_cell BKC.out 0).trans rfl; have fC0wR := blk_frozen BKC.out 0; have cC1wR : wR.cell? ⟨gC, 1, none⟩ = some (.int .i64 d) := (blk_cell BKC.out 1).trans rfl; have fC1wR := blk_frozen BKC.out 1; have cR0wR : wR.cell? ⟨gR, 0, none⟩ = some (.int .i64 0) := (blk_cell BKR.out 0).trans rfl; have fR0wR := blk_frozen BKR.out 0; have cR1wR : wR.cell? ⟨gR, 1, none⟩ = some (.int .i64 0) := (blk_cell BKR.out 1).trans rfl; have fR1wR := blk_frozen BKR.out 1) | (fail))
  refine (agateref06_May_s.calls (a) (b) _ _ rfl).mono ?_
  rintro e w1 ⟨rfl, hb⟩
  have m0_ := Aside0.mk (below_step (HB.out) hb)
  have nA_ := Aside0.mk (blk_below BKA.out hb)
  have nC_ := Aside0.mk (blk_below BKC.out hb)
  have nR_ := Aside0.mk (blk_below BKR.out hb)
  clear BKA BKC BKR
  have BKA := nA_
  have BKC := nC_
  have BKR := nR_
  clear nA_ nC_ nR_
  clear HB hb
  have HB := m0_
  clear m0_
  have cA0w1 : w1.cell? ⟨gA, 0, none⟩ = some (.int .i64 a) := (blk_cell BKA.out 0).trans rfl
  have fA0w1 := blk_frozen BKA.out 0
  have cA1w1 : w1.cell? ⟨gA, 1, none⟩ = some (.int .i64 b) := (blk_cell BKA.out 1).trans rfl
  have fA1w1 := blk_frozen BKA.out 1
  have cC0w1 : w1.cell? ⟨gC, 0, none⟩ = some (.int .i64 c) := (blk_cell BKC.out 0).trans rfl
  have fC0w1 := blk_frozen BKC.out 0
  have cC1w1 : w1.cell? ⟨gC, 1, none⟩ = some (.int .i64 d) := (blk_cell BKC.out 1).trans rfl
  have fC1w1 := blk_frozen BKC.out 1
  have cR0w1 : w1.cell? ⟨gR, 0, none⟩ = some (.int .i64 0) := (blk_cell BKR.out 0).trans rfl
  have fR0w1 := blk_frozen BKR.out 0
  have cR1w1 : w1.cell? ⟨gR, 1, none⟩ = some (.int .i64 0) := (blk_cell BKR.out 1).trans rfl
  have fR1w1 := blk_frozen BKR.out 1
  cases hm : mayR a b with
  | false =>
    go_wp2_with (first | (fail))
    refine bodyPost_ret (results_ct rfl _ _ gR 23 #[.int .i64 0, .int .i64 0] (0, 0) _ rfl (by (with_reducible repeat (first | refine blk_drewN ?_ _ | refine blk_drew ?_ | refine blk_alloc ?_ _)); refine blk_put (cs := #[.int .i64 0, .int .i64 0]) ?_ 1 _ rfl; (with_reducible repeat (first | refine blk_drewN ?_ _ | refine blk_drew ?_ | refine blk_alloc ?_ _)); refine blk_put (cs := #[.int .i64 0, .int .i64 0]) ?_ 0 _ rfl; (with_reducible repeat (first | refine blk_drewN ?_ _ | refine blk_drew ?_ | refine blk_alloc ?_ _)); exact BKR.out) Try.underlying23 rfl (by kernel_rfl)) rfl ?_
    exact ⟨by rw [Hno.out hm]; rfl, by repeat (first | (with_reducible first | exact HB.out | apply below_alloc | apply pw_below_drewN | apply below_drew1 | refine below_set ?_ GWR.out) | exact HB.out)⟩
  | true =>
    go_wp2_with (first | (fail))
    refine (agateref06_May_s.calls (c) (d) _ _ rfl).mono ?_
    rintro e w2 ⟨rfl, hb⟩
    have m0_ := Aside0.mk (below_step (HB.out) hb)
    have nA_ := Aside0.mk (blk_below BKA.out hb)
    have nC_ := Aside0.mk (blk_below BKC.out hb)
    have nR_ := Aside0.mk (blk_below BKR.out hb)
    clear BKA BKC BKR
    have BKA := nA_
    have BKC := nC_
    have BKR := nR_
    clear nA_ nC_ nR_
    clear HB hb
    have HB := m0_
    clear m0_
    have cA0w2 : w2.cell? ⟨gA, 0, none⟩ = some (.int .i64 a) := (blk_cell BKA.out 0).trans rfl
    have fA0w2 := blk_frozen BKA.out 0
    have cA1w2 : w2.cell? ⟨gA, 1, none⟩ = some (.int .i64 b) := (blk_cell BKA.out 1).trans rfl
    have fA1w2 := blk_frozen BKA.out 1
    have cC0w2 : w2.cell? ⟨gC, 0, none⟩ = some (.int .i64 c) := (blk_cell BKC.out 0).trans rfl
    have fC0w2 := blk_frozen BKC.out 0
    have cC1w2 : w2.cell? ⟨gC, 1, none⟩ = some (.int .i64 d) := (blk_cell BKC.out 1).trans rfl
    have fC1w2 := blk_frozen BKC.out 1
    have cR0w2 : w2.cell? ⟨gR, 0, none⟩ = some (.int .i64 0) := (blk_cell BKR.out 0).trans rfl
    have fR0w2 := blk_frozen BKR.out 0
    have cR1w2 : w2.cell? ⟨gR, 1, none⟩ = some (.int .i64 0) := (blk_cell BKR.out 1).trans rfl
    have fR1w2 := blk_frozen BKR.out 1
    cases hm2 : mayR c d with
    | false =>
      go_wp2_with (first | (fail))
      refine bodyPost_ret (results_ct rfl _ _ gR 23 #[.int .i64 0, .int .i64 0] (0, 0) _ rfl (by (with_reducible repeat (first | refine blk_drewN ?_ _ | refine blk_drew ?_ | refine blk_alloc ?_ _)); refine blk_put (cs := #[.int .i64 0, .int .i64 0]) ?_ 1 _ rfl; (with_reducible repeat (first | refine blk_drewN ?_ _ | refine blk_drew ?_ | refine blk_alloc ?_ _)); refine blk_put (cs := #[.int .i64 0, .int .i64 0]) ?_ 0 _ rfl; (with_reducible repeat (first | refine blk_drewN ?_ _ | refine blk_drew ?_ | refine blk_alloc ?_ _)); exact BKR.out) Try.underlying23 rfl (by kernel_rfl)) rfl ?_
      exact ⟨by rw [Hno2.out hm2]; rfl, by repeat (first | (with_reducible first | exact HB.out | apply below_alloc | apply pw_below_drewN | apply below_drew1 | refine below_set ?_ GWR.out) | exact HB.out)⟩
    | true =>
      have HY := Aside0.mk (Hyes.out hm hm2)
      go_wp2_with (first | ((with_reducible refine gate_dst (N := 8) rfl ?_); refine box_event ?hg (N := 8) ?hd (cs := #[.int .i64 0, .int .i64 0]) (t := 23) ?hr ?_; (case hd => rfl); (case hg => rfl); (case hr => first | (go_simp; done) | (go_simp; rfl)); intro gZ hg wZ hbox hb; have m0_ := Aside0.mk (below_step HB.out hb); have m1_ := Aside0.mk hbox; have m2_ := Aside0.mk (by rw [hg]; exact below_size HB.out : w.heap.size ≤ gZ); have neAZ : ¬ gA = gZ := (by have := blk_lt BKA.out; omega); have neZA : ¬ gZ = gA := fun e => neAZ e.symm; have neCZ : ¬ gC = gZ := (by have := blk_lt BKC.out; omega); have neZC : ¬ gZ = gC := fun e => neCZ e.symm; have neRZ : ¬ gR = gZ := (by have := blk_lt BKR.out; omega); have neZR : ¬ gZ = gR := fun e => neRZ e.symm; have nA_ := Aside0.mk (blk_below BKA.out hb); have nC_ := Aside0.mk (blk_below BKC.out hb); have nR_ := Aside0.mk (blk_below BKR.out hb); clear BKA BKC BKR; have BKA := nA_; have BKC := nC_; have BKR := nR_; clear nA_ nC_ nR_; clear HB; have HB := m0_; have BKZ := m1_; have GWZ := m2_; clear m0_ m1_ m2_; clear hb hbox hg; have cA0wZ : wZ.cell? ⟨gA, 0, none⟩ = some (.int .i64 a) := (blk_cell BKA.out 0).trans rfl; have fA0wZ := blk_frozen BKA.out 0; have cA1wZ : wZ.cell? ⟨gA, 1, none⟩ = some (.int .i64 b) := (blk_cell BKA.out 1).trans rfl; have fA1wZ := blk_frozen BKA.out 1; have cC0wZ : wZ.cell? ⟨gC, 0, none⟩ = some (.int .i64 c) := (blk_cell BKC.out 0).trans rfl; have fC0wZ := blk_frozen BKC.out 0; have cC1wZ : wZ.cell? ⟨gC, 1, none⟩ = some (.int .i64 d) := (blk_cell BKC.out 1).trans rfl; have fC1wZ := blk_frozen BKC.out 1; have cR0wZ : wZ.cell? ⟨gR, 0, none⟩ = some (.int .i64 0) := (blk_cell BKR.out 0).trans rfl; have fR0wZ := blk_frozen BKR.out 0; have cR1wZ : wZ.cell? ⟨gR, 1, none⟩ = some (.int .i64 0) := (blk_cell BKR.out 1).trans rfl; have fR1wZ := blk_frozen BKR.out 1; have cZ0wZ : wZ.cell? ⟨gZ, 0, none⟩ = some (.int .i64 0) := (blk_cell BKZ.out 0).trans rfl; have fZ0wZ := blk_frozen BKZ.out 0; have cZ1wZ : wZ.cell? ⟨gZ, 1, none⟩ = some (.int .i64 0) := (blk_cell BKZ.out 1).trans rfl; have fZ1wZ := blk_frozen BKZ.out 1; have z0 : ((((wZ.setCell ⟨gZ, 0, none⟩ (.int .i64 (wrap64 (-a)))).setCell ⟨gZ, 1, none⟩ (.int .i64 (wrap64 (-b)))).setCell ⟨gZ, 0, none⟩ (.int .i64 (wrap64 (a + c)))).setCell ⟨gZ, 1, none⟩ (.int .i64 (wrap64 (b + d)))).cell? ⟨gZ, 0, none⟩ = some (.int .i64 (wrap64 (a + c))) := (blk_cell (blk_put (blk_put (blk_put (blk_put BKZ.out 0 _ rfl) 1 _ rfl) 0 _ rfl) 1 _ rfl) 0).trans rfl; have z1 : ((((wZ.setCell ⟨gZ, 0, none⟩ (.int .i64 (wrap64 (-a)))).setCell ⟨gZ, 1, none⟩ (.int .i64 (wrap64 (-b)))).setCell ⟨gZ, 0, none⟩ (.int .i64 (wrap64 (a + c)))).setCell ⟨gZ, 1, none⟩ (.int .i64 (wrap64 (b + d)))).cell? ⟨gZ, 1, none⟩ = some (.int .i64 (wrap64 (b + d))) := (blk_cell (blk_put (blk_put (blk_put (blk_put BKZ.out 0 _ rfl) 1 _ rfl) 0 _ rfl) 1 _ rfl) 1).trans rfl) | (fail))
      refine (agateref06_May_s.calls (wrap64 (a + c)) (wrap64 (b + d)) _ _ rfl).mono ?_
      rintro e w3 ⟨rfl, hb⟩
      have m0_ := Aside0.mk (below_step (below_set (below_set (below_set (below_set HB.out GWZ.out) GWZ.out) GWZ.out) GWZ.out) hb)
      have nA_ := Aside0.mk (blk_below (blk_far (blk_far (blk_far (blk_far BKA.out neAZ _) neAZ _) neAZ _) neAZ _) hb)
      have nC_ := Aside0.mk (blk_below (blk_far (blk_far (blk_far (blk_far BKC.out neCZ _) neCZ _) neCZ _) neCZ _) hb)
      have nR_ := Aside0.mk (blk_below (blk_far (blk_far (blk_far (blk_far BKR.out neRZ _) neRZ _) neRZ _) neRZ _) hb)
      have nZ_ := Aside0.mk (blk_below (blk_put (blk_put (blk_put (blk_put BKZ.out 0 _ rfl) 1 _ rfl) 0 _ rfl) 1 _ rfl) hb)
      clear BKA BKC BKR BKZ
      have BKA := nA_
      have BKC := nC_
      have BKR := nR_
      have BKZ := nZ_
      clear nA_ nC_ nR_ nZ_
      clear HB hb
      have HB := m0_
      clear m0_
      have cA0w3 : w3.cell? ⟨gA, 0, none⟩ = some (.int .i64 a) := (blk_cell BKA.out 0).trans rfl
      have fA0w3 := blk_frozen BKA.out 0
      have cA1w3 : w3.cell? ⟨gA, 1, none⟩ = some (.int .i64 b) := (blk_cell BKA.out 1).trans rfl
      have fA1w3 := blk_frozen BKA.out 1
      have cC0w3 : w3.cell? ⟨gC, 0, none⟩ = some (.int .i64 c) := (blk_cell BKC.out 0).trans rfl
      have fC0w3 := blk_frozen BKC.out 0
      have cC1w3 : w3.cell? ⟨gC, 1, none⟩ = some (.int .i64 d) := (blk_cell BKC.out 1).trans rfl
      have fC1w3 := blk_frozen BKC.out 1
      have cR0w3 : w3.cell? ⟨gR, 0, none⟩ = some (.int .i64 0) := (blk_cell BKR.out 0).trans rfl
      have fR0w3 := blk_frozen BKR.out 0
      have cR1w3 : w3.cell? ⟨gR, 1, none⟩ = some (.int .i64 0) := (blk_cell BKR.out 1).trans rfl
      have fR1w3 := blk_frozen BKR.out 1
      have cZ0w3 : w3.cell? ⟨gZ, 0, none⟩ = some (.int .i64 (wrap64 (a + c))) := (blk_cell BKZ.out 0).trans rfl
      have fZ0w3 := blk_frozen BKZ.out 0
      have cZ1w3 : w3.cell? ⟨gZ, 1, none⟩ = some (.int .i64 (wrap64 (b + d))) := (blk_cell BKZ.out 1).trans rfl
      have fZ1w3 := blk_frozen BKZ.out 1
      cases hm3 : mayR (wrap64 (a + c)) (wrap64 (b + d)) with
      | false =>
        go_wp2_with (first | (fail))
        refine bodyPost_ret (results_ct rfl _ _ gR 23 #[.int .i64 0, .int .i64 0] (0, 0) _ rfl (by (with_reducible repeat (first | refine blk_drewN ?_ _ | refine blk_drew ?_ | refine blk_alloc ?_ _)); refine blk_put (cs := #[.int .i64 0, .int .i64 0]) ?_ 1 _ rfl; (with_reducible repeat (first | refine blk_drewN ?_ _ | refine blk_drew ?_ | refine blk_alloc ?_ _)); refine blk_put (cs := #[.int .i64 0, .int .i64 0]) ?_ 0 _ rfl; (with_reducible repeat (first | refine blk_drewN ?_ _ | refine blk_drew ?_ | refine blk_alloc ?_ _)); exact BKR.out) Try.underlying23 rfl (by kernel_rfl)) rfl ?_
        exact ⟨by rw [HY.out, hm3]; rfl, by repeat (first | (with_reducible first | exact HB.out | apply below_alloc | apply pw_below_drewN | apply below_drew1 | refine below_set ?_ GWR.out | refine below_set ?_ GWZ.out) | exact HB.out)⟩
      | true =>
        go_wp2_with (first | (fail))
        refine bodyPost_ret (results_ct rfl _ _ gR 23 #[.int .i64 (wrap64 (a + c)), .int .i64 (wrap64 (b + d))] (0, 0) _ rfl (by (with_reducible repeat (first | refine blk_drewN ?_ _ | refine blk_drew ?_ | refine blk_alloc ?_ _)); refine blk_put (cs := #[.int .i64 (wrap64 (a + c)), .int .i64 0]) ?_ 1 _ rfl; (with_reducible repeat (first | refine blk_drewN ?_ _ | refine blk_drew ?_ | refine blk_alloc ?_ _)); refine blk_put (cs := #[.int .i64 0, .int .i64 0]) ?_ 0 _ rfl; (with_reducible repeat (first | refine blk_drewN ?_ _ | refine blk_drew ?_ | refine blk_alloc ?_ _)); exact BKR.out) Try.underlying23 rfl (by kernel_rfl)) rfl ?_
        exact ⟨by rw [HY.out, hm3]; rfl, by repeat (first | (with_reducible first | exact HB.out | apply below_alloc | apply pw_below_drewN | apply below_drew1 | refine below_set ?_ GWR.out | refine below_set ?_ GWZ.out) | exact HB.out)⟩
set_option maxHeartbeats 8000000 in
set_option maxRecDepth 100000 in
theorem agateref06_Do.calls1 (a b c d : Int) (w : World) :
    Calls Try.prog 18 #[.int .i64 1, .agg #[.int .i64 a, .int .i64 b], .agg #[.int .i64 c, .int .i64 d]] w fun e w' => e = .returned (.tuple #[.agg #[.int .i64 (doR 1 a b c d).1, .int .i64 (doR 1 a b c d).2.1], .int .i64 (doR 1 a b c d).2.2]) ∧ Below w.heap.size w w' := by
  have Hno := Aside0.mk (do_no 1 a b c d)
  have Hno2 := Aside0.mk (do_no2 1 a b c d rfl)
  have Hyes := Aside0.mk (fun (h1 : mayR a b = true) (h2 : mayR c d = true) => (show doR 1 a b c d = (if mayR (wrap64 (a - c)) (wrap64 (b - d)) = true then (wrap64 (a - c), wrap64 (b - d), 0) else (0, 0, 17)) by
    obtain ⟨ba, bb⟩ := mayR_of h1
    obtain ⟨bc, bd⟩ := mayR_of h2
    have e1 : wrap64 (a - c) = a - c := wrap64_id (by omega) (by omega)
    have e2 : wrap64 (b - d) = b - d := wrap64_id (by omega) (by omega)
    rw [e1, e2]; unfold doR; rw [h1, h2]; rfl))
  have HB := Aside0.mk (Below.refl w.heap.size w)
  go_enter Try.func18, Try.ntmps18
  go_wp2_with (first | ((with_reducible refine gate_dst (N := 4) rfl ?_); refine box_event ?hg (N := 4) ?hd (cs := #[.int .i64 a, .int .i64 b]) (t := 23) ?hr ?_; (case hd => rfl); (case hg => rfl); (case hr => first | (go_simp; done) | (go_simp; rfl)); intro gA hg wA hbox hb; have m0_ := Aside0.mk (below_step HB.out hb); have m1_ := Aside0.mk hbox; have m2_ := Aside0.mk (by rw [hg]; exact below_size HB.out : w.heap.size ≤ gA); clear HB; have HB := m0_; have BKA := m1_; have GWA := m2_; clear m0_ m1_ m2_; clear hb hbox hg; have cA0wA : wA.cell? ⟨gA, 0, none⟩ = some (.int .i64 a) := (blk_cell BKA.out 0).trans rfl; have fA0wA := blk_frozen BKA.out 0; have cA1wA : wA.cell? ⟨gA, 1, none⟩ = some (.int .i64 b) := (blk_cell BKA.out 1).trans rfl; have fA1wA := blk_frozen BKA.out 1) | ((with_reducible refine gate_dst (N := 5) rfl ?_); refine box_event ?hg (N := 5) ?hd (cs := #[.int .i64 c, .int .i64 d]) (t := 23) ?hr ?_; (case hd => rfl); (case hg => rfl); (case hr => first | (go_simp; done) | (go_simp; rfl)); intro gC hg wC hbox hb; have m0_ := Aside0.mk (below_step HB.out hb); have m1_ := Aside0.mk hbox; have m2_ := Aside0.mk (by rw [hg]; exact below_size HB.out : w.heap.size ≤ gC); have neAC : ¬ gA = gC := (by have := blk_lt BKA.out; omega); have neCA : ¬ gC = gA := fun e => neAC e.symm; have nA_ := Aside0.mk (blk_below BKA.out hb); clear BKA; have BKA := nA_; clear nA_; clear HB; have HB := m0_; have BKC := m1_; have GWC := m2_; clear m0_ m1_ m2_; clear hb hbox hg; have cA0wC : wC.cell? ⟨gA, 0, none⟩ = some (.int .i64 a) := (blk_cell BKA.out 0).trans rfl; have fA0wC := blk_frozen BKA.out 0; have cA1wC : wC.cell? ⟨gA, 1, none⟩ = some (.int .i64 b) := (blk_cell BKA.out 1).trans rfl; have fA1wC := blk_frozen BKA.out 1; have cC0wC : wC.cell? ⟨gC, 0, none⟩ = some (.int .i64 c) := (blk_cell BKC.out 0).trans rfl; have fC0wC := blk_frozen BKC.out 0; have cC1wC : wC.cell? ⟨gC, 1, none⟩ = some (.int .i64 d) := (blk_cell BKC.out 1).trans rfl; have fC1wC := blk_frozen BKC.out 1) | ((with_reducible refine gate_dst (N := 6) rfl ?_); refine box_event ?hg (N := 6) ?hd (cs := #[.int .i64 0, .int .i64 0]) (t := 23) ?hr ?_; (case hd => rfl); (case hg => rfl); (case hr => first | (go_simp; done) | (go_simp; rfl)); intro gR hg wR hbox hb; have m0_ := Aside0.mk (below_step HB.out hb); have m1_ := Aside0.mk hbox; have m2_ := Aside0.mk (by rw [hg]; exact below_size HB.out : w.heap.size ≤ gR); have neAR : ¬ gA = gR := (by have := blk_lt BKA.out; omega); have neRA : ¬ gR = gA := fun e => neAR e.symm; have neCR : ¬ gC = gR := (by have := blk_lt BKC.out; omega); have neRC : ¬ gR = gC := fun e => neCR e.symm; have nA_ := Aside0.mk (blk_below BKA.out hb); have nC_ := Aside0.mk (blk_below BKC.out hb); clear BKA BKC; have BKA := nA_; have BKC := nC_; clear nA_ nC_; clear HB; have HB := m0_; have BKR := m1_; have GWR := m2_; clear m0_ m1_ m2_; clear hb hbox hg; have cA0wR : wR.cell? ⟨gA, 0, none⟩ = some (.int .i64 a) := (blk_cell BKA.out 0).trans rfl; have fA0wR := blk_frozen BKA.out 0; have cA1wR : wR.cell? ⟨gA, 1, none⟩ = some (.int .i64 b) := (blk_cell BKA.out 1).trans rfl; have fA1wR := blk_frozen BKA.out 1; have cC0wR : wR.cell? ⟨gC, 0, none⟩ = some (.int .i64 c) := (blk_cell BKC.out 0).trans rfl; have fC0wR := blk_frozen BKC.out 0; have cC1wR : wR.cell? ⟨gC, 1, none⟩ = some (.int .i64 d) := (blk_cell BKC.out 1).trans rfl; have fC1wR := blk_frozen BKC.out 1; have cR0wR : wR.cell? ⟨gR, 0, none⟩ = some (.int .i64 0) := (blk_cell BKR.out 0).trans rfl; have fR0wR := blk_frozen BKR.out 0; have cR1wR : wR.cell? ⟨gR, 1, none⟩ = some (.int .i64 0) := (blk_cell BKR.out 1).trans rfl; have fR1wR := blk_frozen BKR.out 1) | (fail))
  refine (agateref06_May_s.calls (a) (b) _ _ rfl).mono ?_
  rintro e w1 ⟨rfl, hb⟩
  have m0_ := Aside0.mk (below_step (HB.out) hb)
  have nA_ := Aside0.mk (blk_below BKA.out hb)
  have nC_ := Aside0.mk (blk_below BKC.out hb)
  have nR_ := Aside0.mk (blk_below BKR.out hb)
  clear BKA BKC BKR
  have BKA := nA_
  have BKC := nC_
  have BKR := nR_
  clear nA_ nC_ nR_
  clear HB hb
  have HB := m0_
  clear m0_
  have cA0w1 : w1.cell? ⟨gA, 0, none⟩ = some (.int .i64 a) := (blk_cell BKA.out 0).trans rfl
  have fA0w1 := blk_frozen BKA.out 0
  have cA1w1 : w1.cell? ⟨gA, 1, none⟩ = some (.int .i64 b) := (blk_cell BKA.out 1).trans rfl
  have fA1w1 := blk_frozen BKA.out 1
  have cC0w1 : w1.cell? ⟨gC, 0, none⟩ = some (.int .i64 c) := (blk_cell BKC.out 0).trans rfl
  have fC0w1 := blk_frozen BKC.out 0
  have cC1w1 : w1.cell? ⟨gC, 1, none⟩ = some (.int .i64 d) := (blk_cell BKC.out 1).trans rfl
  have fC1w1 := blk_frozen BKC.out 1
  have cR0w1 : w1.cell? ⟨gR, 0, none⟩ = some (.int .i64 0) := (blk_cell BKR.out 0).trans rfl
  have fR0w1 := blk_frozen BKR.out 0
  have cR1w1 : w1.cell? ⟨gR, 1, none⟩ = some (.int .i64 0) := (blk_cell BKR.out 1).trans rfl
  have fR1w1 := blk_frozen BKR.out 1
  cases hm : mayR a b with
  | false =>
    go_wp2_with (first | (fail))
    refine bodyPost_ret (results_ct rfl _ _ gR 23 #[.int .i64 0, .int .i64 0] (0, 0) _ rfl (by (with_reducible repeat (first | refine blk_drewN ?_ _ | refine blk_drew ?_ | refine blk_alloc ?_ _)); refine blk_put (cs := #[.int .i64 0, .int .i64 0]) ?_ 1 _ rfl; (with_reducible repeat (first | refine blk_drewN ?_ _ | refine blk_drew ?_ | refine blk_alloc ?_ _)); refine blk_put (cs := #[.int .i64 0, .int .i64 0]) ?_ 0 _ rfl; (with_reducible repeat (first | refine blk_drewN ?_ _ | refine blk_drew ?_ | refine blk_alloc ?_ _)); exact BKR.out) Try.underlying23 rfl (by kernel_rfl)) rfl ?_
    exact ⟨by rw [Hno.out hm]; rfl, by repeat (first | (with_reducible first | exact HB.out | apply below_alloc | apply pw_below_drewN | apply below_drew1 | refine below_set ?_ GWR.out) | exact HB.out)⟩
  | true =>
    go_wp2_with (first | (fail))
    refine (agateref06_May_s.calls (c) (d) _ _ rfl).mono ?_
    rintro e w2 ⟨rfl, hb⟩
    have m0_ := Aside0.mk (below_step (HB.out) hb)
    have nA_ := Aside0.mk (blk_below BKA.out hb)
    have nC_ := Aside0.mk (blk_below BKC.out hb)
    have nR_ := Aside0.mk (blk_below BKR.out hb)
    clear BKA BKC BKR
    have BKA := nA_
    have BKC := nC_
    have BKR := nR_
    clear nA_ nC_ nR_
    clear HB hb
    have HB := m0_
    clear m0_
    have cA0w2 : w2.cell? ⟨gA, 0, none⟩ = some (.int .i64 a) := (blk_cell BKA.out 0).trans rfl
    have fA0w2 := blk_frozen BKA.out 0
    have cA1w2 : w2.cell? ⟨gA, 1, none⟩ = some (.int .i64 b) := (blk_cell BKA.out 1).trans rfl
    have fA1w2 := blk_frozen BKA.out 1
    have cC0w2 : w2.cell? ⟨gC, 0, none⟩ = some (.int .i64 c) := (blk_cell BKC.out 0).trans rfl
    have fC0w2 := blk_frozen BKC.out 0
    have cC1w2 : w2.cell? ⟨gC, 1, none⟩ = some (.int .i64 d) := (blk_cell BKC.out 1).trans rfl
    have fC1w2 := blk_frozen BKC.out 1
    have cR0w2 : w2.cell? ⟨gR, 0, none⟩ = some (.int .i64 0) := (blk_cell BKR.out 0).trans rfl
    have fR0w2 := blk_frozen BKR.out 0
    have cR1w2 : w2.cell? ⟨gR, 1, none⟩ = some (.int .i64 0) := (blk_cell BKR.out 1).trans rfl
    have fR1w2 := blk_frozen BKR.out 1
    cases hm2 : mayR c d with
    | false =>
      go_wp2_with (first | (fail))
      refine bodyPost_ret (results_ct rfl _ _ gR 23 #[.int .i64 0, .int .i64 0] (0, 0) _ rfl (by (with_reducible repeat (first | refine blk_drewN ?_ _ | refine blk_drew ?_ | refine blk_alloc ?_ _)); refine blk_put (cs := #[.int .i64 0, .int .i64 0]) ?_ 1 _ rfl; (with_reducible repeat (first | refine blk_drewN ?_ _ | refine blk_drew ?_ | refine blk_alloc ?_ _)); refine blk_put (cs := #[.int .i64 0, .int .i64 0]) ?_ 0 _ rfl; (with_reducible repeat (first | refine blk_drewN ?_ _ | refine blk_drew ?_ | refine blk_alloc ?_ _)); exact BKR.out) Try.underlying23 rfl (by kernel_rfl)) rfl ?_
      exact ⟨by rw [Hno2.out hm2]; rfl, by repeat (first | (with_reducible first | exact HB.out | apply below_alloc | apply pw_below_drewN | apply below_drew1 | refine below_set ?_ GWR.out) | exact HB.out)⟩
    | true =>
      have HY := Aside0.mk (Hyes.out hm hm2)
      go_wp2_with (first | ((with_reducible refine gate_dst (N := 8) rfl ?_); refine box_event ?hg (N := 8) ?hd (cs := #[.int .i64 0, .int .i64 0]) (t := 23) ?hr ?_; (case hd => rfl); (case hg => rfl); (case hr => first | (go_simp; done) | (go_simp; rfl)); intro gZ hg wZ hbox hb; have m0_ := Aside0.mk (below_step HB.out hb); have m1_ := Aside0.mk hbox; have m2_ := Aside0.mk (by rw [hg]; exact below_size HB.out : w.heap.size ≤ gZ); have neAZ : ¬ gA = gZ := (by have := blk_lt BKA.out; omega); have neZA : ¬ gZ = gA := fun e => neAZ e.symm; have neCZ : ¬ gC = gZ := (by have := blk_lt BKC.out; omega); have neZC : ¬ gZ = gC := fun e => neCZ e.symm; have neRZ : ¬ gR = gZ := (by have := blk_lt BKR.out; omega); have neZR : ¬ gZ = gR := fun e => neRZ e.symm; have nA_ := Aside0.mk (blk_below BKA.out hb); have nC_ := Aside0.mk (blk_below BKC.out hb); have nR_ := Aside0.mk (blk_below BKR.out hb); clear BKA BKC BKR; have BKA := nA_; have BKC := nC_; have BKR := nR_; clear nA_ nC_ nR_; clear HB; have HB := m0_; have BKZ := m1_; have GWZ := m2_; clear m0_ m1_ m2_; clear hb hbox hg; have cA0wZ : wZ.cell? ⟨gA, 0, none⟩ = some (.int .i64 a) := (blk_cell BKA.out 0).trans rfl; have fA0wZ := blk_frozen BKA.out 0; have cA1wZ : wZ.cell? ⟨gA, 1, none⟩ = some (.int .i64 b) := (blk_cell BKA.out 1).trans rfl; have fA1wZ := blk_frozen BKA.out 1; have cC0wZ : wZ.cell? ⟨gC, 0, none⟩ = some (.int .i64 c) := (blk_cell BKC.out 0).trans rfl; have fC0wZ := blk_frozen BKC.out 0; have cC1wZ : wZ.cell? ⟨gC, 1, none⟩ = some (.int .i64 d) := (blk_cell BKC.out 1).trans rfl; have fC1wZ := blk_frozen BKC.out 1; have cR0wZ : wZ.cell? ⟨gR, 0, none⟩ = some (.int .i64 0) := (blk_cell BKR.out 0).trans rfl; have fR0wZ := blk_frozen BKR.out 0; have cR1wZ : wZ.cell? ⟨gR, 1, none⟩ = some (.int .i64 0) := (blk_cell BKR.out 1).trans rfl; have fR1wZ := blk_frozen BKR.out 1; have cZ0wZ : wZ.cell? ⟨gZ, 0, none⟩ = some (.int .i64 0) := (blk_cell BKZ.out 0).trans rfl; have fZ0wZ := blk_frozen BKZ.out 0; have cZ1wZ : wZ.cell? ⟨gZ, 1, none⟩ = some (.int .i64 0) := (blk_cell BKZ.out 1).trans rfl; have fZ1wZ := blk_frozen BKZ.out 1; have z0 : ((((wZ.setCell ⟨gZ, 0, none⟩ (.int .i64 (wrap64 (-a)))).setCell ⟨gZ, 1, none⟩ (.int .i64 (wrap64 (-b)))).setCell ⟨gZ, 0, none⟩ (.int .i64 (wrap64 (a - c)))).setCell ⟨gZ, 1, none⟩ (.int .i64 (wrap64 (b - d)))).cell? ⟨gZ, 0, none⟩ = some (.int .i64 (wrap64 (a - c))) := (blk_cell (blk_put (blk_put (blk_put (blk_put BKZ.out 0 _ rfl) 1 _ rfl) 0 _ rfl) 1 _ rfl) 0).trans rfl; have z1 : ((((wZ.setCell ⟨gZ, 0, none⟩ (.int .i64 (wrap64 (-a)))).setCell ⟨gZ, 1, none⟩ (.int .i64 (wrap64 (-b)))).setCell ⟨gZ, 0, none⟩ (.int .i64 (wrap64 (a - c)))).setCell ⟨gZ, 1, none⟩ (.int .i64 (wrap64 (b - d)))).cell? ⟨gZ, 1, none⟩ = some (.int .i64 (wrap64 (b - d))) := (blk_cell (blk_put (blk_put (blk_put (blk_put BKZ.out 0 _ rfl) 1 _ rfl) 0 _ rfl) 1 _ rfl) 1).trans rfl) | (fail))
      refine (agateref06_May_s.calls (wrap64 (a - c)) (wrap64 (b - d)) _ _ rfl).mono ?_
      rintro e w3 ⟨rfl, hb⟩
      have m0_ := Aside0.mk (below_step (below_set (below_set (below_set (below_set HB.out GWZ.out) GWZ.out) GWZ.out) GWZ.out) hb)
      have nA_ := Aside0.mk (blk_below (blk_far (blk_far (blk_far (blk_far BKA.out neAZ _) neAZ _) neAZ _) neAZ _) hb)
      have nC_ := Aside0.mk (blk_below (blk_far (blk_far (blk_far (blk_far BKC.out neCZ _) neCZ _) neCZ _) neCZ _) hb)
      have nR_ := Aside0.mk (blk_below (blk_far (blk_far (blk_far (blk_far BKR.out neRZ _) neRZ _) neRZ _) neRZ _) hb)
      have nZ_ := Aside0.mk (blk_below (blk_put (blk_put (blk_put (blk_put BKZ.out 0 _ rfl) 1 _ rfl) 0 _ rfl) 1 _ rfl) hb)
      clear BKA BKC BKR BKZ
      have BKA := nA_
      have BKC := nC_
      have BKR := nR_
      have BKZ := nZ_
      clear nA_ nC_ nR_ nZ_
      clear HB hb
      have HB := m0_
      clear m0_
      have cA0w3 : w3.cell? ⟨gA, 0, none⟩ = some (.int .i64 a) := (blk_cell BKA.out 0).trans rfl
      have fA0w3 := blk_frozen BKA.out 0
      have cA1w3 : w3.cell? ⟨gA, 1, none⟩ = some (.int .i64 b) := (blk_cell BKA.out 1).trans rfl
      have fA1w3 := blk_frozen BKA.out 1
      have cC0w3 : w3.cell? ⟨gC, 0, none⟩ = some (.int .i64 c) := (blk_cell BKC.out 0).trans rfl
      have fC0w3 := blk_frozen BKC.out 0
      have cC1w3 : w3.cell? ⟨gC, 1, none⟩ = some (.int .i64 d) := (blk_cell BKC.out 1).trans rfl
      have fC1w3 := blk_frozen BKC.out 1
      have cR0w3 : w3.cell? ⟨gR, 0, none⟩ = some (.int .i64 0) := (blk_cell BKR.out 0).trans rfl
      have fR0w3 := blk_frozen BKR.out 0
      have cR1w3 : w3.cell? ⟨gR, 1, none⟩ = some (.int .i64 0) := (blk_cell BKR.out 1).trans rfl
      have fR1w3 := blk_frozen BKR.out 1
      have cZ0w3 : w3.cell? ⟨gZ, 0, none⟩ = some (.int .i64 (wrap64 (a - c))) := (blk_cell BKZ.out 0).trans rfl
      have fZ0w3 := blk_frozen BKZ.out 0
      have cZ1w3 : w3.cell? ⟨gZ, 1, none⟩ = some (.int .i64 (wrap64 (b - d))) := (blk_cell BKZ.out 1).trans rfl
      have fZ1w3 := blk_frozen BKZ.out 1
      cases hm3 : mayR (wrap64 (a - c)) (wrap64 (b - d)) with
      | false =>
        go_wp2_with (first | (fail))
        refine bodyPost_ret (results_ct rfl _ _ gR 23 #[.int .i64 0, .int .i64 0] (0, 0) _ rfl (by (with_reducible repeat (first | refine blk_drewN ?_ _ | refine blk_drew ?_ | refine blk_alloc ?_ _)); refine blk_put (cs := #[.int .i64 0, .int .i64 0]) ?_ 1 _ rfl; (with_reducible repeat (first | refine blk_drewN ?_ _ | refine blk_drew ?_ | refine blk_alloc ?_ _)); refine blk_put (cs := #[.int .i64 0, .int .i64 0]) ?_ 0 _ rfl; (with_reducible repeat (first | refine blk_drewN ?_ _ | refine blk_drew ?_ | refine blk_alloc ?_ _)); exact BKR.out) Try.underlying23 rfl (by kernel_rfl)) rfl ?_
        exact ⟨by rw [HY.out, hm3]; rfl, by repeat (first | (with_reducible first | exact HB.out | apply below_alloc | apply pw_below_drewN | apply below_drew1 | refine below_set ?_ GWR.out | refine below_set ?_ GWZ.out) | exact HB.out)⟩
      | true =>
        go_wp2_with (first | (fail))
        refine bodyPost_ret (results_ct rfl _ _ gR 23 #[.int .i64 (wrap64 (a - c)), .int .i64 (wrap64 (b - d))] (0, 0) _ rfl (by (with_reducible repeat (first | refine blk_drewN ?_ _ | refine blk_drew ?_ | refine blk_alloc ?_ _)); refine blk_put (cs := #[.int .i64 (wrap64 (a - c)), .int .i64 0]) ?_ 1 _ rfl; (with_reducible repeat (first | refine blk_drewN ?_ _ | refine blk_drew ?_ | refine blk_alloc ?_ _)); refine blk_put (cs := #[.int .i64 0, .int .i64 0]) ?_ 0 _ rfl; (with_reducible repeat (first | refine blk_drewN ?_ _ | refine blk_drew ?_ | refine blk_alloc ?_ _)); exact BKR.out) Try.underlying23 rfl (by kernel_rfl)) rfl ?_
        exact ⟨by rw [HY.out, hm3]; rfl, by repeat (first | (with_reducible first | exact HB.out | apply below_alloc | apply pw_below_drewN | apply below_drew1 | refine below_set ?_ GWR.out | refine below_set ?_ GWZ.out) | exact HB.out)⟩
set_option maxHeartbeats 8000000 in
set_option maxRecDepth 100000 in
theorem agateref06_Do.calls2 (a b c d : Int) (w : World) :
    Calls Try.prog 18 #[.int .i64 2, .agg #[.int .i64 a, .int .i64 b], .agg #[.int .i64 c, .int .i64 d]] w fun e w' => e = .returned (.tuple #[.agg #[.int .i64 (doR 2 a b c d).1, .int .i64 (doR 2 a b c d).2.1], .int .i64 (doR 2 a b c d).2.2]) ∧ Below w.heap.size w w' := by
  have Hno := Aside0.mk (do_no 2 a b c d)
  have Hno2 := Aside0.mk (do_no2 2 a b c d rfl)
  have Hyes := Aside0.mk (fun (h1 : mayR a b = true) (h2 : mayR c d = true) => (show doR 2 a b c d = (if mayR (wrap64 (wrap64 (a * c) - wrap64 (b * d))) (wrap64 (wrap64 (a * d) + wrap64 (b * c))) = true then (wrap64 (wrap64 (a * c) - wrap64 (b * d)), wrap64 (wrap64 (a * d) + wrap64 (b * c)), 0) else (0, 0, 17)) by
    obtain ⟨ba, bb⟩ := mayR_of h1
    obtain ⟨bc, bd⟩ := mayR_of h2
    have sac := small_mul a c ba bc
    have sbd := small_mul b d bb bd
    have sad := small_mul a d ba bd
    have sbc := small_mul b c bb bc
    have e1 : wrap64 (wrap64 (a * c) - wrap64 (b * d)) = a * c - b * d := by rw [wrap64_id (x := a * c) (by omega) (by omega), wrap64_id (x := b * d) (by omega) (by omega), wrap64_id (by omega) (by omega)]
    have e2 : wrap64 (wrap64 (a * d) + wrap64 (b * c)) = a * d + b * c := by rw [wrap64_id (x := a * d) (by omega) (by omega), wrap64_id (x := b * c) (by omega) (by omega), wrap64_id (by omega) (by omega)]
    rw [e1, e2]; unfold doR; rw [h1, h2]; rfl))
  have HB := Aside0.mk (Below.refl w.heap.size w)
  go_enter Try.func18, Try.ntmps18
  go_wp2_with (first | ((with_reducible refine gate_dst (N := 4) rfl ?_); refine box_event ?hg (N := 4) ?hd (cs := #[.int .i64 a, .int .i64 b]) (t := 23) ?hr ?_; (case hd => rfl); (case hg => rfl); (case hr => first | (go_simp; done) | (go_simp; rfl)); intro gA hg wA hbox hb; have m0_ := Aside0.mk (below_step HB.out hb); have m1_ := Aside0.mk hbox; have m2_ := Aside0.mk (by rw [hg]; exact below_size HB.out : w.heap.size ≤ gA); clear HB; have HB := m0_; have BKA := m1_; have GWA := m2_; clear m0_ m1_ m2_; clear hb hbox hg; have cA0wA : wA.cell? ⟨gA, 0, none⟩ = some (.int .i64 a) := (blk_cell BKA.out 0).trans rfl; have fA0wA := blk_frozen BKA.out 0; have cA1wA : wA.cell? ⟨gA, 1, none⟩ = some (.int .i64 b) := (blk_cell BKA.out 1).trans rfl; have fA1wA := blk_frozen BKA.out 1) | ((with_reducible refine gate_dst (N := 5) rfl ?_); refine box_event ?hg (N := 5) ?hd (cs := #[.int .i64 c, .int .i64 d]) (t := 23) ?hr ?_; (case hd => rfl); (case hg => rfl); (case hr => first | (go_simp; done) | (go_simp; rfl)); intro gC hg wC hbox hb; have m0_ := Aside0.mk (below_step HB.out hb); have m1_ := Aside0.mk hbox; have m2_ := Aside0.mk (by rw [hg]; exact below_size HB.out : w.heap.size ≤ gC); have neAC : ¬ gA = gC := (by have := blk_lt BKA.out; omega); have neCA : ¬ gC = gA := fun e => neAC e.symm; have nA_ := Aside0.mk (blk_below BKA.out hb); clear BKA; have BKA := nA_; clear nA_; clear HB; have HB := m0_; have BKC := m1_; have GWC := m2_; clear m0_ m1_ m2_; clear hb hbox hg; have cA0wC : wC.cell? ⟨gA, 0, none⟩ = some (.int .i64 a) := (blk_cell BKA.out 0).trans rfl; have fA0wC := blk_frozen BKA.out 0; have cA1wC : wC.cell? ⟨gA, 1, none⟩ = some (.int .i64 b) := (blk_cell BKA.out 1).trans rfl; have fA1wC := blk_frozen BKA.out 1; have cC0wC : wC.cell? ⟨gC, 0, none⟩ = some (.int .i64 c) := (blk_cell BKC.out 0).trans rfl; have fC0wC := blk_frozen BKC.out 0; have cC1wC : wC.cell? ⟨gC, 1, none⟩ = some (.int .i64 d) := (blk_cell BKC.out 1).trans rfl; have fC1wC := blk_frozen BKC.out 1) | ((with_reducible refine gate_dst (N := 6) rfl ?_); refine box_event ?hg (N := 6) ?hd (cs := #[.int .i64 0, .int .i64 0]) (t := 23) ?hr ?_; (case hd => rfl); (case hg => rfl); (case hr => first | (go_simp; done) | (go_simp; rfl)); intro gR hg wR hbox hb; have m0_ := Aside0.mk (below_step HB.out hb); have m1_ := Aside0.mk hbox; have m2_ := Aside0.mk (by rw [hg]; exact below_size HB.out : w.heap.size ≤ gR); have neAR : ¬ gA = gR := (by have := blk_lt BKA.out; omega); have neRA : ¬ gR = gA := fun e => neAR e.symm; have neCR : ¬ gC = gR := (by have := blk_lt BKC.out; omega); have neRC : ¬ gR = gC := fun e => neCR e.symm; have nA_ := Aside0.mk (blk_below BKA.out hb); have nC_ := Aside0.mk (blk_below BKC.out hb); clear BKA BKC; have BKA := nA_; have BKC := nC_; clear nA_ nC_; clear HB; have HB := m0_; have BKR := m1_; have GWR := m2_; clear m0_ m1_ m2_; clear hb hbox hg; have cA0wR : wR.cell? ⟨gA, 0, none⟩ = some (.int .i64 a) := (blk_cell BKA.out 0).trans rfl; have fA0wR := blk_frozen BKA.out 0; have cA1wR : wR.cell? ⟨gA, 1, none⟩ = some (.int .i64 b) := (blk_cell BKA.out 1).trans rfl; have fA1wR := blk_frozen BKA.out 1; have cC0wR : wR.cell? ⟨gC, 0, none⟩ = some (.int .i64 c) := (blk_cell BKC.out 0).trans rfl; have fC0wR := blk_frozen BKC.out 0; have cC1wR : wR.cell? ⟨gC, 1, none⟩ = some (.int .i64 d) := (blk_cell BKC.out 1).trans rfl; have fC1wR := blk_frozen BKC.out 1; have cR0wR : wR.cell? ⟨gR, 0, none⟩ = some (.int .i64 0) := (blk_cell BKR.out 0).trans rfl; have fR0wR := blk_frozen BKR.out 0; have cR1wR : wR.cell? ⟨gR, 1, none⟩ = some (.int .i64 0) := (blk_cell BKR.out 1).trans rfl; have fR1wR := blk_frozen BKR.out 1) | (fail))
  refine (agateref06_May_s.calls (a) (b) _ _ rfl).mono ?_
  rintro e w1 ⟨rfl, hb⟩
  have m0_ := Aside0.mk (below_step (HB.out) hb)
  have nA_ := Aside0.mk (blk_below BKA.out hb)
  have nC_ := Aside0.mk (blk_below BKC.out hb)
  have nR_ := Aside0.mk (blk_below BKR.out hb)
  clear BKA BKC BKR
  have BKA := nA_
  have BKC := nC_
  have BKR := nR_
  clear nA_ nC_ nR_
  clear HB hb
  have HB := m0_
  clear m0_
  have cA0w1 : w1.cell? ⟨gA, 0, none⟩ = some (.int .i64 a) := (blk_cell BKA.out 0).trans rfl
  have fA0w1 := blk_frozen BKA.out 0
  have cA1w1 : w1.cell? ⟨gA, 1, none⟩ = some (.int .i64 b) := (blk_cell BKA.out 1).trans rfl
  have fA1w1 := blk_frozen BKA.out 1
  have cC0w1 : w1.cell? ⟨gC, 0, none⟩ = some (.int .i64 c) := (blk_cell BKC.out 0).trans rfl
  have fC0w1 := blk_frozen BKC.out 0
  have cC1w1 : w1.cell? ⟨gC, 1, none⟩ = some (.int .i64 d) := (blk_cell BKC.out 1).trans rfl
  have fC1w1 := blk_frozen BKC.out 1
  have cR0w1 : w1.cell? ⟨gR, 0, none⟩ = some (.int .i64 0) := (blk_cell BKR.out 0).trans rfl
  have fR0w1 := blk_frozen BKR.out 0
  have cR1w1 : w1.cell? ⟨gR, 1, none⟩ = some (.int .i64 0) := (blk_cell BKR.out 1).trans rfl
  have fR1w1 := blk_frozen BKR.out 1
  cases hm : mayR a b with
  | false =>
    go_wp2_with (first | (fail))
    refine bodyPost_ret (results_ct rfl _ _ gR 23 #[.int .i64 0, .int .i64 0] (0, 0) _ rfl (by (with_reducible repeat (first | refine blk_drewN ?_ _ | refine blk_drew ?_ | refine blk_alloc ?_ _)); refine blk_put (cs := #[.int .i64 0, .int .i64 0]) ?_ 1 _ rfl; (with_reducible repeat (first | refine blk_drewN ?_ _ | refine blk_drew ?_ | refine blk_alloc ?_ _)); refine blk_put (cs := #[.int .i64 0, .int .i64 0]) ?_ 0 _ rfl; (with_reducible repeat (first | refine blk_drewN ?_ _ | refine blk_drew ?_ | refine blk_alloc ?_ _)); exact BKR.out) Try.underlying23 rfl (by kernel_rfl)) rfl ?_
    exact ⟨by rw [Hno.out hm]; rfl, by repeat (first | (with_reducible first | exact HB.out | apply below_alloc | apply pw_below_drewN | apply below_drew1 | refine below_set ?_ GWR.out) | exact HB.out)⟩
  | true =>
    go_wp2_with (first | (fail))
    refine (agateref06_May_s.calls (c) (d) _ _ rfl).mono ?_
    rintro e w2 ⟨rfl, hb⟩
    have m0_ := Aside0.mk (below_step (HB.out) hb)
    have nA_ := Aside0.mk (blk_below BKA.out hb)
    have nC_ := Aside0.mk (blk_below BKC.out hb)
    have nR_ := Aside0.mk (blk_below BKR.out hb)
    clear BKA BKC BKR
    have BKA := nA_
    have BKC := nC_
    have BKR := nR_
    clear nA_ nC_ nR_
    clear HB hb
    have HB := m0_
    clear m0_
    have cA0w2 : w2.cell? ⟨gA, 0, none⟩ = some (.int .i64 a) := (blk_cell BKA.out 0).trans rfl
    have fA0w2 := blk_frozen BKA.out 0
    have cA1w2 : w2.cell? ⟨gA, 1, none⟩ = some (.int .i64 b) := (blk_cell BKA.out 1).trans rfl
    have fA1w2 := blk_frozen BKA.out 1
    have cC0w2 : w2.cell? ⟨gC, 0, none⟩ = some (.int .i64 c) := (blk_cell BKC.out 0).trans rfl
    have fC0w2 := blk_frozen BKC.out 0
    have cC1w2 : w2.cell? ⟨gC, 1, none⟩ = some (.int .i64 d) := (blk_cell BKC.out 1).trans rfl
    have fC1w2 := blk_frozen BKC.out 1
    have cR0w2 : w2.cell? ⟨gR, 0, none⟩ = some (.int .i64 0) := (blk_cell BKR.out 0).trans rfl
    have fR0w2 := blk_frozen BKR.out 0
    have cR1w2 : w2.cell? ⟨gR, 1, none⟩ = some (.int .i64 0) := (blk_cell BKR.out 1).trans rfl
    have fR1w2 := blk_frozen BKR.out 1
    cases hm2 : mayR c d with
    | false =>
      go_wp2_with (first | (fail))
      refine bodyPost_ret (results_ct rfl _ _ gR 23 #[.int .i64 0, .int .i64 0] (0, 0) _ rfl (by (with_reducible repeat (first | refine blk_drewN ?_ _ | refine blk_drew ?_ | refine blk_alloc ?_ _)); refine blk_put (cs := #[.int .i64 0, .int .i64 0]) ?_ 1 _ rfl; (with_reducible repeat (first | refine blk_drewN ?_ _ | refine blk_drew ?_ | refine blk_alloc ?_ _)); refine blk_put (cs := #[.int .i64 0, .int .i64 0]) ?_ 0 _ rfl; (with_reducible repeat (first | refine blk_drewN ?_ _ | refine blk_drew ?_ | refine blk_alloc ?_ _)); exact BKR.out) Try.underlying23 rfl (by kernel_rfl)) rfl ?_
      exact ⟨by rw [Hno2.out hm2]; rfl, by repeat (first | (with_reducible first | exact HB.out | apply below_alloc | apply pw_below_drewN | apply below_drew1 | refine below_set ?_ GWR.out) | exact HB.out)⟩
    | true =>
      have HY := Aside0.mk (Hyes.out hm hm2)
      go_wp2_with (first | ((with_reducible refine gate_dst (N := 8) rfl ?_); refine box_event ?hg (N := 8) ?hd (cs := #[.int .i64 0, .int .i64 0]) (t := 23) ?hr ?_; (case hd => rfl); (case hg => rfl); (case hr => first | (go_simp; done) | (go_simp; rfl)); intro gZ hg wZ hbox hb; have m0_ := Aside0.mk (below_step HB.out hb); have m1_ := Aside0.mk hbox; have m2_ := Aside0.mk (by rw [hg]; exact below_size HB.out : w.heap.size ≤ gZ); have neAZ : ¬ gA = gZ := (by have := blk_lt BKA.out; omega); have neZA : ¬ gZ = gA := fun e => neAZ e.symm; have neCZ : ¬ gC = gZ := (by have := blk_lt BKC.out; omega); have neZC : ¬ gZ = gC := fun e => neCZ e.symm; have neRZ : ¬ gR = gZ := (by have := blk_lt BKR.out; omega); have neZR : ¬ gZ = gR := fun e => neRZ e.symm; have nA_ := Aside0.mk (blk_below BKA.out hb); have nC_ := Aside0.mk (blk_below BKC.out hb); have nR_ := Aside0.mk (blk_below BKR.out hb); clear BKA BKC BKR; have BKA := nA_; have BKC := nC_; have BKR := nR_; clear nA_ nC_ nR_; clear HB; have HB := m0_; have BKZ := m1_; have GWZ := m2_; clear m0_ m1_ m2_; clear hb hbox hg; have cA0wZ : wZ.cell? ⟨gA, 0, none⟩ = some (.int .i64 a) := (blk_cell BKA.out 0).trans rfl; have fA0wZ := blk_frozen BKA.out 0; have cA1wZ : wZ.cell? ⟨gA, 1, none⟩ = some (.int .i64 b) := (blk_cell BKA.out 1).trans rfl; have fA1wZ := blk_frozen BKA.out 1; have cC0wZ : wZ.cell? ⟨gC, 0, none⟩ = some (.int .i64 c) := (blk_cell BKC.out 0).trans rfl; have fC0wZ := blk_frozen BKC.out 0; have cC1wZ : wZ.cell? ⟨gC, 1, none⟩ = some (.int .i64 d) := (blk_cell BKC.out 1).trans rfl; have fC1wZ := blk_frozen BKC.out 1; have cR0wZ : wZ.cell? ⟨gR, 0, none⟩ = some (.int .i64 0) := (blk_cell BKR.out 0).trans rfl; have fR0wZ := blk_frozen BKR.out 0; have cR1wZ : wZ.cell? ⟨gR, 1, none⟩ = some (.int .i64 0) := (blk_cell BKR.out 1).trans rfl; have fR1wZ := blk_frozen BKR.out 1; have cZ0wZ : wZ.cell? ⟨gZ, 0, none⟩ = some (.int .i64 0) := (blk_cell BKZ.out 0).trans rfl; have fZ0wZ := blk_frozen BKZ.out 0; have cZ1wZ : wZ.cell? ⟨gZ, 1, none⟩ = some (.int .i64 0) := (blk_cell BKZ.out 1).trans rfl; have fZ1wZ := blk_frozen BKZ.out 1; have z0 : ((((wZ.setCell ⟨gZ, 0, none⟩ (.int .i64 (wrap64 (-a)))).setCell ⟨gZ, 1, none⟩ (.int .i64 (wrap64 (-b)))).setCell ⟨gZ, 0, none⟩ (.int .i64 (wrap64 (wrap64 (a * c) - wrap64 (b * d))))).setCell ⟨gZ, 1, none⟩ (.int .i64 (wrap64 (wrap64 (a * d) + wrap64 (b * c))))).cell? ⟨gZ, 0, none⟩ = some (.int .i64 (wrap64 (wrap64 (a * c) - wrap64 (b * d)))) := (blk_cell (blk_put (blk_put (blk_put (blk_put BKZ.out 0 _ rfl) 1 _ rfl) 0 _ rfl) 1 _ rfl) 0).trans rfl; have z1 : ((((wZ.setCell ⟨gZ, 0, none⟩ (.int .i64 (wrap64 (-a)))).setCell ⟨gZ, 1, none⟩ (.int .i64 (wrap64 (-b)))).setCell ⟨gZ, 0, none⟩ (.int .i64 (wrap64 (wrap64 (a * c) - wrap64 (b * d))))).setCell ⟨gZ, 1, none⟩ (.int .i64 (wrap64 (wrap64 (a * d) + wrap64 (b * c))))).cell? ⟨gZ, 1, none⟩ = some (.int .i64 (wrap64 (wrap64 (a * d) + wrap64 (b * c)))) := (blk_cell (blk_put (blk_put (blk_put (blk_put BKZ.out 0 _ rfl) 1 _ rfl) 0 _ rfl) 1 _ rfl) 1).trans rfl) | (fail))
      refine (agateref06_May_s.calls (wrap64 (wrap64 (a * c) - wrap64 (b * d))) (wrap64 (wrap64 (a * d) + wrap64 (b * c))) _ _ rfl).mono ?_
      rintro e w3 ⟨rfl, hb⟩
      have m0_ := Aside0.mk (below_step (below_set (below_set (below_set (below_set HB.out GWZ.out) GWZ.out) GWZ.out) GWZ.out) hb)
      have nA_ := Aside0.mk (blk_below (blk_far (blk_far (blk_far (blk_far BKA.out neAZ _) neAZ _) neAZ _) neAZ _) hb)
      have nC_ := Aside0.mk (blk_below (blk_far (blk_far (blk_far (blk_far BKC.out neCZ _) neCZ _) neCZ _) neCZ _) hb)
      have nR_ := Aside0.mk (blk_below (blk_far (blk_far (blk_far (blk_far BKR.out neRZ _) neRZ _) neRZ _) neRZ _) hb)
      have nZ_ := Aside0.mk (blk_below (blk_put (blk_put (blk_put (blk_put BKZ.out 0 _ rfl) 1 _ rfl) 0 _ rfl) 1 _ rfl) hb)
      clear BKA BKC BKR BKZ
      have BKA := nA_
      have BKC := nC_
      have BKR := nR_
      have BKZ := nZ_
      clear nA_ nC_ nR_ nZ_
      clear HB hb
      have HB := m0_
      clear m0_
      have cA0w3 : w3.cell? ⟨gA, 0, none⟩ = some (.int .i64 a) := (blk_cell BKA.out 0).trans rfl
      have fA0w3 := blk_frozen BKA.out 0
      have cA1w3 : w3.cell? ⟨gA, 1, none⟩ = some (.int .i64 b) := (blk_cell BKA.out 1).trans rfl
      have fA1w3 := blk_frozen BKA.out 1
      have cC0w3 : w3.cell? ⟨gC, 0, none⟩ = some (.int .i64 c) := (blk_cell BKC.out 0).trans rfl
      have fC0w3 := blk_frozen BKC.out 0
      have cC1w3 : w3.cell? ⟨gC, 1, none⟩ = some (.int .i64 d) := (blk_cell BKC.out 1).trans rfl
      have fC1w3 := blk_frozen BKC.out 1
      have cR0w3 : w3.cell? ⟨gR, 0, none⟩ = some (.int .i64 0) := (blk_cell BKR.out 0).trans rfl
      have fR0w3 := blk_frozen BKR.out 0
      have cR1w3 : w3.cell? ⟨gR, 1, none⟩ = some (.int .i64 0) := (blk_cell BKR.out 1).trans rfl
      have fR1w3 := blk_frozen BKR.out 1
      have cZ0w3 : w3.cell? ⟨gZ, 0, none⟩ = some (.int .i64 (wrap64 (wrap64 (a * c) - wrap64 (b * d)))) := (blk_cell BKZ.out 0).trans rfl
      have fZ0w3 := blk_frozen BKZ.out 0
      have cZ1w3 : w3.cell? ⟨gZ, 1, none⟩ = some (.int .i64 (wrap64 (wrap64 (a * d) + wrap64 (b * c)))) := (blk_cell BKZ.out 1).trans rfl
      have fZ1w3 := blk_frozen BKZ.out 1
      cases hm3 : mayR (wrap64 (wrap64 (a * c) - wrap64 (b * d))) (wrap64 (wrap64 (a * d) + wrap64 (b * c))) with
      | false =>
        go_wp2_with (first | (fail))
        refine bodyPost_ret (results_ct rfl _ _ gR 23 #[.int .i64 0, .int .i64 0] (0, 0) _ rfl (by (with_reducible repeat (first | refine blk_drewN ?_ _ | refine blk_drew ?_ | refine blk_alloc ?_ _)); refine blk_put (cs := #[.int .i64 0, .int .i64 0]) ?_ 1 _ rfl; (with_reducible repeat (first | refine blk_drewN ?_ _ | refine blk_drew ?_ | refine blk_alloc ?_ _)); refine blk_put (cs := #[.int .i64 0, .int .i64 0]) ?_ 0 _ rfl; (with_reducible repeat (first | refine blk_drewN ?_ _ | refine blk_drew ?_ | refine blk_alloc ?_ _)); exact BKR.out) Try.underlying23 rfl (by kernel_rfl)) rfl ?_
        exact ⟨by rw [HY.out, hm3]; rfl, by repeat (first | (with_reducible first | exact HB.out | apply below_alloc | apply pw_below_drewN | apply below_drew1 | refine below_set ?_ GWR.out | refine below_set ?_ GWZ.out) | exact HB.out)⟩
      | true =>
        go_wp2_with (first | (fail))
        refine bodyPost_ret (results_ct rfl _ _ gR 23 #[.int .i64 (wrap64 (wrap64 (a * c) - wrap64 (b * d))), .int .i64 (wrap64 (wrap64 (a * d) + wrap64 (b * c)))] (0, 0) _ rfl (by (with_reducible repeat (first | refine blk_drewN ?_ _ | refine blk_drew ?_ | refine blk_alloc ?_ _)); refine blk_put (cs := #[.int .i64 (wrap64 (wrap64 (a * c) - wrap64 (b * d))), .int .i64 0]) ?_ 1 _ rfl; (with_reducible repeat (first | refine blk_drewN ?_ _ | refine blk_drew ?_ | refine blk_alloc ?_ _)); refine blk_put (cs := #[.int .i64 0, .int .i64 0]) ?_ 0 _ rfl; (with_reducible repeat (first | refine blk_drewN ?_ _ | refine blk_drew ?_ | refine blk_alloc ?_ _)); exact BKR.out) Try.underlying23 rfl (by kernel_rfl)) rfl ?_
        exact ⟨by rw [HY.out, hm3]; rfl, by repeat (first | (with_reducible first | exact HB.out | apply below_alloc | apply pw_below_drewN | apply below_drew1 | refine below_set ?_ GWR.out | refine below_set ?_ GWZ.out) | exact HB.out)⟩
set_option maxHeartbeats 8000000 in
set_option maxRecDepth 100000 in
theorem agateref06_Do.calls3 (a b c d : Int) (w : World) :
    Calls Try.prog 18 #[.int .i64 3, .agg #[.int .i64 a, .int .i64 b], .agg #[.int .i64 c, .int .i64 d]] w fun e w' => e = .returned (.tuple #[.agg #[.int .i64 (doR 3 a b c d).1, .int .i64 (doR 3 a b c d).2.1], .int .i64 (doR 3 a b c d).2.2]) ∧ Below w.heap.size w w' := by
  have Hno := Aside0.mk (do_no 3 a b c d)
  have Hyes := Aside0.mk (fun (h1 : mayR a b = true) => (show doR 3 a b c d = (if mayR (wrap64 (-a)) (wrap64 (-b)) = true then (wrap64 (-a), wrap64 (-b), 0) else (0, 0, 17)) by
    obtain ⟨ba, bb⟩ := mayR_of h1
    have e1 : wrap64 (-a) = -a := wrap64_id (by omega) (by omega)
    have e2 : wrap64 (-b) = -b := wrap64_id (by omega) (by omega)
    rw [e1, e2]; unfold doR; rw [h1]; rfl))
  have HB := Aside0.mk (Below.refl w.heap.size w)
  go_enter Try.func18, Try.ntmps18
  go_wp2_with (first | ((with_reducible refine gate_dst (N := 4) rfl ?_); refine box_event ?hg (N := 4) ?hd (cs := #[.int .i64 a, .int .i64 b]) (t := 23) ?hr ?_; (case hd => rfl); (case hg => rfl); (case hr => first | (go_simp; done) | (go_simp; rfl)); intro gA hg wA hbox hb; have m0_ := Aside0.mk (below_step HB.out hb); have m1_ := Aside0.mk hbox; have m2_ := Aside0.mk (by rw [hg]; exact below_size HB.out : w.heap.size ≤ gA); clear HB; have HB := m0_; have BKA := m1_; have GWA := m2_; clear m0_ m1_ m2_; clear hb hbox hg; have cA0wA : wA.cell? ⟨gA, 0, none⟩ = some (.int .i64 a) := (blk_cell BKA.out 0).trans rfl; have fA0wA := blk_frozen BKA.out 0; have cA1wA : wA.cell? ⟨gA, 1, none⟩ = some (.int .i64 b) := (blk_cell BKA.out 1).trans rfl; have fA1wA := blk_frozen BKA.out 1) | ((with_reducible refine gate_dst (N := 5) rfl ?_); refine box_event ?hg (N := 5) ?hd (cs := #[.int .i64 c, .int .i64 d]) (t := 23) ?hr ?_; (case hd => rfl); (case hg => rfl); (case hr => first | (go_simp; done) | (go_simp; rfl)); intro gC hg wC hbox hb; have m0_ := Aside0.mk (below_step HB.out hb); have m1_ := Aside0.mk hbox; have m2_ := Aside0.mk (by rw [hg]; exact below_size HB.out : w.heap.size ≤ gC); have neAC : ¬ gA = gC := (by have := blk_lt BKA.out; omega); have neCA : ¬ gC = gA := fun e => neAC e.symm; have nA_ := Aside0.mk (blk_below BKA.out hb); clear BKA; have BKA := nA_; clear nA_; clear HB; have HB := m0_; have BKC := m1_; have GWC := m2_; clear m0_ m1_ m2_; clear hb hbox hg; have cA0wC : wC.cell? ⟨gA, 0, none⟩ = some (.int .i64 a) := (blk_cell BKA.out 0).trans rfl; have fA0wC := blk_frozen BKA.out 0; have cA1wC : wC.cell? ⟨gA, 1, none⟩ = some (.int .i64 b) := (blk_cell BKA.out 1).trans rfl; have fA1wC := blk_frozen BKA.out 1; have cC0wC : wC.cell? ⟨gC, 0, none⟩ = some (.int .i64 c) := (blk_cell BKC.out 0).trans rfl; have fC0wC := blk_frozen BKC.out 0; have cC1wC : wC.cell? ⟨gC, 1, none⟩ = some (.int .i64 d) := (blk_cell BKC.out 1).trans rfl; have fC1wC := blk_frozen BKC.out 1) | ((with_reducible refine gate_dst (N := 6) rfl ?_); refine box_event ?hg (N := 6) ?hd (cs := #[.int .i64 0, .int .i64 0]) (t := 23) ?hr ?_; (case hd => rfl); (case hg => rfl); (case hr => first | (go_simp; done) | (go_simp; rfl)); intro gR hg wR hbox hb; have m0_ := Aside0.mk (below_step HB.out hb); have m1_ := Aside0.mk hbox; have m2_ := Aside0.mk (by rw [hg]; exact below_size HB.out : w.heap.size ≤ gR); have neAR : ¬ gA = gR := (by have := blk_lt BKA.out; omega); have neRA : ¬ gR = gA := fun e => neAR e.symm; have neCR : ¬ gC = gR := (by have := blk_lt BKC.out; omega); have neRC : ¬ gR = gC := fun e => neCR e.symm; have nA_ := Aside0.mk (blk_below BKA.out hb); have nC_ := Aside0.mk (blk_below BKC.out hb); clear BKA BKC; have BKA := nA_; have BKC := nC_; clear nA_ nC_; clear HB; have HB := m0_; have BKR := m1_; have GWR := m2_; clear m0_ m1_ m2_; clear hb hbox hg; have cA0wR : wR.cell? ⟨gA, 0, none⟩ = some (.int .i64 a) := (blk_cell BKA.out 0).trans rfl; have fA0wR := blk_frozen BKA.out 0; have cA1wR : wR.cell? ⟨gA, 1, none⟩ = some (.int .i64 b) := (blk_cell BKA.out 1).trans rfl; have fA1wR := blk_frozen BKA.out 1; have cC0wR : wR.cell? ⟨gC, 0, none⟩ = some (.int .i64 c) := (blk_cell BKC.out 0).trans rfl; have fC0wR := blk_frozen BKC.out 0; have cC1wR : wR.cell? ⟨gC, 1, none⟩ = some (.int .i64 d) := (blk_cell BKC.out 1).trans rfl; have fC1wR := blk_frozen BKC.out 1; have cR0wR : wR.cell? ⟨gR, 0, none⟩ = some (.int .i64 0) := (blk_cell BKR.out 0).trans rfl; have fR0wR := blk_frozen BKR.out 0; have cR1wR : wR.cell? ⟨gR, 1, none⟩ = some (.int .i64 0) := (blk_cell BKR.out 1).trans rfl; have fR1wR := blk_frozen BKR.out 1) | (fail))
  refine (agateref06_May_s.calls (a) (b) _ _ rfl).mono ?_
  rintro e w1 ⟨rfl, hb⟩
  have m0_ := Aside0.mk (below_step (HB.out) hb)
  have nA_ := Aside0.mk (blk_below BKA.out hb)
  have nC_ := Aside0.mk (blk_below BKC.out hb)
  have nR_ := Aside0.mk (blk_below BKR.out hb)
  clear BKA BKC BKR
  have BKA := nA_
  have BKC := nC_
  have BKR := nR_
  clear nA_ nC_ nR_
  clear HB hb
  have HB := m0_
  clear m0_
  have cA0w1 : w1.cell? ⟨gA, 0, none⟩ = some (.int .i64 a) := (blk_cell BKA.out 0).trans rfl
  have fA0w1 := blk_frozen BKA.out 0
  have cA1w1 : w1.cell? ⟨gA, 1, none⟩ = some (.int .i64 b) := (blk_cell BKA.out 1).trans rfl
  have fA1w1 := blk_frozen BKA.out 1
  have cC0w1 : w1.cell? ⟨gC, 0, none⟩ = some (.int .i64 c) := (blk_cell BKC.out 0).trans rfl
  have fC0w1 := blk_frozen BKC.out 0
  have cC1w1 : w1.cell? ⟨gC, 1, none⟩ = some (.int .i64 d) := (blk_cell BKC.out 1).trans rfl
  have fC1w1 := blk_frozen BKC.out 1
  have cR0w1 : w1.cell? ⟨gR, 0, none⟩ = some (.int .i64 0) := (blk_cell BKR.out 0).trans rfl
  have fR0w1 := blk_frozen BKR.out 0
  have cR1w1 : w1.cell? ⟨gR, 1, none⟩ = some (.int .i64 0) := (blk_cell BKR.out 1).trans rfl
  have fR1w1 := blk_frozen BKR.out 1
  cases hm : mayR a b with
  | false =>
    go_wp2_with (first | (fail))
    refine bodyPost_ret (results_ct rfl _ _ gR 23 #[.int .i64 0, .int .i64 0] (0, 0) _ rfl (by (with_reducible repeat (first | refine blk_drewN ?_ _ | refine blk_drew ?_ | refine blk_alloc ?_ _)); refine blk_put (cs := #[.int .i64 0, .int .i64 0]) ?_ 1 _ rfl; (with_reducible repeat (first | refine blk_drewN ?_ _ | refine blk_drew ?_ | refine blk_alloc ?_ _)); refine blk_put (cs := #[.int .i64 0, .int .i64 0]) ?_ 0 _ rfl; (with_reducible repeat (first | refine blk_drewN ?_ _ | refine blk_drew ?_ | refine blk_alloc ?_ _)); exact BKR.out) Try.underlying23 rfl (by kernel_rfl)) rfl ?_
    exact ⟨by rw [Hno.out hm]; rfl, by repeat (first | (with_reducible first | exact HB.out | apply below_alloc | apply pw_below_drewN | apply below_drew1 | refine below_set ?_ GWR.out) | exact HB.out)⟩
  | true =>
    have HY := Aside0.mk (Hyes.out hm)
    go_wp2_with (first | ((with_reducible refine gate_dst (N := 8) rfl ?_); refine box_event ?hg (N := 8) ?hd (cs := #[.int .i64 0, .int .i64 0]) (t := 23) ?hr ?_; (case hd => rfl); (case hg => rfl); (case hr => first | (go_simp; done) | (go_simp; rfl)); intro gZ hg wZ hbox hb; have m0_ := Aside0.mk (below_step HB.out hb); have m1_ := Aside0.mk hbox; have m2_ := Aside0.mk (by rw [hg]; exact below_size HB.out : w.heap.size ≤ gZ); have neAZ : ¬ gA = gZ := (by have := blk_lt BKA.out; omega); have neZA : ¬ gZ = gA := fun e => neAZ e.symm; have neCZ : ¬ gC = gZ := (by have := blk_lt BKC.out; omega); have neZC : ¬ gZ = gC := fun e => neCZ e.symm; have neRZ : ¬ gR = gZ := (by have := blk_lt BKR.out; omega); have neZR : ¬ gZ = gR := fun e => neRZ e.symm; have nA_ := Aside0.mk (blk_below BKA.out hb); have nC_ := Aside0.mk (blk_below BKC.out hb); have nR_ := Aside0.mk (blk_below BKR.out hb); clear BKA BKC BKR; have BKA := nA_; have BKC := nC_; have BKR := nR_; clear nA_ nC_ nR_; clear HB; have HB := m0_; have BKZ := m1_; have GWZ := m2_; clear m0_ m1_ m2_; clear hb hbox hg; have cA0wZ : wZ.cell? ⟨gA, 0, none⟩ = some (.int .i64 a) := (blk_cell BKA.out 0).trans rfl; have fA0wZ := blk_frozen BKA.out 0; have cA1wZ : wZ.cell? ⟨gA, 1, none⟩ = some (.int .i64 b) := (blk_cell BKA.out 1).trans rfl; have fA1wZ := blk_frozen BKA.out 1; have cC0wZ : wZ.cell? ⟨gC, 0, none⟩ = some (.int .i64 c) := (blk_cell BKC.out 0).trans rfl; have fC0wZ := blk_frozen BKC.out 0; have cC1wZ : wZ.cell? ⟨gC, 1, none⟩ = some (.int .i64 d) := (blk_cell BKC.out 1).trans rfl; have fC1wZ := blk_frozen BKC.out 1; have cR0wZ : wZ.cell? ⟨gR, 0, none⟩ = some (.int .i64 0) := (blk_cell BKR.out 0).trans rfl; have fR0wZ := blk_frozen BKR.out 0; have cR1wZ : wZ.cell? ⟨gR, 1, none⟩ = some (.int .i64 0) := (blk_cell BKR.out 1).trans rfl; have fR1wZ := blk_frozen BKR.out 1; have cZ0wZ : wZ.cell? ⟨gZ, 0, none⟩ = some (.int .i64 0) := (blk_cell BKZ.out 0).trans rfl; have fZ0wZ := blk_frozen BKZ.out 0; have cZ1wZ : wZ.cell? ⟨gZ, 1, none⟩ = some (.int .i64 0) := (blk_cell BKZ.out 1).trans rfl; have fZ1wZ := blk_frozen BKZ.out 1; have z0 : ((wZ.setCell ⟨gZ, 0, none⟩ (.int .i64 (wrap64 (-a)))).setCell ⟨gZ, 1, none⟩ (.int .i64 (wrap64 (-b)))).cell? ⟨gZ, 0, none⟩ = some (.int .i64 (wrap64 (-a))) := (blk_cell (blk_put (blk_put BKZ.out 0 _ rfl) 1 _ rfl) 0).trans rfl; have z1 : ((wZ.setCell ⟨gZ, 0, none⟩ (.int .i64 (wrap64 (-a)))).setCell ⟨gZ, 1, none⟩ (.int .i64 (wrap64 (-b)))).cell? ⟨gZ, 1, none⟩ = some (.int .i64 (wrap64 (-b))) := (blk_cell (blk_put (blk_put BKZ.out 0 _ rfl) 1 _ rfl) 1).trans rfl) | (fail))
    refine (agateref06_May_s.calls (wrap64 (-a)) (wrap64 (-b)) _ _ rfl).mono ?_
    rintro e w3 ⟨rfl, hb⟩
    have m0_ := Aside0.mk (below_step (below_set (below_set HB.out GWZ.out) GWZ.out) hb)
    have nA_ := Aside0.mk (blk_below (blk_far (blk_far BKA.out neAZ _) neAZ _) hb)
    have nC_ := Aside0.mk (blk_below (blk_far (blk_far BKC.out neCZ _) neCZ _) hb)
    have nR_ := Aside0.mk (blk_below (blk_far (blk_far BKR.out neRZ _) neRZ _) hb)
    have nZ_ := Aside0.mk (blk_below (blk_put (blk_put BKZ.out 0 _ rfl) 1 _ rfl) hb)
    clear BKA BKC BKR BKZ
    have BKA := nA_
    have BKC := nC_
    have BKR := nR_
    have BKZ := nZ_
    clear nA_ nC_ nR_ nZ_
    clear HB hb
    have HB := m0_
    clear m0_
    have cA0w3 : w3.cell? ⟨gA, 0, none⟩ = some (.int .i64 a) := (blk_cell BKA.out 0).trans rfl
    have fA0w3 := blk_frozen BKA.out 0
    have cA1w3 : w3.cell? ⟨gA, 1, none⟩ = some (.int .i64 b) := (blk_cell BKA.out 1).trans rfl
    have fA1w3 := blk_frozen BKA.out 1
    have cC0w3 : w3.cell? ⟨gC, 0, none⟩ = some (.int .i64 c) := (blk_cell BKC.out 0).trans rfl
    have fC0w3 := blk_frozen BKC.out 0
    have cC1w3 : w3.cell? ⟨gC, 1, none⟩ = some (.int .i64 d) := (blk_cell BKC.out 1).trans rfl
    have fC1w3 := blk_frozen BKC.out 1
    have cR0w3 : w3.cell? ⟨gR, 0, none⟩ = some (.int .i64 0) := (blk_cell BKR.out 0).trans rfl
    have fR0w3 := blk_frozen BKR.out 0
    have cR1w3 : w3.cell? ⟨gR, 1, none⟩ = some (.int .i64 0) := (blk_cell BKR.out 1).trans rfl
    have fR1w3 := blk_frozen BKR.out 1
    have cZ0w3 : w3.cell? ⟨gZ, 0, none⟩ = some (.int .i64 (wrap64 (-a))) := (blk_cell BKZ.out 0).trans rfl
    have fZ0w3 := blk_frozen BKZ.out 0
    have cZ1w3 : w3.cell? ⟨gZ, 1, none⟩ = some (.int .i64 (wrap64 (-b))) := (blk_cell BKZ.out 1).trans rfl
    have fZ1w3 := blk_frozen BKZ.out 1
    cases hm3 : mayR (wrap64 (-a)) (wrap64 (-b)) with
    | false =>
      go_wp2_with (first | (fail))
      refine bodyPost_ret (results_ct rfl _ _ gR 23 #[.int .i64 0, .int .i64 0] (0, 0) _ rfl (by (with_reducible repeat (first | refine blk_drewN ?_ _ | refine blk_drew ?_ | refine blk_alloc ?_ _)); refine blk_put (cs := #[.int .i64 0, .int .i64 0]) ?_ 1 _ rfl; (with_reducible repeat (first | refine blk_drewN ?_ _ | refine blk_drew ?_ | refine blk_alloc ?_ _)); refine blk_put (cs := #[.int .i64 0, .int .i64 0]) ?_ 0 _ rfl; (with_reducible repeat (first | refine blk_drewN ?_ _ | refine blk_drew ?_ | refine blk_alloc ?_ _)); exact BKR.out) Try.underlying23 rfl (by kernel_rfl)) rfl ?_
      exact ⟨by rw [HY.out, hm3]; rfl, by repeat (first | (with_reducible first | exact HB.out | apply below_alloc | apply pw_below_drewN | apply below_drew1 | refine below_set ?_ GWR.out | refine below_set ?_ GWZ.out) | exact HB.out)⟩
    | true =>
      go_wp2_with (first | (fail))
      refine bodyPost_ret (results_ct rfl _ _ gR 23 #[.int .i64 (wrap64 (-a)), .int .i64 (wrap64 (-b))] (0, 0) _ rfl (by (with_reducible repeat (first | refine blk_drewN ?_ _ | refine blk_drew ?_ | refine blk_alloc ?_ _)); refine blk_put (cs := #[.int .i64 (wrap64 (-a)), .int .i64 0]) ?_ 1 _ rfl; (with_reducible repeat (first | refine blk_drewN ?_ _ | refine blk_drew ?_ | refine blk_alloc ?_ _)); refine blk_put (cs := #[.int .i64 0, .int .i64 0]) ?_ 0 _ rfl; (with_reducible repeat (first | refine blk_drewN ?_ _ | refine blk_drew ?_ | refine blk_alloc ?_ _)); exact BKR.out) Try.underlying23 rfl (by kernel_rfl)) rfl ?_
      exact ⟨by rw [HY.out, hm3]; rfl, by repeat (first | (with_reducible first | exact HB.out | apply below_alloc | apply pw_below_drewN | apply below_drew1 | refine below_set ?_ GWR.out | refine below_set ?_ GWZ.out) | exact HB.out)⟩

end Go.Proofs.Ytpojamikfcmnoaa.X
