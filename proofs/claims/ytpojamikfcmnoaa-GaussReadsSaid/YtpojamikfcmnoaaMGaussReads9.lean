import Derived.Test.YtpojamikfcmnoaaMGaussReads0
import Derived.Test.YtpojamikfcmnoaaMGaussReads2
import Derived.Test.YtpojamikfcmnoaaMGaussReads5
import Derived.Test.YtpojamikfcmnoaaMGaussReads7
import Derived.Test.YtpojamikfcmnoaaMGaussReads4
import Derived.Test.YtpojamikfcmnoaaMGaussReads8
import Derived.Test.YtpojamikfcmnoaaMGaussReads1
import Derived.ChangeSlices
import Derived.SizedLaws
import Derived.ProofKit
import Derived.OpenShut
import Derived.ShutString
import Derived.ChangeOld
-- by xprint.py, a program of this session, over the kit's print.py
namespace Go.Proofs.Ytpojamikfcmnoaa.X
open Go.RowKit Go.Proofs.YtpojamikfcmnoaaW.PrintWords Go.Proofs.YtpojamikfcmnoaaW.PrintLast Go.Proofs.YtpojamikfcmnoaaW.PrintMore
attribute [local go_sem] max2_int min2_int max_two min_two max_three min_three max_four min_four   -- for this text's walks alone
set_option linter.unusedVariables false
set_option linter.unusedSimpArgs false

def agatelaw06_GaussReads.f (b : ByteArray) (a c : Int) : Option Bool := some true
set_option maxHeartbeats 8000000 in
set_option maxRecDepth 100000 in
theorem agatelaw06_GaussReads.calls (b : ByteArray) (a c : Int) (r : Bool) (w : World) (h : agatelaw06_GaussReads.f b a c = some r) :
    Calls Try.prog 5 #[.string b, .int .i64 a, .int .i64 c] w fun e w' => e = .returned (.bool r) ∧ Below w.heap.size w w' := by
  obtain rfl := Option.some.inj h
  have HB := Aside0.mk (Below.refl w.heap.size w)
  clear h
  by_cases hl : b.size > 100
  · have hlb : decide (100 < (b.size : Int)) = true := decide_eq_true (by omega)
    go_enter Try.func5, Try.ntmps5
    go_wp2_with (first | ((with_reducible refine gate_dst (N := 7) rfl ?_); refine box_event ?hg (N := 7) ?hd (cs := #[.int .i64 0, .int .i64 0]) (t := 23) ?hr ?_; (case hd => rfl); (case hg => rfl); (case hr => first | (go_simp; done) | (go_simp; rfl)); intro gZ hg wZ hbox hb; have m0_ := Aside0.mk (below_step HB.out hb); have m1_ := Aside0.mk hbox; have m2_ := Aside0.mk (by rw [hg]; exact below_size HB.out : w.heap.size ≤ gZ); clear HB; have HB := m0_; have BKZ := m1_; have GWZ := m2_; clear m0_ m1_ m2_; clear hb hbox hg; have cZ0wZ : wZ.cell? ⟨gZ, 0, none⟩ = some (.int .i64 0) := (blk_cell BKZ.out 0).trans rfl; have fZ0wZ := blk_frozen BKZ.out 0; have cZ1wZ : wZ.cell? ⟨gZ, 1, none⟩ = some (.int .i64 0) := (blk_cell BKZ.out 1).trans rfl; have fZ1wZ := blk_frozen BKZ.out 1; have z0 : ((wZ.setCell ⟨gZ, 0, none⟩ (.int .i64 a)).setCell ⟨gZ, 1, none⟩ (.int .i64 c)).cell? ⟨gZ, 0, none⟩ = some (.int .i64 a) := (blk_cell (blk_put (blk_put BKZ.out 0 _ rfl) 1 _ rfl) 0).trans rfl; have z1 : ((wZ.setCell ⟨gZ, 0, none⟩ (.int .i64 a)).setCell ⟨gZ, 1, none⟩ (.int .i64 c)).cell? ⟨gZ, 1, none⟩ = some (.int .i64 c) := (blk_cell (blk_put (blk_put BKZ.out 0 _ rfl) 1 _ rfl) 1).trans rfl) | (fail))
    refine (agatelaw06_Awake.calls true _ rfl).mono ?_
    rintro e wE ⟨rfl, hb⟩
    have HB2 := Aside0.mk (below_step (below_set (below_set HB.out GWZ.out) GWZ.out) hb)
    clear HB hb
    have HB := HB2
    go_wp2_with (first | (fail))
    go_ret
    exact ⟨rfl, HB.out⟩
  · have hlb : decide (100 < (b.size : Int)) = false := decide_eq_false (by omega)
    go_enter Try.func5, Try.ntmps5
    go_wp2_with (first | ((with_reducible refine gate_dst (N := 7) rfl ?_); refine box_event ?hg (N := 7) ?hd (cs := #[.int .i64 0, .int .i64 0]) (t := 23) ?hr ?_; (case hd => rfl); (case hg => rfl); (case hr => first | (go_simp; done) | (go_simp; rfl)); intro gZ hg wZ hbox hb; have m0_ := Aside0.mk (below_step HB.out hb); have m1_ := Aside0.mk hbox; have m2_ := Aside0.mk (by rw [hg]; exact below_size HB.out : w.heap.size ≤ gZ); clear HB; have HB := m0_; have BKZ := m1_; have GWZ := m2_; clear m0_ m1_ m2_; clear hb hbox hg; have cZ0wZ : wZ.cell? ⟨gZ, 0, none⟩ = some (.int .i64 0) := (blk_cell BKZ.out 0).trans rfl; have fZ0wZ := blk_frozen BKZ.out 0; have cZ1wZ : wZ.cell? ⟨gZ, 1, none⟩ = some (.int .i64 0) := (blk_cell BKZ.out 1).trans rfl; have fZ1wZ := blk_frozen BKZ.out 1; have z0 : ((wZ.setCell ⟨gZ, 0, none⟩ (.int .i64 a)).setCell ⟨gZ, 1, none⟩ (.int .i64 c)).cell? ⟨gZ, 0, none⟩ = some (.int .i64 a) := (blk_cell (blk_put (blk_put BKZ.out 0 _ rfl) 1 _ rfl) 0).trans rfl; have z1 : ((wZ.setCell ⟨gZ, 0, none⟩ (.int .i64 a)).setCell ⟨gZ, 1, none⟩ (.int .i64 c)).cell? ⟨gZ, 1, none⟩ = some (.int .i64 c) := (blk_cell (blk_put (blk_put BKZ.out 0 _ rfl) 1 _ rfl) 1).trans rfl) | (fail))
    refine (agatelaw06_near.calls a c _ _ (near_f a c)).mono ?_
    rintro e w1 ⟨rfl, hb⟩
    have m0_ := Aside0.mk (below_step (below_set (below_set HB.out GWZ.out) GWZ.out) hb)
    have nZ_ := Aside0.mk (blk_below (blk_put (blk_put BKZ.out 0 _ rfl) 1 _ rfl) hb)
    clear BKZ
    have BKZ := nZ_
    clear nZ_
    clear HB hb
    have HB := m0_
    clear m0_
    have cZ0w1 : w1.cell? ⟨gZ, 0, none⟩ = some (.int .i64 a) := (blk_cell BKZ.out 0).trans rfl
    have fZ0w1 := blk_frozen BKZ.out 0
    have cZ1w1 : w1.cell? ⟨gZ, 1, none⟩ = some (.int .i64 c) := (blk_cell BKZ.out 1).trans rfl
    have fZ1w1 := blk_frozen BKZ.out 1
    cases hn1 : nearR a c with
    | false =>
      go_wp2_with (first | (fail))
      refine (agatelaw06_Awake.calls true _ rfl).mono ?_
      rintro e wE ⟨rfl, hb⟩
      have HB2 := Aside0.mk (below_step HB.out hb)
      clear HB hb
      have HB := HB2
      go_wp2_with (first | (fail))
      go_ret
      exact ⟨rfl, HB.out⟩
    | true =>
      have HN1 := Aside0.mk hn1
      clear hn1
      go_wp2_with (first | (fail))
      refine (gauss_Read.calls b _).mono ?_
      rintro e w2 ⟨rfl, hb⟩
      have m0_ := Aside0.mk (below_step (HB.out) hb)
      have nZ_ := Aside0.mk (blk_below BKZ.out hb)
      clear BKZ
      have BKZ := nZ_
      clear nZ_
      clear HB hb
      have HB := m0_
      clear m0_
      have cZ0w2 : w2.cell? ⟨gZ, 0, none⟩ = some (.int .i64 a) := (blk_cell BKZ.out 0).trans rfl
      have fZ0w2 := blk_frozen BKZ.out 0
      have cZ1w2 : w2.cell? ⟨gZ, 1, none⟩ = some (.int .i64 c) := (blk_cell BKZ.out 1).trans rfl
      have fZ1w2 := blk_frozen BKZ.out 1
      have Hs := readR_small b
      rw [show readF b = (floatOfInt .f64 (readR b).1, floatOfInt .f64 (readR b).2.1, (readR b).2.2) from rfl]
      go_wp2_with (first | (fail))
      refine (agateref06_Read_s.calls b (readR b).1 (readR b).2.1 (readR b).2.2 _ rfl).mono ?_
      rintro e w3 ⟨rfl, hb⟩
      have m0_ := Aside0.mk (below_step (HB.out) hb)
      have nZ_ := Aside0.mk (blk_below BKZ.out hb)
      clear BKZ
      have BKZ := nZ_
      clear nZ_
      clear HB hb
      have HB := m0_
      clear m0_
      have cZ0w3 : w3.cell? ⟨gZ, 0, none⟩ = some (.int .i64 a) := (blk_cell BKZ.out 0).trans rfl
      have fZ0w3 := blk_frozen BKZ.out 0
      have cZ1w3 : w3.cell? ⟨gZ, 1, none⟩ = some (.int .i64 c) := (blk_cell BKZ.out 1).trans rfl
      have fZ1w3 := blk_frozen BKZ.out 1
      generalize readR b = q at Hs ⊢
      obtain ⟨q1, q2, q3⟩ := q
      dsimp only at Hs ⊢
      have o1 := order_F q1 (by omega) (by omega)
      have o2 := order_F q2 (by omega) (by omega)
      go_wp2_with (first | ((with_reducible refine gate_dst (N := 10) rfl ?_); refine box_event ?hg (N := 10) ?hd (cs := #[.int .i64 0, .int .i64 0]) (t := 23) ?hr ?_; (case hd => rfl); (case hg => rfl); (case hr => first | (go_simp; done) | (go_simp; rfl)); intro gY hg wY hbox hb; have m0_ := Aside0.mk (below_step HB.out hb); have m1_ := Aside0.mk hbox; have m2_ := Aside0.mk (by rw [hg]; exact below_size HB.out : w.heap.size ≤ gY); have neZY : ¬ gZ = gY := (by have := blk_lt BKZ.out; omega); have neYZ : ¬ gY = gZ := fun e => neZY e.symm; have nZ_ := Aside0.mk (blk_below BKZ.out hb); clear BKZ; have BKZ := nZ_; clear nZ_; clear HB; have HB := m0_; have BKY := m1_; have GWY := m2_; clear m0_ m1_ m2_; clear hb hbox hg; have cZ0wY : wY.cell? ⟨gZ, 0, none⟩ = some (.int .i64 a) := (blk_cell BKZ.out 0).trans rfl; have fZ0wY := blk_frozen BKZ.out 0; have cZ1wY : wY.cell? ⟨gZ, 1, none⟩ = some (.int .i64 c) := (blk_cell BKZ.out 1).trans rfl; have fZ1wY := blk_frozen BKZ.out 1; have cY0wY : wY.cell? ⟨gY, 0, none⟩ = some (.int .i64 0) := (blk_cell BKY.out 0).trans rfl; have fY0wY := blk_frozen BKY.out 0; have cY1wY : wY.cell? ⟨gY, 1, none⟩ = some (.int .i64 0) := (blk_cell BKY.out 1).trans rfl; have fY1wY := blk_frozen BKY.out 1; have z0 : ((wY.setCell ⟨gY, 0, none⟩ (.int .i64 q1)).setCell ⟨gY, 1, none⟩ (.int .i64 q2)).cell? ⟨gZ, 0, none⟩ = some (.int .i64 a) := (blk_cell (blk_far (blk_far BKZ.out neZY _) neZY _) 0).trans rfl; have z1 : ((wY.setCell ⟨gY, 0, none⟩ (.int .i64 q1)).setCell ⟨gY, 1, none⟩ (.int .i64 q2)).cell? ⟨gZ, 1, none⟩ = some (.int .i64 c) := (blk_cell (blk_far (blk_far BKZ.out neZY _) neZY _) 1).trans rfl) | (fail))
      refine (law06_Of.calls a c _).mono ?_
      rintro e w4 ⟨rfl, hb⟩
      have m0_ := Aside0.mk (below_step (below_set (below_set HB.out GWY.out) GWY.out) hb)
      have nZ_ := Aside0.mk (blk_below (blk_far (blk_far BKZ.out neZY _) neZY _) hb)
      have nY_ := Aside0.mk (blk_below (blk_put (blk_put BKY.out 0 _ rfl) 1 _ rfl) hb)
      clear BKZ BKY
      have BKZ := nZ_
      have BKY := nY_
      clear nZ_ nY_
      clear HB hb
      have HB := m0_
      clear m0_
      have cZ0w4 : w4.cell? ⟨gZ, 0, none⟩ = some (.int .i64 a) := (blk_cell BKZ.out 0).trans rfl
      have fZ0w4 := blk_frozen BKZ.out 0
      have cZ1w4 : w4.cell? ⟨gZ, 1, none⟩ = some (.int .i64 c) := (blk_cell BKZ.out 1).trans rfl
      have fZ1w4 := blk_frozen BKZ.out 1
      have cY0w4 : w4.cell? ⟨gY, 0, none⟩ = some (.int .i64 q1) := (blk_cell BKY.out 0).trans rfl
      have fY0w4 := blk_frozen BKY.out 0
      have cY1w4 : w4.cell? ⟨gY, 1, none⟩ = some (.int .i64 q2) := (blk_cell BKY.out 1).trans rfl
      have fY1w4 := blk_frozen BKY.out 1
      go_wp2_with (first | (fail))
      refine (reck_PutN.calls a c HN1.out _).mono ?_
      rintro e w5 ⟨rfl, hb⟩
      have m0_ := Aside0.mk (below_step (HB.out) hb)
      have nZ_ := Aside0.mk (blk_below BKZ.out hb)
      have nY_ := Aside0.mk (blk_below BKY.out hb)
      clear BKZ BKY
      have BKZ := nZ_
      have BKY := nY_
      clear nZ_ nY_
      clear HB hb
      have HB := m0_
      clear m0_
      have cZ0w5 : w5.cell? ⟨gZ, 0, none⟩ = some (.int .i64 a) := (blk_cell BKZ.out 0).trans rfl
      have fZ0w5 := blk_frozen BKZ.out 0
      have cZ1w5 : w5.cell? ⟨gZ, 1, none⟩ = some (.int .i64 c) := (blk_cell BKZ.out 1).trans rfl
      have fZ1w5 := blk_frozen BKZ.out 1
      have cY0w5 : w5.cell? ⟨gY, 0, none⟩ = some (.int .i64 q1) := (blk_cell BKY.out 0).trans rfl
      have fY0w5 := blk_frozen BKY.out 0
      have cY1w5 : w5.cell? ⟨gY, 1, none⟩ = some (.int .i64 q2) := (blk_cell BKY.out 1).trans rfl
      have fY1w5 := blk_frozen BKY.out 1
      go_wp2_with (first | (fail))
      refine (agateref06_Put_s.calls a c (putR a c).1 (putR a c).2 _ rfl).mono ?_
      rintro e w6 ⟨rfl, hb⟩
      have m0_ := Aside0.mk (below_step (HB.out) hb)
      have nZ_ := Aside0.mk (blk_below BKZ.out hb)
      have nY_ := Aside0.mk (blk_below BKY.out hb)
      clear BKZ BKY
      have BKZ := nZ_
      have BKY := nY_
      clear nZ_ nY_
      clear HB hb
      have HB := m0_
      clear m0_
      have cZ0w6 : w6.cell? ⟨gZ, 0, none⟩ = some (.int .i64 a) := (blk_cell BKZ.out 0).trans rfl
      have fZ0w6 := blk_frozen BKZ.out 0
      have cZ1w6 : w6.cell? ⟨gZ, 1, none⟩ = some (.int .i64 c) := (blk_cell BKZ.out 1).trans rfl
      have fZ1w6 := blk_frozen BKZ.out 1
      have cY0w6 : w6.cell? ⟨gY, 0, none⟩ = some (.int .i64 q1) := (blk_cell BKY.out 0).trans rfl
      have fY0w6 := blk_frozen BKY.out 0
      have cY1w6 : w6.cell? ⟨gY, 1, none⟩ = some (.int .i64 q2) := (blk_cell BKY.out 1).trans rfl
      have fY1w6 := blk_frozen BKY.out 1
      generalize putR a c = s
      obtain ⟨s1, s2⟩ := s
      dsimp only
      go_wp2_with (first | (fail))
      refine (agatelaw06_Awake.calls true _ rfl).mono ?_
      rintro e w7 ⟨rfl, hb⟩
      have m0_ := Aside0.mk (below_step (HB.out) hb)
      have nZ_ := Aside0.mk (blk_below BKZ.out hb)
      have nY_ := Aside0.mk (blk_below BKY.out hb)
      clear BKZ BKY
      have BKZ := nZ_
      have BKY := nY_
      clear nZ_ nY_
      clear HB hb
      have HB := m0_
      clear m0_
      have cZ0w7 : w7.cell? ⟨gZ, 0, none⟩ = some (.int .i64 a) := (blk_cell BKZ.out 0).trans rfl
      have fZ0w7 := blk_frozen BKZ.out 0
      have cZ1w7 : w7.cell? ⟨gZ, 1, none⟩ = some (.int .i64 c) := (blk_cell BKZ.out 1).trans rfl
      have fZ1w7 := blk_frozen BKZ.out 1
      have cY0w7 : w7.cell? ⟨gY, 0, none⟩ = some (.int .i64 q1) := (blk_cell BKY.out 0).trans rfl
      have fY0w7 := blk_frozen BKY.out 0
      have cY1w7 : w7.cell? ⟨gY, 1, none⟩ = some (.int .i64 q2) := (blk_cell BKY.out 1).trans rfl
      have fY1w7 := blk_frozen BKY.out 1
      go_wp2_with (first | (fail))
      refine (law06_Of.calls q1 q2 _).mono ?_
      rintro e w8 ⟨rfl, hb⟩
      have m0_ := Aside0.mk (below_step (HB.out) hb)
      have nZ_ := Aside0.mk (blk_below BKZ.out hb)
      have nY_ := Aside0.mk (blk_below BKY.out hb)
      clear BKZ BKY
      have BKZ := nZ_
      have BKY := nY_
      clear nZ_ nY_
      clear HB hb
      have HB := m0_
      clear m0_
      have cZ0w8 : w8.cell? ⟨gZ, 0, none⟩ = some (.int .i64 a) := (blk_cell BKZ.out 0).trans rfl
      have fZ0w8 := blk_frozen BKZ.out 0
      have cZ1w8 : w8.cell? ⟨gZ, 1, none⟩ = some (.int .i64 c) := (blk_cell BKZ.out 1).trans rfl
      have fZ1w8 := blk_frozen BKZ.out 1
      have cY0w8 : w8.cell? ⟨gY, 0, none⟩ = some (.int .i64 q1) := (blk_cell BKY.out 0).trans rfl
      have fY0w8 := blk_frozen BKY.out 0
      have cY1w8 : w8.cell? ⟨gY, 1, none⟩ = some (.int .i64 q2) := (blk_cell BKY.out 1).trans rfl
      have fY1w8 := blk_frozen BKY.out 1
      go_wp2_with (first | (fail))
      go_ret
      exact ⟨rfl, HB.out⟩

def agatelaw06_GaussReads.Pure : Prop := ∀ (x0 : ByteArray) (x1 : Int) (x2 : Int), (fun a => a.size ≤ 140737488351232) x0 → (fun a => (Lit.int .i64 a).wf = true) x1 → (fun a => (Lit.int .i64 a).wf = true) x2 → agatelaw06_GaussReads.f x0 x1 x2 = some true

end Go.Proofs.Ytpojamikfcmnoaa.X
-- by xprint.py, a program of this session, over the kit's print.py
namespace Go.Proofs.Ytpojamikfcmnoaa.X
open Go.RowKit Go.Proofs.YtpojamikfcmnoaaW.PrintWords Go.Proofs.YtpojamikfcmnoaaW.PrintLast Go.Proofs.YtpojamikfcmnoaaW.PrintMore
attribute [local go_sem] max2_int min2_int max_two min_two max_three min_three max_four min_four   -- for this text's walks alone
set_option linter.unusedVariables false
set_option linter.unusedSimpArgs false

/-! What data read at a type says of a kind: scalars, slices, structs. -/
open Go.ChangeShapes Go.WideShapes
/-- what is read at type t is of the kind d, and is well formed -/
structure Opens {H : Type} (enc : TypeId × Value → H) (P : Program) (W : World) (t : TypeId) {α : Type} (d : Kd α) (wf : α → Prop) : Prop where
  cells : P.cellsOf t = d.sz
  go : ∀ (fuel : Nat) (cs : List Value) (x : DataW H × List MemPlace), DataW.trod enc P W 0 (fun _ => true) true fuel t cs = some x →
    (∀ n ∈ DataW.weights P t x.1, n ≤ reachBytes) → ∃ a, d.K W a cs ∧ wf a
theorem Opens.int {H : Type} {enc : TypeId × Value → H} {P : Program} {W : World} {t : TypeId} {k : IntKind} (ht : P.underlying t = some (.int k)) (hc : P.cellsOf t = 1) :
    Opens enc P W t (Kd.int k) (fun a => (Lit.int k a).wf = true) := by
  refine ⟨hc, fun fuel cs x h _ => ?_⟩
  obtain ⟨n, rfl, _, hw⟩ := DataW.trod_int ht h
  exact ⟨n, rfl, hw⟩
theorem Opens.bool {H : Type} {enc : TypeId × Value → H} {P : Program} {W : World} {t : TypeId} (ht : P.underlying t = some .bool) (hc : P.cellsOf t = 1) :
    Opens enc P W t Kd.bool (fun _ => True) := by
  refine ⟨hc, fun fuel cs x h _ => ?_⟩
  obtain ⟨b, rfl, _⟩ := DataW.trod_bool ht h
  exact ⟨b, rfl, trivial⟩
theorem Opens.string {H : Type} {enc : TypeId × Value → H} {P : Program} {W : World} {t : TypeId} (ht : P.underlying t = some .string) (hc : P.cellsOf t = 1) :
    Opens enc P W t Kd.string (fun a => a.size ≤ 140737488351232) := by
  refine ⟨hc, fun fuel cs x h hw => ?_⟩
  obtain ⟨s, rfl, rfl, _⟩ := DataW.trod_string ht h
  refine ⟨s, rfl, ?_⟩
  have := hw s.data.toList.length (by simp [DataW.weights])
  rw [Array.length_toList] at this
  exact this
theorem weights_all_mem {H : Type} {P : Program} {e : TypeId} : ∀ {l : List (DataW H)} {y : DataW H}, y ∈ l → ∀ n ∈ DataW.weights P e y, n ∈ DataW.weightsAll P e l
  | d :: r, y, hy, n, hn => by
    simp only [DataW.weightsAll, List.mem_append]
    rcases List.mem_cons.1 hy with rfl | hy
    · exact .inl hn
    · exact .inr (weights_all_mem hy n hn)
theorem Opens.slice {H : Type} {enc : TypeId × Value → H} {P : Program} {W : World} {t e : TypeId} {α : Type} {d : Kd α} {wf : α → Prop} {B : Nat} (ht : P.underlying t = some (.slice e)) (hc : P.cellsOf t = 1) (hB : P.bytesOf e = B)
    (he : Opens enc P W e d wf) :
    Opens enc P W t (Kd.slice e d) (fun l => l.length ≤ maxLen ∧ l.length * B ≤ 140737488351232 ∧ ∀ x ∈ l, wf x) := by
  refine ⟨hc, fun fuel cs x h hw => ?_⟩
  rcases DataW.trod_slice ht h with ⟨rfl, rfl⟩ | ⟨a, len, cap, elems, rest, n, _, rfl, rfl, hb, hl, hm, hlen, hel, hsp, hns⟩
  · exact ⟨[], ⟨none, 0, rfl, Nat.le_refl _, rfl, Nat.zero_le _, fun h => absurd h (Nat.lt_irrefl 0)⟩, by simp, by simp, by simp⟩
  · have hwe : ∀ y ∈ elems, ∀ n ∈ DataW.weights P e y.1, n ≤ reachBytes := by
      intro y hy n hn
      refine hw n ?_
      simp only [DataW.weights, ht, List.mem_cons, List.mem_append]
      exact .inr (.inl (weights_all_mem (List.mem_map_of_mem hy) n hn))
    have hsize : (elems.length + rest.length) * P.bytesOf e ≤ reachBytes := by
      have := hw ((elems.length + rest.length) * P.bytesOf e) (by simp [DataW.weights, ht])
      exact this
    have each : ∀ i, i < len → ∃ y c, W.cells? 0 (a.add (i * P.cellsOf e)) (P.cellsOf e) = some c ∧ d.K W y c ∧ wf y := by
      intro i hi
      have h1 := hel i hi
      have h2 : elems[i]? = some elems[i] := List.getElem?_eq_getElem (by omega)
      rw [h2, Option.bind_eq_some_iff] at h1
      obtain ⟨c, hcs, hy⟩ := h1
      obtain ⟨y, hk, hwf⟩ := he.go n c _ hy (hwe _ (List.getElem_mem _))
      exact ⟨y, c, hcs, hk, hwf⟩
    obtain ⟨l, hll, hlp⟩ : ∃ l : List α, l.length = len ∧ ∀ i p, l[i]? = some p → ∃ c, W.cells? 0 (a.add (i * P.cellsOf e)) (P.cellsOf e) = some c ∧ d.K W p c ∧ wf p := by
      clear hel h hw hwe hsize hlen hl hsp hns hm hb ht hc
      induction len with
      | zero => exact ⟨[], rfl, by simp⟩
      | succ m ih =>
        obtain ⟨l, hll, hlp⟩ := ih (fun i hi => each i (by omega))
        obtain ⟨y, c, hcs, hk, hwf⟩ := each m (by omega)
        refine ⟨l ++ [y], by simp [hll], fun i p hp => ?_⟩
        rcases Nat.lt_or_ge i l.length with hi | hi
        · rw [List.getElem?_append_left hi] at hp
          exact hlp i p hp
        · rw [List.getElem?_append_right hi] at hp
          obtain ⟨h0, rfl⟩ : i - l.length = 0 ∧ y = p := by
            rcases hq : i - l.length with _ | q
            · rw [hq] at hp; simpa using hp
            · rw [hq] at hp; simp at hp
          obtain rfl : i = m := by omega
          exact ⟨c, hcs, hk, hwf⟩
    subst hll
    refine ⟨l, ⟨some a, cap, rfl, hl, rfl, by unfold maxLen at hm; omega, fun _ => ⟨a, rfl, fun j p hp => ?_⟩⟩, by omega, ?_, ?_⟩
    · obtain ⟨c, hcs, hk, _⟩ := hlp j p hp
      have hclen := (World.cells?_some hcs).2.1
      refine ⟨c, by rw [hclen, he.cells], hk, fun i u hu => ?_⟩
      have hi : i < P.cellsOf e := by have := (List.getElem?_eq_some_iff.1 hu).1; omega
      have := (World.cells?_some hcs).2.2 i hi
      rw [hu, Addr.add_add] at this
      rw [← he.cells]
      exact this
    · rw [hB] at hsize
      have : l.length * B ≤ (elems.length + rest.length) * B := Nat.mul_le_mul_right _ (by omega)
      exact Nat.le_trans this hsize
    · intro x hx
      obtain ⟨i, hi⟩ := List.getElem?_of_mem hx
      obtain ⟨c, _, _, hwf⟩ := hlp i x hi
      exact hwf
/-- the fields of a struct, from a place on -/
structure OpensF {H : Type} (enc : TypeId × Value → H) (P : Program) (W : World) (fs : List Field) (off : Nat) {α : Type} (d : Kd α) (wf : α → Prop) : Prop where
  go : ∀ (n : Nat) (cs : List Value) (xs : List (DataW H × List MemPlace)), cs.length = off + d.sz →
    (∀ (i : Nat) (f : Field), fs[i]? = some f → DataW.trod enc P W 0 (fun _ => true) true n f.type ((cs.drop f.offset).take (P.cellsOf f.type)) = xs[i]?) → xs.length = fs.length →
    (∀ n ∈ DataW.weightsEach P (fs.map (·.type)) (xs.map (·.1)), n ≤ reachBytes) → ∃ a, d.K W a (cs.drop off) ∧ wf a
theorem OpensF.one {H : Type} {enc : TypeId × Value → H} {P : Program} {W : World} {f : Field} {off : Nat} {α : Type} {d : Kd α} {wf : α → Prop} (ho : f.offset = off) (h : Opens enc P W f.type d wf) :
    OpensF enc P W [f] off d wf := by
  refine ⟨fun n cs xs hl hx hxl hw => ?_⟩
  obtain ⟨x, rfl⟩ : ∃ x, xs = [x] := by
    match xs, hxl with
    | [x], _ => exact ⟨x, rfl⟩
  have h1 := hx 0 f rfl
  rw [ho, List.take_of_length_le (by rw [List.length_drop, h.cells]; omega)] at h1
  exact h.go n _ x h1 (fun m hm => hw m (by simp [DataW.weightsEach, hm]))
theorem OpensF.more {H : Type} {enc : TypeId × Value → H} {P : Program} {W : World} {f : Field} {fs : List Field} {off : Nat} {α β : Type} {d : Kd α} {e : Kd β} {wf : α → Prop} {wg : β → Prop} (ho : f.offset = off) (h : Opens enc P W f.type d wf)
    (hs : OpensF enc P W fs (off + d.sz) e wg) : OpensF enc P W (f :: fs) off (Kd.pair d e) (fun a => wf a.1 ∧ wg a.2) := by
  refine ⟨fun n cs xs hl hx hxl hw => ?_⟩
  obtain ⟨x, xs, rfl⟩ : ∃ x ys, xs = x :: ys := by
    match xs, hxl with
    | x :: ys, _ => exact ⟨x, ys, rfl⟩
  have hsz : (Kd.pair d e).sz = d.sz + e.sz := rfl
  have h1 := hx 0 f rfl
  rw [ho, h.cells] at h1
  obtain ⟨a, hk, hwf⟩ := h.go n _ x h1 (fun m hm => hw m (by simp [DataW.weightsEach, hm]))
  obtain ⟨b, hk2, hwg⟩ := hs.go n cs xs (by omega) (fun i g hg => hx (i + 1) g (by simpa using hg)) (by simpa using hxl) (fun m hm => hw m (by simp [DataW.weightsEach, hm]))
  refine ⟨(a, b), ⟨_, _, ?_, hk, hk2⟩, hwf, hwg⟩
  rw [← List.drop_drop, List.take_append_drop]
theorem Opens.struct {H : Type} {enc : TypeId × Value → H} {P : Program} {W : World} {t : TypeId} {fs : Array Field} {α β : Type} {d : Kd α} {wf : α → Prop} {f : β → α} (mk : α → β) (hmk : ∀ a, f (mk a) = a) (ht : P.underlying t = some (.struct fs))
    (hc : P.cellsOf t = d.sz) (h : OpensF enc P W fs.toList 0 d wf) : Opens enc P W t (Kd.iso d f) (fun b => wf (f b)) := by
  refine ⟨hc, fun fuel cs x hx hw => ?_⟩
  obtain ⟨xs, n, _, rfl, hl, hxl, hf⟩ := DataW.trod_struct ht hx
  obtain ⟨a, hk, hwf⟩ := h.go n cs xs (by rw [hl, hc]; omega) (fun i g hg => hf i g (by simpa using hg)) (by simpa using hxl) (fun m hm => hw m (by simpa [DataW.weights, ht] using hm))
  refine ⟨mk a, ?_, by rw [hmk]; exact hwf⟩
  show d.K W (f (mk a)) cs
  rw [hmk]
  simpa using hk

end Go.Proofs.Ytpojamikfcmnoaa.X
