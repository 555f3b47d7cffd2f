import Derived.Test.YtdemgfbolcmcdaaMOpsTell2
import Derived.Test.YtdemgfbolcmcdaaMOpsTell3
namespace Go.Proofs.Ytdemgfbolcmcdaa.X
open Go.RowKit Go.Proofs.YtdemgfbolcmcdaaW.PrintWords Go.Proofs.YtdemgfbolcmcdaaW.PrintLast Go.Proofs.YtdemgfbolcmcdaaW.PrintMore
attribute [local go_sem] max2_int min2_int max_two min_two max_three min_three max_four min_four
set_option linter.unusedVariables false
set_option linter.unusedSimpArgs false
def ops_row.f (a0 : ByteArray) (a1 : Bool) : Option (ByteArray × Bool × Bool) := some (a0, false, a1)
set_option maxHeartbeats 8000000 in
set_option maxRecDepth 100000 in
theorem ops_row.calls (a0 : ByteArray) (a1 : Bool) (r1 : ByteArray) (r2 : Bool) (r3 : Bool) (w : World) (h : ops_row.f a0 a1 = some (r1, r2, r3)) :
    Calls Try.prog 64 #[.string a0, .bool a1] w fun e w' => e = .returned (.agg #[.string r1, .bool r2, .bool r3]) ∧ Below w.heap.size w w' := by
  have hu90 := Try.underlying90
  have HB := Aside0.mk (Below.refl w.heap.size w)
  have H : (some (a0, false, a1)) = some (r1, r2, r3) := h
  clear h
  simp only [Option.some.injEq, Prod.mk.injEq] at H
  obtain ⟨rfl, rfl, rfl⟩ := H
  go_enter Try.func64, Try.ntmps64
  go_wp2_with (first | ((with_reducible refine gate_dst (N := 4) rfl ?_); refine box_event ?hg (N := 4) ?hd (cs := #[.string (⟨#[]⟩ : ByteArray), .bool false, .bool false]) (t := 90) ?hr ?_; (case hd => rfl); (case hg => rfl); (case hr => first | (go_simp; done) | (go_simp; rfl)); intro gb101 hg w3 hbox hb; have n0_ := Aside0.mk (below_step (by repeat (first | (with_reducible first | exact HB.out | apply below_alloc | apply pw_below_drewN | apply below_drew1) | exact HB.out)) hb); have n1_ := Aside0.mk (hbox); have n2_ := Aside0.mk ((by rw [hg]; exact (below_size (by repeat (first | (with_reducible first | exact HB.out | apply below_alloc | apply pw_below_drewN | apply below_drew1) | exact HB.out))) : w.heap.size ≤ gb101)); have n3_ := Aside0.mk ((by rw [hg]; exact (below_size (by repeat (first | (with_reducible first | exact HB.out | apply below_alloc | apply pw_below_drewN | apply below_drew1) | exact HB.out))) : w.heap.size ≤ gb101)); clear HB; have HB := n0_; have BK101 := n1_; have GW101 := n2_; have GE101 := n3_; clear n0_ n1_ n2_ n3_; clear hb hbox hg; have hcz4_0 : w3.cell? ⟨gb101, 0, none⟩ = some (.string (⟨#[]⟩ : ByteArray)) := (blk_cell BK101.out 0).trans rfl; have hcz4_1 : w3.cell? ⟨gb101, 1, none⟩ = some (.bool false) := (blk_cell BK101.out 1).trans rfl; have hcz4_2 : w3.cell? ⟨gb101, 2, none⟩ = some (.bool false) := (blk_cell BK101.out 2).trans rfl; have hfz4_0 := blk_frozen BK101.out 0; have hfz4_1 := blk_frozen BK101.out 1; have hfz4_2 := blk_frozen BK101.out 2))
  refine bodyPost_ret (results_cell_row rfl _ _ gb101 90 #[.string a0, .bool false, .bool a1] (0, 0) _ rfl (by (with_reducible repeat (first | refine blk_drewN ?_ _ | refine blk_drew ?_ | refine blk_alloc ?_ _)); refine blk_put (cs := #[.string a0, .bool false, .bool false]) ?_ 2 _ rfl; (with_reducible repeat (first | refine blk_drewN ?_ _ | refine blk_drew ?_ | refine blk_alloc ?_ _)); refine blk_put (cs := #[.string a0, .bool false, .bool false]) ?_ 1 _ rfl; (with_reducible repeat (first | refine blk_drewN ?_ _ | refine blk_drew ?_ | refine blk_alloc ?_ _)); refine blk_put (cs := #[.string (⟨#[]⟩ : ByteArray), .bool false, .bool false]) ?_ 0 _ rfl; (with_reducible repeat (first | refine blk_drewN ?_ _ | refine blk_drew ?_ | refine blk_alloc ?_ _)); exact BK101.out) Try.underlying90 rfl (by kernel_rfl)) rfl ?_
  exact ⟨by first | rfl | (simp [errW_none, errW_some] <;> rfl) | (simp [*, errW_none, errW_some] <;> rfl), by repeat (first | (with_reducible first | exact HB.out | apply below_alloc | apply pw_below_drewN | apply below_drew1 | refine below_set ?_ GE101.out) | exact HB.out)⟩
end Go.Proofs.Ytdemgfbolcmcdaa.X
namespace Go.Proofs.Ytdemgfbolcmcdaa.X
open Go.RowKit Go.Proofs.YtdemgfbolcmcdaaW.PrintWords Go.Proofs.YtdemgfbolcmcdaaW.PrintLast Go.Proofs.YtdemgfbolcmcdaaW.PrintMore
attribute [local go_sem] max2_int min2_int max_two min_two max_three min_three max_four min_four
set_option linter.unusedVariables false
set_option linter.unusedSimpArgs false
def ops_axed.f (a0 : Int) (a1 : Bool) (l2 : List (S90)) : Option (Int × Int × (List (S90))) := if a0 = 13 then (if a1 = true then (some (2, 2, l2)) else (some (1, 2, l2))) else ((ops_row.f (⟨#[97, 120, 101, 115]⟩ : ByteArray) a1).bind fun bt103 => ((some (([(⟨bt103.1, bt103.2.1, bt103.2.2⟩ : S90)] : List (S90)) : List (S90))).bind fun y106 => (if y106.length + l2.length < 5864062014805 then (some (1, 1, (y106 ++ l2))) else (none))))
set_option maxHeartbeats 8000000 in
set_option maxRecDepth 100000 in
theorem ops_axed.calls (a0 : Int) (a1 : Bool) (P2_ : Nat → Prop) (A2 : Option Addr) (c2 : Nat) (l2 : List (S90)) (r1 : Int) (r2 : Int) (r3 : List (S90)) (w : World) (hs2 : Kd.V k90 90 w w.heap.size (fun k_ => P2_ k_) (.slice A2 l2.length c2) l2) (h : ops_axed.f a0 a1 l2 = some (r1, r2, r3)) :
  Calls Try.prog 66 #[.int .i64 a0, .bool a1, .slice A2 l2.length c2] w fun e w' => ∃ v2_ : Value, e = .returned (.agg #[.int .i64 r1, .int .i64 r2, v2_]) ∧ Kd.V k90 90 w' w.heap.size (fun k_ => (P2_ k_ ∨ w.heap.size ≤ k_)) v2_ r3 ∧ Below w.heap.size w w' := by
 have hu86 := Try.underlying86
 have HO2 := Aside0.mk (show Kd.V k90 90 w w.heap.size (fun k_ => (P2_ k_ ∨ w.heap.size ≤ k_)) (.slice A2 l2.length c2) l2 from Kd.V_mono hs2 (fun k_ hk => .inl hk))
 have HB := Aside0.mk (Below.refl w.heap.size w)
 have H : (if a0 = 13 then (if a1 = true then (some (2, 2, l2)) else (some (1, 2, l2))) else ((ops_row.f (⟨#[97, 120, 101, 115]⟩ : ByteArray) a1).bind fun bt103 => ((some (([(⟨bt103.1, bt103.2.1, bt103.2.2⟩ : S90)] : List (S90)) : List (S90))).bind fun y106 => (if y106.length + l2.length < 5864062014805 then (some (1, 1, (y106 ++ l2))) else (none))))) = some (r1, r2, r3) := h
 clear h
 by_cases c4 : a0 = 13
 ·
  rw [if_pos c4] at H
  have c4b0 : (a0 == 13) = true := beq_iff_eq.mpr c4
  have c4b1 : (a0 != 13) = false := bne_eq_false_iff_eq.mpr c4
  clear c4
  by_cases c5 : a1 = true
  ·
   subst c5
   have H1 : (some (2, 2, l2)) = some (r1, r2, r3) := by rw [if_pos rfl] at H; exact H
   clear H
   have H := H1
   clear H1
   simp only [Option.some.injEq, Prod.mk.injEq] at H
   obtain ⟨rfl, rfl, rfl⟩ := H
   go_enter Try.func66, Try.ntmps66
   go_wp2_with (first | ((with_reducible refine gate_dst (N := 6) rfl ?_); refine box_event ?hg (N := 6) ?hd (cs := #[.int .i64 0, .int .i64 0, .slice none 0 0]) (t := 86) ?hr ?_; (case hd => rfl); (case hg => rfl); (case hr => first | (go_simp; done) | (go_simp; rfl)); intro gb101 hg w6 hbox hb; have n0_ := Aside0.mk (Kd.V_below (Kd.V_elderB (by (with_reducible repeat (first | apply Kd.V_alloc | apply Kd.V_drewN | apply Kd.V_drew)); exact HO2.out) gb101 (Nat.le_of_eq hg.symm)) hb); have n1_ := Aside0.mk (below_step (hbA HB) hb); have n2_ := Aside0.mk (hbox); have n3_ := Aside0.mk ((by rw [hg]; exact (below_size (hbA HB)) : w.heap.size ≤ gb101)); have n4_ := Aside0.mk ((by rw [hg]; exact (below_size (hbA HB)) : w.heap.size ≤ gb101)); clear HO2; clear HB; have HO2 := n0_; have HB := n1_; have BK101 := n2_; have GW101 := n3_; have GE101 := n4_; clear n0_ n1_ n2_ n3_ n4_; clear hb hbox hg) | ((with_reducible refine gate_dst (N := 7) rfl ?_); refine box_event ?hg (N := 7) ?hd (cs := #[.int .i64 0, .int .i64 0, .slice none 0 0]) (t := 86) ?hr ?_; (case hd => rfl); (case hg => rfl); (case hr => first | (go_simp; done) | (go_simp; rfl)); intro gb102 hg w7 hbox hb; have n0_ := Aside0.mk (Kd.V_below (Kd.V_elderB (by (with_reducible repeat (first | apply Kd.V_alloc | apply Kd.V_drewN | apply Kd.V_drew)); exact HO2.out) gb102 (Nat.le_of_eq hg.symm)) hb); have n1_ := Aside0.mk (blk_below (g := gb101) (bkA BK101) hb); have n2_ := Aside0.mk (below_step (hbA HB) hb); have n3_ := Aside0.mk (hbox); have n4_ := Aside0.mk ((by rw [hg]; exact (below_size (hbA HB)) : w.heap.size ≤ gb102)); have n5_ := Aside0.mk ((by rw [hg]; exact (below_size (hbA HB)) : w.heap.size ≤ gb102)); have n6_ := Aside0.mk ((by rw [hg]; exact Nat.ne_of_lt (blk_lt (g := gb101) (bkA BK101)) : gb101 ≠ gb102)); have n7_ := Aside0.mk ((by rw [hg]; exact Nat.ne_of_gt (blk_lt (g := gb101) (bkA BK101)) : gb102 ≠ gb101)); clear HO2; clear BK101; clear HB; have HO2 := n0_; have BK101 := n1_; have HB := n2_; have BK102 := n3_; have GW102 := n4_; have GE102 := n5_; have NB101_102 := n6_; have NB102_101 := n7_; clear n0_ n1_ n2_ n3_ n4_ n5_ n6_ n7_; clear hb hbox hg; have hnb8 := NB102_101.out; have hnc8 := NB101_102.out; have hcz9_0 : w7.cell? ⟨gb102, 0, none⟩ = some (.int .i64 0) := bcA BK102 0; have hcz9_1 : w7.cell? ⟨gb102, 1, none⟩ = some (.int .i64 0) := bcA BK102 1; have hcz9_2 : w7.cell? ⟨gb102, 2, none⟩ = some (.slice none 0 0) := bcA BK102 2; have hfz9_0 := blk_frozen BK102.out 0; have hfz9_1 := blk_frozen BK102.out 1; have hfz9_2 := blk_frozen BK102.out 2; have hcz10_0 : w7.cell? ⟨gb101, 0, none⟩ = some (.int .i64 0) := bcA BK101 0; have hcz10_1 : w7.cell? ⟨gb101, 1, none⟩ = some (.int .i64 0) := bcA BK101 1; have hcz10_2 : w7.cell? ⟨gb101, 2, none⟩ = some (.slice none 0 0) := bcA BK101 2; have hfz10_0 := blk_frozen BK101.out 0; have hfz10_1 := blk_frozen BK101.out 1; have hfz10_2 := blk_frozen BK101.out 2))
   refine bodyPost_ret (results_cell_row rfl _ _ gb101 86 #[.int .i64 2, .int .i64 2, .slice A2 l2.length c2] (0, 0) _ rfl (by (with_reducible repeat (first | refine blk_drewN ?_ _ | refine blk_drew ?_ | refine blk_alloc ?_ _)); refine blk_put (cs := #[.int .i64 2, .int .i64 2, .slice none 0 0]) ?_ 2 _ rfl; (with_reducible repeat (first | refine blk_drewN ?_ _ | refine blk_drew ?_ | refine blk_alloc ?_ _)); refine blk_put (cs := #[.int .i64 2, .int .i64 0, .slice none 0 0]) ?_ 1 _ rfl; (with_reducible repeat (first | refine blk_drewN ?_ _ | refine blk_drew ?_ | refine blk_alloc ?_ _)); refine blk_put (cs := #[.int .i64 0, .int .i64 0, .slice none 0 0]) ?_ 0 _ rfl; (with_reducible repeat (first | refine blk_drewN ?_ _ | refine blk_drew ?_ | refine blk_alloc ?_ _)); refine blk_far ?_ NB101_102.out _; (with_reducible repeat (first | refine blk_drewN ?_ _ | refine blk_drew ?_ | refine blk_alloc ?_ _)); refine blk_far ?_ NB101_102.out _; (with_reducible repeat (first | refine blk_drewN ?_ _ | refine blk_drew ?_ | refine blk_alloc ?_ _)); refine blk_far ?_ NB101_102.out _; (with_reducible repeat (first | refine blk_drewN ?_ _ | refine blk_drew ?_ | refine blk_alloc ?_ _)); refine blk_far ?_ NB101_102.out _; (with_reducible repeat (first | refine blk_drewN ?_ _ | refine blk_drew ?_ | refine blk_alloc ?_ _)); exact BK101.out) Try.underlying86 rfl (by kernel_rfl)) rfl ?_
   exact ⟨_, by first | rfl | (simp [errW_none, errW_some] <;> rfl) | (simp [*, errW_none, errW_some] <;> rfl), by (with_reducible repeat (first | apply Kd.V_alloc | apply Kd.V_drewN | apply Kd.V_drew)); exact Kd.V_mono (Kd.V_far (p := ⟨gb101, 2, none⟩) (Kd.V_far (p := ⟨gb101, 1, none⟩) (Kd.V_far (p := ⟨gb101, 0, none⟩) (Kd.V_far (p := ⟨gb102, 0, none⟩) (Kd.V_far (p := ⟨gb102, 2, none⟩) (Kd.V_far (p := ⟨gb102, 1, none⟩) (Kd.V_far (p := ⟨gb102, 0, none⟩) (Kd.V_mono (Kd.V_mono HO2.out (fun k_ hk => (⟨hk, hk.2⟩ : _ ∧ k_ ≠ gb102))) (fun k_ hk => (⟨hk, hk.1.1.2⟩ : _ ∧ k_ ≠ gb101))) (fun _ hk => hk.1.2) (.int .i64 1)) (fun _ hk => hk.1.2) (.int .i64 2)) (fun _ hk => hk.1.2) (.slice A2 l2.length c2)) (fun _ hk => hk.1.2) (.int .i64 2)) (fun _ hk => hk.2) (.int .i64 2)) (fun _ hk => hk.2) (.int .i64 2)) (fun _ hk => hk.2) (.slice A2 l2.length c2)) (fun _ hk => hk.1.1.1.1), hbA HB⟩
  ·
   replace c5 := Bool.eq_false_iff.mpr c5
   subst c5
   have H1 : (some (1, 2, l2)) = some (r1, r2, r3) := by rw [if_neg (show ¬ (false = true) by decide)] at H; exact H
   clear H
   have H := H1
   clear H1
   simp only [Option.some.injEq, Prod.mk.injEq] at H
   obtain ⟨rfl, rfl, rfl⟩ := H
   go_enter Try.func66, Try.ntmps66
   go_wp2_with (first | ((with_reducible refine gate_dst (N := 6) rfl ?_); refine box_event ?hg (N := 6) ?hd (cs := #[.int .i64 0, .int .i64 0, .slice none 0 0]) (t := 86) ?hr ?_; (case hd => rfl); (case hg => rfl); (case hr => first | (go_simp; done) | (go_simp; rfl)); intro gb101 hg w11 hbox hb; have n0_ := Aside0.mk (Kd.V_below (Kd.V_elderB (by (with_reducible repeat (first | apply Kd.V_alloc | apply Kd.V_drewN | apply Kd.V_drew)); exact HO2.out) gb101 (Nat.le_of_eq hg.symm)) hb); have n1_ := Aside0.mk (below_step (hbA HB) hb); have n2_ := Aside0.mk (hbox); have n3_ := Aside0.mk ((by rw [hg]; exact (below_size (hbA HB)) : w.heap.size ≤ gb101)); have n4_ := Aside0.mk ((by rw [hg]; exact (below_size (hbA HB)) : w.heap.size ≤ gb101)); clear HO2; clear HB; have HO2 := n0_; have HB := n1_; have BK101 := n2_; have GW101 := n3_; have GE101 := n4_; clear n0_ n1_ n2_ n3_ n4_; clear hb hbox hg) | ((with_reducible refine gate_dst (N := 7) rfl ?_); refine box_event ?hg (N := 7) ?hd (cs := #[.int .i64 0, .int .i64 0, .slice none 0 0]) (t := 86) ?hr ?_; (case hd => rfl); (case hg => rfl); (case hr => first | (go_simp; done) | (go_simp; rfl)); intro gb102 hg w12 hbox hb; have n0_ := Aside0.mk (Kd.V_below (Kd.V_elderB (by (with_reducible repeat (first | apply Kd.V_alloc | apply Kd.V_drewN | apply Kd.V_drew)); exact HO2.out) gb102 (Nat.le_of_eq hg.symm)) hb); have n1_ := Aside0.mk (blk_below (g := gb101) (bkA BK101) hb); have n2_ := Aside0.mk (below_step (hbA HB) hb); have n3_ := Aside0.mk (hbox); have n4_ := Aside0.mk ((by rw [hg]; exact (below_size (hbA HB)) : w.heap.size ≤ gb102)); have n5_ := Aside0.mk ((by rw [hg]; exact (below_size (hbA HB)) : w.heap.size ≤ gb102)); have n6_ := Aside0.mk ((by rw [hg]; exact Nat.ne_of_lt (blk_lt (g := gb101) (bkA BK101)) : gb101 ≠ gb102)); have n7_ := Aside0.mk ((by rw [hg]; exact Nat.ne_of_gt (blk_lt (g := gb101) (bkA BK101)) : gb102 ≠ gb101)); clear HO2; clear BK101; clear HB; have HO2 := n0_; have BK101 := n1_; have HB := n2_; have BK102 := n3_; have GW102 := n4_; have GE102 := n5_; have NB101_102 := n6_; have NB102_101 := n7_; clear n0_ n1_ n2_ n3_ n4_ n5_ n6_ n7_; clear hb hbox hg; have hnb13 := NB102_101.out; have hnc13 := NB101_102.out; have hcz14_0 : w12.cell? ⟨gb102, 0, none⟩ = some (.int .i64 0) := bcA BK102 0; have hcz14_1 : w12.cell? ⟨gb102, 1, none⟩ = some (.int .i64 0) := bcA BK102 1; have hcz14_2 : w12.cell? ⟨gb102, 2, none⟩ = some (.slice none 0 0) := bcA BK102 2; have hfz14_0 := blk_frozen BK102.out 0; have hfz14_1 := blk_frozen BK102.out 1; have hfz14_2 := blk_frozen BK102.out 2; have hcz15_0 : w12.cell? ⟨gb101, 0, none⟩ = some (.int .i64 0) := bcA BK101 0; have hcz15_1 : w12.cell? ⟨gb101, 1, none⟩ = some (.int .i64 0) := bcA BK101 1; have hcz15_2 : w12.cell? ⟨gb101, 2, none⟩ = some (.slice none 0 0) := bcA BK101 2; have hfz15_0 := blk_frozen BK101.out 0; have hfz15_1 := blk_frozen BK101.out 1; have hfz15_2 := blk_frozen BK101.out 2))
   refine bodyPost_ret (results_cell_row rfl _ _ gb101 86 #[.int .i64 1, .int .i64 2, .slice A2 l2.length c2] (0, 0) _ rfl (by (with_reducible repeat (first | refine blk_drewN ?_ _ | refine blk_drew ?_ | refine blk_alloc ?_ _)); refine blk_put (cs := #[.int .i64 1, .int .i64 2, .slice none 0 0]) ?_ 2 _ rfl; (with_reducible repeat (first | refine blk_drewN ?_ _ | refine blk_drew ?_ | refine blk_alloc ?_ _)); refine blk_put (cs := #[.int .i64 1, .int .i64 0, .slice none 0 0]) ?_ 1 _ rfl; (with_reducible repeat (first | refine blk_drewN ?_ _ | refine blk_drew ?_ | refine blk_alloc ?_ _)); refine blk_put (cs := #[.int .i64 0, .int .i64 0, .slice none 0 0]) ?_ 0 _ rfl; (with_reducible repeat (first | refine blk_drewN ?_ _ | refine blk_drew ?_ | refine blk_alloc ?_ _)); refine blk_far ?_ NB101_102.out _; (with_reducible repeat (first | refine blk_drewN ?_ _ | refine blk_drew ?_ | refine blk_alloc ?_ _)); refine blk_far ?_ NB101_102.out _; (with_reducible repeat (first | refine blk_drewN ?_ _ | refine blk_drew ?_ | refine blk_alloc ?_ _)); refine blk_far ?_ NB101_102.out _; (with_reducible repeat (first | refine blk_drewN ?_ _ | refine blk_drew ?_ | refine blk_alloc ?_ _)); exact BK101.out) Try.underlying86 rfl (by kernel_rfl)) rfl ?_
   exact ⟨_, by first | rfl | (simp [errW_none, errW_some] <;> rfl) | (simp [*, errW_none, errW_some] <;> rfl), by (with_reducible repeat (first | apply Kd.V_alloc | apply Kd.V_drewN | apply Kd.V_drew)); exact Kd.V_mono (Kd.V_far (p := ⟨gb101, 2, none⟩) (Kd.V_far (p := ⟨gb101, 1, none⟩) (Kd.V_far (p := ⟨gb101, 0, none⟩) (Kd.V_far (p := ⟨gb102, 2, none⟩) (Kd.V_far (p := ⟨gb102, 1, none⟩) (Kd.V_far (p := ⟨gb102, 0, none⟩) (Kd.V_mono (Kd.V_mono HO2.out (fun k_ hk => (⟨hk, hk.2⟩ : _ ∧ k_ ≠ gb102))) (fun k_ hk => (⟨hk, hk.1.1.2⟩ : _ ∧ k_ ≠ gb101))) (fun _ hk => hk.1.2) (.int .i64 1)) (fun _ hk => hk.1.2) (.int .i64 2)) (fun _ hk => hk.1.2) (.slice A2 l2.length c2)) (fun _ hk => hk.2) (.int .i64 1)) (fun _ hk => hk.2) (.int .i64 2)) (fun _ hk => hk.2) (.slice A2 l2.length c2)) (fun _ hk => hk.1.1.1.1), hbA HB⟩
 ·
  rw [if_neg c4] at H
  have c4b0 : (a0 == 13) = false := beq_eq_false_iff_ne.mpr c4
  have c4b1 : (a0 != 13) = true := bne_iff_ne.mpr c4
  replace H := Option.bind_eq_some_iff.mp H
  obtain ⟨⟨t103, t104, t105⟩, A160, H⟩ := H
  replace H : ((some (([(⟨t103, t104, t105⟩ : S90)] : List (S90)) : List (S90))).bind fun y106 => (if y106.length + l2.length < 5864062014805 then (some (1, 1, (y106 ++ l2))) else (none))) = some (r1, r2, r3) := H
  have A16 := Aside0.mk A160
  clear A160
  obtain ⟨y106, hy106⟩ : ∃ y_ : List (S90), y_ = (([(⟨t103, t104, t105⟩ : S90)] : List (S90))) := ⟨_, rfl⟩
  replace H : (if y106.length + l2.length < 5864062014805 then (some (1, 1, (y106 ++ l2))) else (none)) = some (r1, r2, r3) := by first | (rw [hy106]; with_reducible exact H) | (have H2_ := (Option.bind_some _ _).symm.trans H; rw [hy106]; with_reducible exact H2_) | (have H2_ := (Option.bind_some _ _).symm.trans H; with_reducible exact H2_) | with_reducible exact H | (rw [hy106]; exact H) | exact H
  have Ny106 := Aside0.mk hy106
  clear hy106
  by_cases c17 : y106.length + l2.length < 5864062014805
  ·
   rw [if_pos c17] at H
   have LMc17 := Aside0.mk c17
   clear c17
   obtain ⟨y109, hy109⟩ : ∃ y_ : List (S90), y_ = (y106 ++ l2) := ⟨_, rfl⟩
   replace H : (some (1, 1, y109)) = some (r1, r2, r3) := by first | (rw [hy109]; with_reducible exact H) | (have H2_ := (Option.bind_some _ _).symm.trans H; rw [hy109]; with_reducible exact H2_) | (have H2_ := (Option.bind_some _ _).symm.trans H; with_reducible exact H2_) | with_reducible exact H | (rw [hy109]; exact H) | exact H
   have Ny109 := Aside0.mk hy109
   clear hy109
   simp only [Option.some.injEq, Prod.mk.injEq] at H
   obtain ⟨rfl, rfl, rfl⟩ := H
   go_enter Try.func66, Try.ntmps66
   go_wp2_with (first | ((with_reducible refine gate_dst (N := 6) rfl ?_); refine box_event ?hg (N := 6) ?hd (cs := #[.int .i64 0, .int .i64 0, .slice none 0 0]) (t := 86) ?hr ?_; (case hd => rfl); (case hg => rfl); (case hr => first | (go_simp; done) | (go_simp; rfl)); intro gb101 hg w18 hbox hb; have n0_ := Aside0.mk (Kd.V_below (Kd.V_elderB (by (with_reducible repeat (first | apply Kd.V_alloc | apply Kd.V_drewN | apply Kd.V_drew)); exact HO2.out) gb101 (Nat.le_of_eq hg.symm)) hb); have n1_ := Aside0.mk (below_step (hbA HB) hb); have n2_ := Aside0.mk (hbox); have n3_ := Aside0.mk ((by rw [hg]; exact (below_size (hbA HB)) : w.heap.size ≤ gb101)); have n4_ := Aside0.mk ((by rw [hg]; exact (below_size (hbA HB)) : w.heap.size ≤ gb101)); clear HO2; clear HB; have HO2 := n0_; have HB := n1_; have BK101 := n2_; have GW101 := n3_; have GE101 := n4_; clear n0_ n1_ n2_ n3_ n4_; clear hb hbox hg) | ((with_reducible refine gate_callee (f := 64) rfl ?_); refine goesL_ (some 16) rfl rfl Try.func64 (by kernel_rfl) rfl #[.string (⟨#[97, 120, 101, 115]⟩ : ByteArray), .bool a1] rfl (by (try simp only [List.map_toArray, List.map_cons, List.map_nil]); first | done | rfl | (simp only [List.length_drop, List.length_take]; rfl)) ?_; (with_reducible refine (ops_row.calls (⟨#[97, 120, 101, 115]⟩ : ByteArray) a1 t103 t104 t105 _ A16.out).mono ?_); rintro e w19 ⟨rfl, hb⟩; refine ⟨_, rfl, ?_⟩; have n0_ := Aside0.mk (Kd.V_below (by (with_reducible repeat (first | apply Kd.V_alloc | apply Kd.V_drewN | apply Kd.V_drew)); exact HO2.out) hb); have n1_ := Aside0.mk (blk_below (g := gb101) (bkA BK101) hb); have n2_ := Aside0.mk (below_step (hbA HB) hb); clear HO2; clear BK101; clear HB; have HO2 := n0_; have BK101 := n1_; have HB := n2_; clear n0_ n1_ n2_; (try clear hb); (try clear hb2); (try clear hk); (try clear hi)) | ((with_reducible refine gate_dst (N := 17) rfl ?_); refine Kd.R_lit k90 _ 90 ?hg (N := 17) ?hd (xs := ([(⟨t103, t104, t105⟩ : S90)] : List (S90))) (inner := [.string t103, .bool t104, .bool t105]) (ok := fun _ => True) (okp := fun _ => True) ?hr ?hp (fun _ hk => hk) trivial (Below.refl _ _) (Nat.le_refl _) (by simp) ?_; (case hd => rfl); (case hg => rfl); (case hr => first | (go_simp; done) | (go_simp; rfl)); (case hp => exact (Reps.c3 (show Kd.M k90 _ _ _ (⟨t103, t104, t105⟩ : S90) [.string t103, .bool t104, .bool t105] from (k90_mkM _ _ _ (⟨t103, t104, t105⟩ : S90) )) (Reps.none _ _))); intro v107 w20 ho21 hb hg_ hnew_; clear hg_ hnew_; (first | rw [← Ny106.out] at ho21 | (simp only [Int.reduceToNat] at ho21; rw [← Ny106.out] at ho21)); have n0_ := Aside0.mk (Kd.V_elder' (by (with_reducible repeat (first | apply Kd.V_alloc | apply Kd.V_drewN | apply Kd.V_drew)); exact HO2.out) (Kd.R_base ho21) hb); have n1_ := Aside0.mk (Kd.R_lower (Kd.R_newM (M := fun k_ => (w.heap.size ≤ k_)) ho21 (below_size (hbA HB)) (fun k_ h_ => h_)) (below_size (hbA HB))); have n2_ := Aside0.mk (blk_below (g := gb101) (bkA BK101) hb); have n3_ := Aside0.mk (below_step (hbA HB) hb); clear HO2; clear BK101; clear HB; have HO2 := n0_; have HO108 := n1_; have BK101 := n2_; have HB := n3_; clear n0_ n1_ n2_ n3_; clear hb ho21) | ((with_reducible refine gate_builtin (b := .append) (xs := #[.tmp 17, .tmp 18]) rfl ?_); at_builtin; refine Kd.R_append_rows k90 (w0 := w) w.heap.size rfl (.tmp 17) (.tmp 18) 84 90 (.agg #[(.string ⟨#[]⟩), (.bool false), (.bool false)]) 24 rfl Try.underlying84 info90 rfl (by decide) (by omega) v107 y106 l2 _ _ _ (fun k_ => (w.heap.size ≤ k_)) (fun _ => False) rfl rfl ?aO ?aR (fun _ _ h => h) (fun _ h => h.elim) ?aF ?aB ?aS ?aL ?_; (case aR => repeat (first | exact (Kd.V_reads' HO2.out).2.2 | (with_reducible refine Kd.C_alloc ?_ _) | (with_reducible refine Kd.C_drewN ?_ _) | (with_reducible refine Kd.C_drew ?_))); (case aB => exact (hbA HB)); (case aF => exact (fun k_ hk => (Nat.le_trans (below_size (hbA HB)) hk))); (case aO => exact (by (with_reducible repeat (first | apply Kd.R_alloc | apply Kd.R_drewN | apply Kd.R_drew)); exact Kd.R_mono HO108.out (fun _ hk => hk.1))); (case aS => exact (below_size (hbA HB))); (case aL => have := LMc17.out; omega); intro v110 w22 ho hb hg hat; rw [← Ny109.out] at ho; have n0_ := Aside0.mk (Kd.V_afterv (ok := (fun k_ => (P2_ k_ ∨ w.heap.size ≤ k_) ∧ k_ ≠ gb101)) (by (with_reducible repeat (first | apply Kd.V_alloc | apply Kd.V_drewN | apply Kd.V_drew)); exact HO2.out) hg hat); have n1_ := Aside0.mk (blk_grown (g := gb101) (bkA BK101) hg (Kd.R_ne HO108.out BK101.out (by decide))); have n2_ := Aside0.mk (hb); have n3_ := Aside0.mk (ho); clear HO2; clear BK101; clear HB; clear HO108; have HO2 := n0_; have BK101 := n1_; have HB := n2_; have HO111 := n3_; clear n0_ n1_ n2_ n3_; clear ho hb hg hat; obtain ⟨Ao23, co23, eo23⟩ := Kd.R_slice HO111.out; subst eo23; have hcz24_0 : w22.cell? ⟨gb101, 0, none⟩ = some (.int .i64 0) := bcA BK101 0; have hcz24_1 : w22.cell? ⟨gb101, 1, none⟩ = some (.int .i64 0) := bcA BK101 1; have hcz24_2 : w22.cell? ⟨gb101, 2, none⟩ = some (.slice none 0 0) := bcA BK101 2; have hfz24_0 := blk_frozen BK101.out 0; have hfz24_1 := blk_frozen BK101.out 1; have hfz24_2 := blk_frozen BK101.out 2))
   refine bodyPost_ret (results_cell_row rfl _ _ gb101 86 #[.int .i64 1, .int .i64 1, .slice Ao23 y109.length co23] (0, 0) _ rfl (by (with_reducible repeat (first | refine blk_drewN ?_ _ | refine blk_drew ?_ | refine blk_alloc ?_ _)); refine blk_put (cs := #[.int .i64 1, .int .i64 1, .slice none 0 0]) ?_ 2 _ rfl; (with_reducible repeat (first | refine blk_drewN ?_ _ | refine blk_drew ?_ | refine blk_alloc ?_ _)); refine blk_put (cs := #[.int .i64 1, .int .i64 0, .slice none 0 0]) ?_ 1 _ rfl; (with_reducible repeat (first | refine blk_drewN ?_ _ | refine blk_drew ?_ | refine blk_alloc ?_ _)); refine blk_put (cs := #[.int .i64 0, .int .i64 0, .slice none 0 0]) ?_ 0 _ rfl; (with_reducible repeat (first | refine blk_drewN ?_ _ | refine blk_drew ?_ | refine blk_alloc ?_ _)); exact BK101.out) Try.underlying86 rfl (by kernel_rfl)) rfl ?_
   exact ⟨_, by first | rfl | (simp [errW_none, errW_some] <;> rfl) | (simp [*, errW_none, errW_some] <;> rfl), Kd.V_mono (Kd.R_V (by (with_reducible repeat (first | apply Kd.R_alloc | apply Kd.R_drewN | apply Kd.R_drew)); exact Kd.R_mono (Kd.R_far (p := ⟨gb101, 2, none⟩) (Kd.R_far (p := ⟨gb101, 1, none⟩) (Kd.R_far (p := ⟨gb101, 0, none⟩) (Kd.R_types HO111.out BK101.out (by decide)) (fun _ hk => hk.2) (.int .i64 1)) (fun _ hk => hk.2) (.int .i64 1)) (fun _ hk => hk.2) (.slice Ao23 y109.length co23)) (fun _ hk => hk.1))) (fun k_ hk => by first | exact ⟨(.inr (hk.1)), hk.2⟩ | exact (.inr (hk))), hbA HB⟩
  ·
   rw [if_neg c17] at H
   exact absurd H (by simp)
end Go.Proofs.Ytdemgfbolcmcdaa.X
namespace Go.Proofs.Ytdemgfbolcmcdaa.X
open Go.RowKit Go.Proofs.YtdemgfbolcmcdaaW.PrintWords Go.Proofs.YtdemgfbolcmcdaaW.PrintLast Go.Proofs.YtdemgfbolcmcdaaW.PrintMore
attribute [local go_sem] max2_int min2_int max_two min_two max_three min_three max_four min_four
set_option linter.unusedVariables false
set_option linter.unusedSimpArgs false
def ops_one.f (a0 : ByteArray) (a1 : Bool) : Option (ByteArray × Bool × Bool) := some (a0, true, a1)
set_option maxHeartbeats 8000000 in
set_option maxRecDepth 100000 in
theorem ops_one.calls (a0 : ByteArray) (a1 : Bool) (r1 : ByteArray) (r2 : Bool) (r3 : Bool) (w : World) (h : ops_one.f a0 a1 = some (r1, r2, r3)) :
    Calls Try.prog 65 #[.string a0, .bool a1] w fun e w' => e = .returned (.agg #[.string r1, .bool r2, .bool r3]) ∧ Below w.heap.size w w' := by
  have hu90 := Try.underlying90
  have HB := Aside0.mk (Below.refl w.heap.size w)
  have H : (some (a0, true, a1)) = some (r1, r2, r3) := h
  clear h
  simp only [Option.some.injEq, Prod.mk.injEq] at H
  obtain ⟨rfl, rfl, rfl⟩ := H
  go_enter Try.func65, Try.ntmps65
  go_wp2_with (first | ((with_reducible refine gate_dst (N := 4) rfl ?_); refine box_event ?hg (N := 4) ?hd (cs := #[.string (⟨#[]⟩ : ByteArray), .bool false, .bool false]) (t := 90) ?hr ?_; (case hd => rfl); (case hg => rfl); (case hr => first | (go_simp; done) | (go_simp; rfl)); intro gb101 hg w3 hbox hb; have n0_ := Aside0.mk (below_step (by repeat (first | (with_reducible first | exact HB.out | apply below_alloc | apply pw_below_drewN | apply below_drew1) | exact HB.out)) hb); have n1_ := Aside0.mk (hbox); have n2_ := Aside0.mk ((by rw [hg]; exact (below_size (by repeat (first | (with_reducible first | exact HB.out | apply below_alloc | apply pw_below_drewN | apply below_drew1) | exact HB.out))) : w.heap.size ≤ gb101)); have n3_ := Aside0.mk ((by rw [hg]; exact (below_size (by repeat (first | (with_reducible first | exact HB.out | apply below_alloc | apply pw_below_drewN | apply below_drew1) | exact HB.out))) : w.heap.size ≤ gb101)); clear HB; have HB := n0_; have BK101 := n1_; have GW101 := n2_; have GE101 := n3_; clear n0_ n1_ n2_ n3_; clear hb hbox hg; have hcz4_0 : w3.cell? ⟨gb101, 0, none⟩ = some (.string (⟨#[]⟩ : ByteArray)) := (blk_cell BK101.out 0).trans rfl; have hcz4_1 : w3.cell? ⟨gb101, 1, none⟩ = some (.bool false) := (blk_cell BK101.out 1).trans rfl; have hcz4_2 : w3.cell? ⟨gb101, 2, none⟩ = some (.bool false) := (blk_cell BK101.out 2).trans rfl; have hfz4_0 := blk_frozen BK101.out 0; have hfz4_1 := blk_frozen BK101.out 1; have hfz4_2 := blk_frozen BK101.out 2))
  refine bodyPost_ret (results_cell_row rfl _ _ gb101 90 #[.string a0, .bool true, .bool a1] (0, 0) _ rfl (by (with_reducible repeat (first | refine blk_drewN ?_ _ | refine blk_drew ?_ | refine blk_alloc ?_ _)); refine blk_put (cs := #[.string a0, .bool true, .bool false]) ?_ 2 _ rfl; (with_reducible repeat (first | refine blk_drewN ?_ _ | refine blk_drew ?_ | refine blk_alloc ?_ _)); refine blk_put (cs := #[.string a0, .bool false, .bool false]) ?_ 1 _ rfl; (with_reducible repeat (first | refine blk_drewN ?_ _ | refine blk_drew ?_ | refine blk_alloc ?_ _)); refine blk_put (cs := #[.string (⟨#[]⟩ : ByteArray), .bool false, .bool false]) ?_ 0 _ rfl; (with_reducible repeat (first | refine blk_drewN ?_ _ | refine blk_drew ?_ | refine blk_alloc ?_ _)); exact BK101.out) Try.underlying90 rfl (by kernel_rfl)) rfl ?_
  exact ⟨by first | rfl | (simp [errW_none, errW_some] <;> rfl) | (simp [*, errW_none, errW_some] <;> rfl), by repeat (first | (with_reducible first | exact HB.out | apply below_alloc | apply pw_below_drewN | apply below_drew1 | refine below_set ?_ GE101.out) | exact HB.out)⟩
end Go.Proofs.Ytdemgfbolcmcdaa.X
namespace Go.Proofs.Ytdemgfbolcmcdaa.X
open Go.RowKit Go.Proofs.YtdemgfbolcmcdaaW.PrintWords Go.Proofs.YtdemgfbolcmcdaaW.PrintLast Go.Proofs.YtdemgfbolcmcdaaW.PrintMore
attribute [local go_sem] max2_int min2_int max_two min_two max_three min_three max_four min_four
set_option linter.unusedVariables false
set_option linter.unusedSimpArgs false
mutual
def ops_Find.j0 : Nat → ByteArray → Int → Bool → Option (Int × Int × (List (S90)) × Bool)
 | 0, _, _, _ => none
 | k + 1, x0, x1, x11 => if x11 = true then (some (0, 0, ([] : List (S90)), false)) else (if x0.toList = ([73, 100, 101, 110, 116, 105, 116, 121] : List UInt8) then (ops_Find.j1 k x1 x0 (x0.toList == ([73, 100, 101, 110, 116, 105, 116, 121] : List UInt8))) else (if x0.toList = ([78, 101, 103] : List UInt8) then (ops_Find.j1 k x1 x0 (x0.toList == ([78, 101, 103] : List UInt8))) else (ops_Find.j1 k x1 x0 (x0.toList == ([78, 111, 116] : List UInt8)))))
def ops_Find.j1 : Nat → Int → ByteArray → Bool → Option (Int × Int × (List (S90)) × Bool)
 | 0, _, _, _ => none
 | k + 1, x1, x13, x14 => if x14 = true then (some (1, 1, ([] : List (S90)), true)) else (if x13.toList = ([65, 100, 100] : List UInt8) then (ops_Find.j2 k x1 x13 (x13.toList == ([65, 100, 100] : List UInt8))) else (if x13.toList = ([83, 117, 98] : List UInt8) then (ops_Find.j2 k x1 x13 (x13.toList == ([83, 117, 98] : List UInt8))) else (if x13.toList = ([77, 117, 108] : List UInt8) then (ops_Find.j2 k x1 x13 (x13.toList == ([77, 117, 108] : List UInt8))) else (if x13.toList = ([65, 110, 100] : List UInt8) then (ops_Find.j2 k x1 x13 (x13.toList == ([65, 110, 100] : List UInt8))) else (if x13.toList = ([69, 113, 117, 97, 108] : List UInt8) then (ops_Find.j2 k x1 x13 (x13.toList == ([69, 113, 117, 97, 108] : List UInt8))) else (ops_Find.j2 k x1 x13 (x13.toList == ([82, 101, 115, 104, 97, 112, 101] : List UInt8))))))))
def ops_Find.j2 : Nat → Int → ByteArray → Bool → Option (Int × Int × (List (S90)) × Bool)
 | 0, _, _, _ => none
 | k + 1, x1, x13, x19 => if x19 = true then (some (2, 2, ([] : List (S90)), true)) else (if x13.toList = ([84, 114, 97, 110, 115, 112, 111, 115, 101] : List UInt8) then ((ops_row.f (⟨#[112, 101, 114, 109]⟩ : ByteArray) true).bind fun bt102 => (some (1, 1, (([(⟨bt102.1, bt102.2.1, bt102.2.2⟩ : S90)] : List (S90))), true))) else (if x13.toList = ([67, 111, 110, 99, 97, 116] : List UInt8) then ((ops_one.f (⟨#[97, 120, 105, 115]⟩ : ByteArray) true).bind fun bt108 => (some (1, 64, (([(⟨bt108.1, bt108.2.1, bt108.2.2⟩ : S90)] : List (S90))), true))) else (if x13.toList = ([83, 113, 117, 101, 101, 122, 101] : List UInt8) then ((ops_axed.f x1 false ([] : List (S90))).bind fun bt114 => (some (bt114.1, bt114.2.1, bt114.2.2, true))) else (if x13.toList = ([85, 110, 115, 113, 117, 101, 101, 122, 101] : List UInt8) then ((ops_axed.f x1 true ([] : List (S90))).bind fun bt119 => (some (bt119.1, bt119.2.1, bt119.2.2, true))) else (if x13.toList = ([82, 101, 100, 117, 99, 101, 83, 117, 109] : List UInt8) then ((ops_one.f (⟨#[107, 101, 101, 112, 100, 105, 109, 115]⟩ : ByteArray) false).bind fun bt124 => ((ops_axed.f x1 false (([(⟨bt124.1, bt124.2.1, bt124.2.2⟩ : S90)] : List (S90)))).bind fun bt130 => (some (bt130.1, bt130.2.1, bt130.2.2, true)))) else (if x13.toList = ([83, 108, 105, 99, 101] : List UInt8) then (if x1 = 9 then ((ops_row.f (⟨#[115, 116, 97, 114, 116, 115]⟩ : ByteArray) true).bind fun bt135 => ((ops_row.f (⟨#[101, 110, 100, 115]⟩ : ByteArray) true).bind fun bt138 => ((ops_row.f (⟨#[97, 120, 101, 115]⟩ : ByteArray) false).bind fun bt141 => (some (1, 1, (([(⟨bt135.1, bt135.2.1, bt135.2.2⟩ : S90), (⟨bt138.1, bt138.2.1, bt138.2.2⟩ : S90), (⟨bt141.1, bt141.2.1, bt141.2.2⟩ : S90)] : List (S90))), true))))) else (some (3, 4, ([] : List (S90)), true))) else (some (0, 0, ([] : List (S90)), false))))))))
end
def ops_Find.f (k : Nat) (a0 : ByteArray) (a1 : Int) : Option (Int × Int × (List (S90)) × Bool) := if a1 < 9 then (ops_Find.j0 k a0 a1 true) else (ops_Find.j0 k a0 a1 (decide (a1 > 13)))
theorem ops_Find.mono_l : ∀ k, (∀ y0 y1 y2, LeO (ops_Find.j0 k y0 y1 y2) (ops_Find.j0 (k + 1) y0 y1 y2)) ∧ (∀ y0 y1 y2, LeO (ops_Find.j1 k y0 y1 y2) (ops_Find.j1 (k + 1) y0 y1 y2)) ∧ (∀ y0 y1 y2, LeO (ops_Find.j2 k y0 y1 y2) (ops_Find.j2 (k + 1) y0 y1 y2))
 | 0 => ⟨fun _ _ _ r h => by simp [ops_Find.j0] at h, fun _ _ _ r h => by simp [ops_Find.j1] at h, fun _ _ _ r h => by simp [ops_Find.j2] at h⟩
 | k + 1 => by
  obtain ⟨ih0, ih1, ih2⟩ := ops_Find.mono_l k
  refine ⟨?_, ?_, ?_⟩
  ·
   intro y0 y1 y2
   unfold ops_Find.j0
   repeat' first
   | (with_reducible exact ih0 _ _ _)
   | (with_reducible exact ih1 _ _ _)
   | (with_reducible exact ih2 _ _ _)
   | (with_reducible exact LeO.refl _)
   | (with_reducible exact LeO.none _)
   | (with_reducible refine LeO.ite ?_ ?_)
   | (with_reducible refine LeO.bind ?_ (fun _ => ?_))
   | exact ih0 _ _ _
   | exact ih1 _ _ _
   | exact ih2 _ _ _
   | exact LeO.none _
   | refine LeO.ite ?_ ?_
   | refine LeO.bind ?_ (fun _ => ?_)
  ·
   intro y0 y1 y2
   unfold ops_Find.j1
   repeat' first
   | (with_reducible exact ih0 _ _ _)
   | (with_reducible exact ih1 _ _ _)
   | (with_reducible exact ih2 _ _ _)
   | (with_reducible exact LeO.refl _)
   | (with_reducible exact LeO.none _)
   | (with_reducible refine LeO.ite ?_ ?_)
   | (with_reducible refine LeO.bind ?_ (fun _ => ?_))
   | exact ih0 _ _ _
   | exact ih1 _ _ _
   | exact ih2 _ _ _
   | exact LeO.none _
   | refine LeO.ite ?_ ?_
   | refine LeO.bind ?_ (fun _ => ?_)
  ·
   intro y0 y1 y2
   unfold ops_Find.j2
   repeat' first
   | (with_reducible exact ih0 _ _ _)
   | (with_reducible exact ih1 _ _ _)
   | (with_reducible exact ih2 _ _ _)
   | (with_reducible exact LeO.refl _)
   | (with_reducible exact LeO.none _)
   | (with_reducible refine LeO.ite ?_ ?_)
   | (with_reducible refine LeO.bind ?_ (fun _ => ?_))
   | exact ih0 _ _ _
   | exact ih1 _ _ _
   | exact ih2 _ _ _
   | exact LeO.none _
   | refine LeO.ite ?_ ?_
   | refine LeO.bind ?_ (fun _ => ?_)
theorem ops_Find.mono : ∀ a0 a1 k, LeO (ops_Find.f k a0 a1) (ops_Find.f (k + 1) a0 a1) := by
 intro a0 a1 k
 obtain ⟨ih0, ih1, ih2⟩ := ops_Find.mono_l k
 unfold ops_Find.f
 repeat' first
   | (with_reducible exact ih0 _ _ _)
   | (with_reducible exact ih1 _ _ _)
   | (with_reducible exact ih2 _ _ _)
   | (with_reducible exact LeO.refl _)
   | (with_reducible exact LeO.none _)
   | (with_reducible refine LeO.ite ?_ ?_)
   | (with_reducible refine LeO.bind ?_ (fun _ => ?_))
   | exact ih0 _ _ _
   | exact ih1 _ _ _
   | exact ih2 _ _ _
   | exact LeO.none _
   | refine LeO.ite ?_ ?_
   | refine LeO.bind ?_ (fun _ => ?_)
set_option maxHeartbeats 8000000 in
set_option maxRecDepth 100000 in
theorem ops_Find.calls (k : Nat) (a0 : ByteArray) (a1 : Int) (r1 : Int) (r2 : Int) (r3 : List (S90)) (r4 : Bool) (w : World) (h : ops_Find.f k a0 a1 = some (r1, r2, r3, r4)) :
  Calls Try.prog 32 #[.string a0, .int .i64 a1] w fun e w' => ∃ v2_ : Value, e = .returned (.tuple #[.agg #[.int .i64 r1, .int .i64 r2, v2_], .bool r4]) ∧ Kd.V k90 90 w' w.heap.size (fun k_ => (w.heap.size ≤ k_)) v2_ r3 ∧ Below w.heap.size w w' := by
 have hu86 := Try.underlying86
 have HB := Aside0.mk (Below.refl w.heap.size w)
 have H : (if a1 < 9 then (ops_Find.j0 k a0 a1 true) else (ops_Find.j0 k a0 a1 (decide (a1 > 13)))) = some (r1, r2, r3, r4) := h
 clear h
 have HC3 := Aside0.mk H
 clear H
 go_enter Try.func32, Try.ntmps32
 go_upto_region 1 with (first | ((with_reducible refine gate_dst (N := 4) rfl ?_); refine box_event ?hg (N := 4) ?hd (cs := #[.int .i64 0, .int .i64 0, .slice none 0 0]) (t := 86) ?hr ?_; (case hd => rfl); (case hg => rfl); (case hr => first | (go_simp; done) | (go_simp; rfl)); intro gb101 hg w4 hbox hb; have n0_ := Aside0.mk (below_step (hbA HB) hb); have n1_ := Aside0.mk (hbox); have n2_ := Aside0.mk ((by rw [hg]; exact (below_size (hbA HB)) : w.heap.size ≤ gb101)); have n3_ := Aside0.mk ((by rw [hg]; exact (below_size (hbA HB)) : w.heap.size ≤ gb101)); clear HB; have HB := n0_; have BK101 := n1_; have GW101 := n2_; have GE101 := n3_; clear n0_ n1_ n2_ n3_; clear hb hbox hg))
 (try simp only [Act.put, List.setIfInBounds_toArray, List.set_cons_zero, List.set_cons_succ])
 go_cut [11] (fun v11 wc => ∃ (kq : Nat) (x11_2 : Bool), v11 = .bool x11_2 ∧ Aside0 (ops_Find.j0 kq a0 a1 x11_2 = some (r1, r2, r3, r4)) ∧ Aside0 (kq ≤ k) ∧ Aside0 (wc.heap[gb101]? = some (.cells #[.int .i64 0, .int .i64 0, (.slice none 0 0)] 86 (0, 0))) ∧ Aside0 (Below w.heap.size w wc))
 case first =>
  have H := HC3.out; clear HC3
  by_cases c5 : a1 < 9
  ·
   rw [if_pos c5] at H
   have c5b0 : decide (a1 < 9) = true := decide_eq_true c5
   clear c5
   (first | rw [c5b0] | (simp only [i64_w, i32_w]; rw [c5b0]) | skip)
   have H' := Aside0.mk H
   clear H
   go_wp2
   go_meet
   case rel => exact ⟨_, (true), (by first | rfl | (simp; done) | (simp [*]; done)), H', ⟨by first | omega | exact Nat.le_refl _⟩, ⟨bkA BK101⟩, ⟨hbA HB⟩⟩
  ·
   rw [if_neg c5] at H
   have c5b0 : decide (a1 < 9) = false := decide_eq_false c5
   clear c5
   (first | rw [c5b0] | (simp only [i64_w, i32_w]; rw [c5b0]) | skip)
   have H' := Aside0.mk H
   clear H
   go_wp2
   go_meet
   case rel => exact ⟨_, (decide (a1 > 13)), (by first | rfl | (simp; done) | (simp [*]; done)), H', ⟨by first | omega | exact Nat.le_refl _⟩, ⟨bkA BK101⟩, ⟨hbA HB⟩⟩
 case rest =>
  clear HC3; try clear c3; try clear c5; try clear c5b0
  obtain ⟨kq, x11_2, rfl, HA, HJ2, BK101, HB⟩ := hcut
  cases kq with
  | zero => exact absurd HA.out (by simp [ops_Find.j0])
  | succ kj2 =>
   have H := HA.out; clear HA
   simp only [ops_Find.j0] at H
   by_cases c6 : x11_2 = true
   ·
    subst c6
    have H1 : (some (0, 0, ([] : List (S90)), false)) = some (r1, r2, r3, r4) := by rw [if_pos rfl] at H; exact H
    clear H
    have H := H1
    clear H1
    simp only [Option.some.injEq, Prod.mk.injEq] at H
    obtain ⟨rfl, rfl, rfl, rfl⟩ := H
    have hcz7_0 : wc.cell? ⟨gb101, 0, none⟩ = some (.int .i64 0) := bcA BK101 0; have hcz7_1 : wc.cell? ⟨gb101, 1, none⟩ = some (.int .i64 0) := bcA BK101 1; have hcz7_2 : wc.cell? ⟨gb101, 2, none⟩ = some (.slice none 0 0) := bcA BK101 2; have hfz7_0 := blk_frozen BK101.out 0; have hfz7_1 := blk_frozen BK101.out 1; have hfz7_2 := blk_frozen BK101.out 2
    go_wp2
    refine bodyPost_ret (results_ct rfl _ _ gb101 86 #[.int .i64 0, .int .i64 0, .slice none 0 0] (0, 0) _ rfl (by (with_reducible repeat (first | refine blk_drewN ?_ _ | refine blk_drew ?_ | refine blk_alloc ?_ _)); refine blk_put (cs := #[.int .i64 0, .int .i64 0, .slice none 0 0]) ?_ 2 _ rfl; (with_reducible repeat (first | refine blk_drewN ?_ _ | refine blk_drew ?_ | refine blk_alloc ?_ _)); refine blk_put (cs := #[.int .i64 0, .int .i64 0, .slice none 0 0]) ?_ 1 _ rfl; (with_reducible repeat (first | refine blk_drewN ?_ _ | refine blk_drew ?_ | refine blk_alloc ?_ _)); refine blk_put (cs := #[.int .i64 0, .int .i64 0, .slice none 0 0]) ?_ 0 _ rfl; (with_reducible repeat (first | refine blk_drewN ?_ _ | refine blk_drew ?_ | refine blk_alloc ?_ _)); exact BK101.out) Try.underlying86 rfl (by kernel_rfl)) rfl ?_
    exact ⟨_, by first | rfl | (simp [errW_none, errW_some] <;> rfl) | (simp [*, errW_none, errW_some] <;> rfl), Kd.V_nil _ _ _ _ _, hbA HB⟩
   ·
    replace c6 := Bool.eq_false_iff.mpr c6
    subst c6
    have H1 : (if a0.toList = ([73, 100, 101, 110, 116, 105, 116, 121] : List UInt8) then (ops_Find.j1 kj2 a1 a0 (a0.toList == ([73, 100, 101, 110, 116, 105, 116, 121] : List UInt8))) else (if a0.toList = ([78, 101, 103] : List UInt8) then (ops_Find.j1 kj2 a1 a0 (a0.toList == ([78, 101, 103] : List UInt8))) else (ops_Find.j1 kj2 a1 a0 (a0.toList == ([78, 111, 116] : List UInt8))))) = some (r1, r2, r3, r4) := by rw [if_neg (show ¬ (false = true) by decide)] at H; exact H
    clear H
    have H := H1
    clear H1
    have HC8 := Aside0.mk H
    clear H
    go_upto_if 14 with (fail)
    go_cut [14] (fun v14 wc => ∃ (kq : Nat) (x14_7 : Bool), v14 = .bool x14_7 ∧ Aside0 (ops_Find.j1 kq a1 a0 x14_7 = some (r1, r2, r3, r4)) ∧ Aside0 (kq ≤ kj2) ∧ Aside0 (wc.heap[gb101]? = some (.cells #[.int .i64 0, .int .i64 0, (.slice none 0 0)] 86 (0, 0))) ∧ Aside0 (Below w.heap.size w wc))
    case first =>
     have H := HC8.out; clear HC8
     by_cases c9 : a0.toList = ([73, 100, 101, 110, 116, 105, 116, 121] : List UInt8)
     ·
      rw [if_pos c9] at H
      have c9b0 : (a0.toList == ([73, 100, 101, 110, 116, 105, 116, 121] : List UInt8)) = true := beq_iff_eq.mpr c9
      have c9b1 : (a0.toList != ([73, 100, 101, 110, 116, 105, 116, 121] : List UInt8)) = false := bne_eq_false_iff_eq.mpr c9
      clear c9
      (first | rw [c9b0] | (simp only [i64_w, i32_w]; rw [c9b0]) | skip)
      have H' := Aside0.mk H
      clear H
      go_wp2
      go_meet
      case rel => exact ⟨_, ((a0.toList == ([73, 100, 101, 110, 116, 105, 116, 121] : List UInt8))), (by first | rfl | (simp; done) | (simp [*]; done)), H', ⟨by have := HJ2.out; first | omega | exact Nat.le_refl _⟩, ⟨bkA BK101⟩, ⟨hbA HB⟩⟩
     ·
      rw [if_neg c9] at H
      have c9b0 : (a0.toList == ([73, 100, 101, 110, 116, 105, 116, 121] : List UInt8)) = false := beq_eq_false_iff_ne.mpr c9
      have c9b1 : (a0.toList != ([73, 100, 101, 110, 116, 105, 116, 121] : List UInt8)) = true := bne_iff_ne.mpr c9
      (first | rw [c9b0] | (simp only [i64_w, i32_w]; rw [c9b0]) | skip)
      by_cases c10 : a0.toList = ([78, 101, 103] : List UInt8)
      ·
       rw [if_pos c10] at H
       have c10b0 : (a0.toList == ([78, 101, 103] : List UInt8)) = true := beq_iff_eq.mpr c10
       have c10b1 : (a0.toList != ([78, 101, 103] : List UInt8)) = false := bne_eq_false_iff_eq.mpr c10
       clear c10
       have H' := Aside0.mk H
       clear H
       go_wp2
       go_meet
       case rel => exact ⟨_, ((a0.toList == ([78, 101, 103] : List UInt8))), (by first | rfl | (simp; done) | (simp [*]; done)), H', ⟨by have := HJ2.out; first | omega | exact Nat.le_refl _⟩, ⟨bkA BK101⟩, ⟨hbA HB⟩⟩
      ·
       rw [if_neg c10] at H
       have c10b0 : (a0.toList == ([78, 101, 103] : List UInt8)) = false := beq_eq_false_iff_ne.mpr c10
       have c10b1 : (a0.toList != ([78, 101, 103] : List UInt8)) = true := bne_iff_ne.mpr c10
       have H' := Aside0.mk H
       clear H
       go_wp2
       go_meet
       case rel => exact ⟨_, ((a0.toList == ([78, 111, 116] : List UInt8))), (by first | rfl | (simp; done) | (simp [*]; done)), H', ⟨by have := HJ2.out; first | omega | exact Nat.le_refl _⟩, ⟨bkA BK101⟩, ⟨hbA HB⟩⟩
    case rest =>
     clear HC8; try clear c3; try clear c5; try clear c5b0; try clear c6; try clear c9; try clear c9b0; try clear c9b1; try clear c10; try clear c10b0; try clear c10b1; try clear hcz7_0; try clear hcz7_1; try clear hcz7_2; try clear hfz7_0; try clear hfz7_1; try clear hfz7_2
     obtain ⟨kq, x14_7, rfl, HA, HJ7, BK101, HB⟩ := hcut
     cases kq with
     | zero => exact absurd HA.out (by simp [ops_Find.j1])
     | succ kj7 =>
      have H := HA.out; clear HA
      simp only [ops_Find.j1] at H
      by_cases c11 : x14_7 = true
      ·
       subst c11
       have H1 : (some (1, 1, ([] : List (S90)), true)) = some (r1, r2, r3, r4) := by rw [if_pos rfl] at H; exact H
       clear H
       have H := H1
       clear H1
       simp only [Option.some.injEq, Prod.mk.injEq] at H
       obtain ⟨rfl, rfl, rfl, rfl⟩ := H
       have hcz12_0 : wc.cell? ⟨gb101, 0, none⟩ = some (.int .i64 0) := bcA BK101 0; have hcz12_1 : wc.cell? ⟨gb101, 1, none⟩ = some (.int .i64 0) := bcA BK101 1; have hcz12_2 : wc.cell? ⟨gb101, 2, none⟩ = some (.slice none 0 0) := bcA BK101 2; have hfz12_0 := blk_frozen BK101.out 0; have hfz12_1 := blk_frozen BK101.out 1; have hfz12_2 := blk_frozen BK101.out 2
       go_wp2
       refine bodyPost_ret (results_ct rfl _ _ gb101 86 #[.int .i64 1, .int .i64 1, .slice none 0 0] (0, 0) _ rfl (by (with_reducible repeat (first | refine blk_drewN ?_ _ | refine blk_drew ?_ | refine blk_alloc ?_ _)); refine blk_put (cs := #[.int .i64 1, .int .i64 1, .slice none 0 0]) ?_ 2 _ rfl; (with_reducible repeat (first | refine blk_drewN ?_ _ | refine blk_drew ?_ | refine blk_alloc ?_ _)); refine blk_put (cs := #[.int .i64 1, .int .i64 0, .slice none 0 0]) ?_ 1 _ rfl; (with_reducible repeat (first | refine blk_drewN ?_ _ | refine blk_drew ?_ | refine blk_alloc ?_ _)); refine blk_put (cs := #[.int .i64 0, .int .i64 0, .slice none 0 0]) ?_ 0 _ rfl; (with_reducible repeat (first | refine blk_drewN ?_ _ | refine blk_drew ?_ | refine blk_alloc ?_ _)); exact BK101.out) Try.underlying86 rfl (by kernel_rfl)) rfl ?_
       exact ⟨_, by first | rfl | (simp [errW_none, errW_some] <;> rfl) | (simp [*, errW_none, errW_some] <;> rfl), Kd.V_nil _ _ _ _ _, hbA HB⟩
      ·
       replace c11 := Bool.eq_false_iff.mpr c11
       subst c11
       have H1 : (if a0.toList = ([65, 100, 100] : List UInt8) then (ops_Find.j2 kj7 a1 a0 (a0.toList == ([65, 100, 100] : List UInt8))) else (if a0.toList = ([83, 117, 98] : List UInt8) then (ops_Find.j2 kj7 a1 a0 (a0.toList == ([83, 117, 98] : List UInt8))) else (if a0.toList = ([77, 117, 108] : List UInt8) then (ops_Find.j2 kj7 a1 a0 (a0.toList == ([77, 117, 108] : List UInt8))) else (if a0.toList = ([65, 110, 100] : List UInt8) then (ops_Find.j2 kj7 a1 a0 (a0.toList == ([65, 110, 100] : List UInt8))) else (if a0.toList = ([69, 113, 117, 97, 108] : List UInt8) then (ops_Find.j2 kj7 a1 a0 (a0.toList == ([69, 113, 117, 97, 108] : List UInt8))) else (ops_Find.j2 kj7 a1 a0 (a0.toList == ([82, 101, 115, 104, 97, 112, 101] : List UInt8)))))))) = some (r1, r2, r3, r4) := by rw [if_neg (show ¬ (false = true) by decide)] at H; exact H
       clear H
       have H := H1
       clear H1
       have HC13 := Aside0.mk H
       clear H
       go_upto_if 19 with (fail)
       go_cut [19] (fun v19 wc => ∃ (kq : Nat) (x19_12 : Bool), v19 = .bool x19_12 ∧ Aside0 (ops_Find.j2 kq a1 a0 x19_12 = some (r1, r2, r3, r4)) ∧ Aside0 (kq ≤ kj7) ∧ Aside0 (wc.heap[gb101]? = some (.cells #[.int .i64 0, .int .i64 0, (.slice none 0 0)] 86 (0, 0))) ∧ Aside0 (Below w.heap.size w wc))
       case first =>
        have H := HC13.out; clear HC13
        by_cases c14 : a0.toList = ([65, 100, 100] : List UInt8)
        ·
         rw [if_pos c14] at H
         have c14b0 : (a0.toList == ([65, 100, 100] : List UInt8)) = true := beq_iff_eq.mpr c14
         have c14b1 : (a0.toList != ([65, 100, 100] : List UInt8)) = false := bne_eq_false_iff_eq.mpr c14
         clear c14
         (first | rw [c14b0] | (simp only [i64_w, i32_w]; rw [c14b0]) | skip)
         have H' := Aside0.mk H
         clear H
         go_wp2
         go_meet
         case rel => exact ⟨_, ((a0.toList == ([65, 100, 100] : List UInt8))), (by first | rfl | (simp; done) | (simp [*]; done)), H', ⟨by have := HJ2.out; have := HJ7.out; first | omega | exact Nat.le_refl _⟩, ⟨bkA BK101⟩, ⟨hbA HB⟩⟩
        ·
         rw [if_neg c14] at H
         have c14b0 : (a0.toList == ([65, 100, 100] : List UInt8)) = false := beq_eq_false_iff_ne.mpr c14
         have c14b1 : (a0.toList != ([65, 100, 100] : List UInt8)) = true := bne_iff_ne.mpr c14
         (first | rw [c14b0] | (simp only [i64_w, i32_w]; rw [c14b0]) | skip)
         by_cases c15 : a0.toList = ([83, 117, 98] : List UInt8)
         ·
          rw [if_pos c15] at H
          have c15b0 : (a0.toList == ([83, 117, 98] : List UInt8)) = true := beq_iff_eq.mpr c15
          have c15b1 : (a0.toList != ([83, 117, 98] : List UInt8)) = false := bne_eq_false_iff_eq.mpr c15
          clear c15
          have H' := Aside0.mk H
          clear H
          go_wp2
          go_meet
          case rel => exact ⟨_, ((a0.toList == ([83, 117, 98] : List UInt8))), (by first | rfl | (simp; done) | (simp [*]; done)), H', ⟨by have := HJ2.out; have := HJ7.out; first | omega | exact Nat.le_refl _⟩, ⟨bkA BK101⟩, ⟨hbA HB⟩⟩
         ·
          rw [if_neg c15] at H
          have c15b0 : (a0.toList == ([83, 117, 98] : List UInt8)) = false := beq_eq_false_iff_ne.mpr c15
          have c15b1 : (a0.toList != ([83, 117, 98] : List UInt8)) = true := bne_iff_ne.mpr c15
          by_cases c16 : a0.toList = ([77, 117, 108] : List UInt8)
          ·
           rw [if_pos c16] at H
           have c16b0 : (a0.toList == ([77, 117, 108] : List UInt8)) = true := beq_iff_eq.mpr c16
           have c16b1 : (a0.toList != ([77, 117, 108] : List UInt8)) = false := bne_eq_false_iff_eq.mpr c16
           clear c16
           have H' := Aside0.mk H
           clear H
           go_wp2
           go_meet
           case rel => exact ⟨_, ((a0.toList == ([77, 117, 108] : List UInt8))), (by first | rfl | (simp; done) | (simp [*]; done)), H', ⟨by have := HJ2.out; have := HJ7.out; first | omega | exact Nat.le_refl _⟩, ⟨bkA BK101⟩, ⟨hbA HB⟩⟩
          ·
           rw [if_neg c16] at H
           have c16b0 : (a0.toList == ([77, 117, 108] : List UInt8)) = false := beq_eq_false_iff_ne.mpr c16
           have c16b1 : (a0.toList != ([77, 117, 108] : List UInt8)) = true := bne_iff_ne.mpr c16
           by_cases c17 : a0.toList = ([65, 110, 100] : List UInt8)
           ·
            rw [if_pos c17] at H
            have c17b0 : (a0.toList == ([65, 110, 100] : List UInt8)) = true := beq_iff_eq.mpr c17
            have c17b1 : (a0.toList != ([65, 110, 100] : List UInt8)) = false := bne_eq_false_iff_eq.mpr c17
            clear c17
            have H' := Aside0.mk H
            clear H
            go_wp2
            go_meet
            case rel => exact ⟨_, ((a0.toList == ([65, 110, 100] : List UInt8))), (by first | rfl | (simp; done) | (simp [*]; done)), H', ⟨by have := HJ2.out; have := HJ7.out; first | omega | exact Nat.le_refl _⟩, ⟨bkA BK101⟩, ⟨hbA HB⟩⟩
           ·
            rw [if_neg c17] at H
            have c17b0 : (a0.toList == ([65, 110, 100] : List UInt8)) = false := beq_eq_false_iff_ne.mpr c17
            have c17b1 : (a0.toList != ([65, 110, 100] : List UInt8)) = true := bne_iff_ne.mpr c17
            by_cases c18 : a0.toList = ([69, 113, 117, 97, 108] : List UInt8)
            ·
             rw [if_pos c18] at H
             have c18b0 : (a0.toList == ([69, 113, 117, 97, 108] : List UInt8)) = true := beq_iff_eq.mpr c18
             have c18b1 : (a0.toList != ([69, 113, 117, 97, 108] : List UInt8)) = false := bne_eq_false_iff_eq.mpr c18
             clear c18
             have H' := Aside0.mk H
             clear H
             go_wp2
             go_meet
             case rel => exact ⟨_, ((a0.toList == ([69, 113, 117, 97, 108] : List UInt8))), (by first | rfl | (simp; done) | (simp [*]; done)), H', ⟨by have := HJ2.out; have := HJ7.out; first | omega | exact Nat.le_refl _⟩, ⟨bkA BK101⟩, ⟨hbA HB⟩⟩
            ·
             rw [if_neg c18] at H
             have c18b0 : (a0.toList == ([69, 113, 117, 97, 108] : List UInt8)) = false := beq_eq_false_iff_ne.mpr c18
             have c18b1 : (a0.toList != ([69, 113, 117, 97, 108] : List UInt8)) = true := bne_iff_ne.mpr c18
             have H' := Aside0.mk H
             clear H
             go_wp2
             go_meet
             case rel => exact ⟨_, ((a0.toList == ([82, 101, 115, 104, 97, 112, 101] : List UInt8))), (by first | rfl | (simp; done) | (simp [*]; done)), H', ⟨by have := HJ2.out; have := HJ7.out; first | omega | exact Nat.le_refl _⟩, ⟨bkA BK101⟩, ⟨hbA HB⟩⟩
       case rest =>
        clear HC13; try clear c3; try clear c5; try clear c5b0; try clear c6; try clear c9; try clear c9b0; try clear c9b1; try clear c10; try clear c10b0; try clear c10b1; try clear c11; try clear c14; try clear c14b0; try clear c14b1; try clear c15; try clear c15b0; try clear c15b1; try clear c16; try clear c16b0; try clear c16b1; try clear c17; try clear c17b0; try clear c17b1; try clear c18; try clear c18b0; try clear c18b1; try clear hcz12_0; try clear hcz12_1; try clear hcz12_2; try clear hcz7_0; try clear hcz7_1; try clear hcz7_2; try clear hfz12_0; try clear hfz12_1; try clear hfz12_2; try clear hfz7_0; try clear hfz7_1; try clear hfz7_2
        obtain ⟨kq, x19_12, rfl, HA, HJ12, BK101, HB⟩ := hcut
        cases kq with
        | zero => exact absurd HA.out (by simp [ops_Find.j2])
        | succ kj12 =>
         have H := HA.out; clear HA
         simp only [ops_Find.j2] at H
         by_cases c19 : x19_12 = true
         ·
          subst c19
          have H1 : (some (2, 2, ([] : List (S90)), true)) = some (r1, r2, r3, r4) := by rw [if_pos rfl] at H; exact H
          clear H
          have H := H1
          clear H1
          simp only [Option.some.injEq, Prod.mk.injEq] at H
          obtain ⟨rfl, rfl, rfl, rfl⟩ := H
          have hcz20_0 : wc.cell? ⟨gb101, 0, none⟩ = some (.int .i64 0) := bcA BK101 0; have hcz20_1 : wc.cell? ⟨gb101, 1, none⟩ = some (.int .i64 0) := bcA BK101 1; have hcz20_2 : wc.cell? ⟨gb101, 2, none⟩ = some (.slice none 0 0) := bcA BK101 2; have hfz20_0 := blk_frozen BK101.out 0; have hfz20_1 := blk_frozen BK101.out 1; have hfz20_2 := blk_frozen BK101.out 2
          go_wp2
          refine bodyPost_ret (results_ct rfl _ _ gb101 86 #[.int .i64 2, .int .i64 2, .slice none 0 0] (0, 0) _ rfl (by (with_reducible repeat (first | refine blk_drewN ?_ _ | refine blk_drew ?_ | refine blk_alloc ?_ _)); refine blk_put (cs := #[.int .i64 2, .int .i64 2, .slice none 0 0]) ?_ 2 _ rfl; (with_reducible repeat (first | refine blk_drewN ?_ _ | refine blk_drew ?_ | refine blk_alloc ?_ _)); refine blk_put (cs := #[.int .i64 2, .int .i64 0, .slice none 0 0]) ?_ 1 _ rfl; (with_reducible repeat (first | refine blk_drewN ?_ _ | refine blk_drew ?_ | refine blk_alloc ?_ _)); refine blk_put (cs := #[.int .i64 0, .int .i64 0, .slice none 0 0]) ?_ 0 _ rfl; (with_reducible repeat (first | refine blk_drewN ?_ _ | refine blk_drew ?_ | refine blk_alloc ?_ _)); exact BK101.out) Try.underlying86 rfl (by kernel_rfl)) rfl ?_
          exact ⟨_, by first | rfl | (simp [errW_none, errW_some] <;> rfl) | (simp [*, errW_none, errW_some] <;> rfl), Kd.V_nil _ _ _ _ _, hbA HB⟩
         ·
          replace c19 := Bool.eq_false_iff.mpr c19
          subst c19
          have H1 : (if a0.toList = ([84, 114, 97, 110, 115, 112, 111, 115, 101] : List UInt8) then ((ops_row.f (⟨#[112, 101, 114, 109]⟩ : ByteArray) true).bind fun bt102 => (some (1, 1, (([(⟨bt102.1, bt102.2.1, bt102.2.2⟩ : S90)] : List (S90))), true))) else (if a0.toList = ([67, 111, 110, 99, 97, 116] : List UInt8) then ((ops_one.f (⟨#[97, 120, 105, 115]⟩ : ByteArray) true).bind fun bt108 => (some (1, 64, (([(⟨bt108.1, bt108.2.1, bt108.2.2⟩ : S90)] : List (S90))), true))) else (if a0.toList = ([83, 113, 117, 101, 101, 122, 101] : List UInt8) then ((ops_axed.f a1 false ([] : List (S90))).bind fun bt114 => (some (bt114.1, bt114.2.1, bt114.2.2, true))) else (if a0.toList = ([85, 110, 115, 113, 117, 101, 101, 122, 101] : List UInt8) then ((ops_axed.f a1 true ([] : List (S90))).bind fun bt119 => (some (bt119.1, bt119.2.1, bt119.2.2, true))) else (if a0.toList = ([82, 101, 100, 117, 99, 101, 83, 117, 109] : List UInt8) then ((ops_one.f (⟨#[107, 101, 101, 112, 100, 105, 109, 115]⟩ : ByteArray) false).bind fun bt124 => ((ops_axed.f a1 false (([(⟨bt124.1, bt124.2.1, bt124.2.2⟩ : S90)] : List (S90)))).bind fun bt130 => (some (bt130.1, bt130.2.1, bt130.2.2, true)))) else (if a0.toList = ([83, 108, 105, 99, 101] : List UInt8) then (if a1 = 9 then ((ops_row.f (⟨#[115, 116, 97, 114, 116, 115]⟩ : ByteArray) true).bind fun bt135 => ((ops_row.f (⟨#[101, 110, 100, 115]⟩ : ByteArray) true).bind fun bt138 => ((ops_row.f (⟨#[97, 120, 101, 115]⟩ : ByteArray) false).bind fun bt141 => (some (1, 1, (([(⟨bt135.1, bt135.2.1, bt135.2.2⟩ : S90), (⟨bt138.1, bt138.2.1, bt138.2.2⟩ : S90), (⟨bt141.1, bt141.2.1, bt141.2.2⟩ : S90)] : List (S90))), true))))) else (some (3, 4, ([] : List (S90)), true))) else (some (0, 0, ([] : List (S90)), false)))))))) = some (r1, r2, r3, r4) := by rw [if_neg (show ¬ (false = true) by decide)] at H; exact H
          clear H
          have H := H1
          clear H1
          by_cases c21 : a0.toList = ([84, 114, 97, 110, 115, 112, 111, 115, 101] : List UInt8)
          ·
           rw [if_pos c21] at H
           have c21b0 : (a0.toList == ([84, 114, 97, 110, 115, 112, 111, 115, 101] : List UInt8)) = true := beq_iff_eq.mpr c21
           have c21b1 : (a0.toList != ([84, 114, 97, 110, 115, 112, 111, 115, 101] : List UInt8)) = false := bne_eq_false_iff_eq.mpr c21
           clear c21
           replace H := Option.bind_eq_some_iff.mp H
           obtain ⟨⟨t102, t103, t104⟩, A220, H⟩ := H
           replace H : (some (1, 1, (([(⟨t102, t103, t104⟩ : S90)] : List (S90))), true)) = some (r1, r2, r3, r4) := H
           have A22 := Aside0.mk A220
           clear A220
           obtain ⟨y105, hy105⟩ : ∃ y_ : List (S90), y_ = (([(⟨t102, t103, t104⟩ : S90)] : List (S90))) := ⟨_, rfl⟩
           replace H : (some (1, 1, y105, true)) = some (r1, r2, r3, r4) := by first | (rw [hy105]; with_reducible exact H) | (have H2_ := (Option.bind_some _ _).symm.trans H; rw [hy105]; with_reducible exact H2_) | (have H2_ := (Option.bind_some _ _).symm.trans H; with_reducible exact H2_) | with_reducible exact H | (rw [hy105]; exact H) | exact H
           have Ny105 := Aside0.mk hy105
           clear hy105
           simp only [Option.some.injEq, Prod.mk.injEq] at H
           obtain ⟨rfl, rfl, rfl, rfl⟩ := H
           go_wp2_with (first | ((with_reducible refine gate_callee (f := 64) rfl ?_); refine goesL_ (some 29) rfl rfl Try.func64 (by kernel_rfl) rfl #[.string (⟨#[112, 101, 114, 109]⟩ : ByteArray), .bool true] rfl (by (try simp only [List.map_toArray, List.map_cons, List.map_nil]); first | done | rfl | (simp only [List.length_drop, List.length_take]; rfl)) ?_; (with_reducible refine (ops_row.calls (⟨#[112, 101, 114, 109]⟩ : ByteArray) true t102 t103 t104 _ A22.out).mono ?_); rintro e w23 ⟨rfl, hb⟩; refine ⟨_, rfl, ?_⟩; have n0_ := Aside0.mk (blk_below (g := gb101) (bkA BK101) hb); have n1_ := Aside0.mk (below_step (hbA HB) hb); clear BK101; clear HB; have BK101 := n0_; have HB := n1_; clear n0_ n1_; (try clear hb); (try clear hb2); (try clear hk); (try clear hi)) | ((with_reducible refine gate_dst (N := 30) rfl ?_); refine Kd.R_lit k90 _ 90 ?hg (N := 30) ?hd (xs := ([(⟨t102, t103, t104⟩ : S90)] : List (S90))) (inner := [.string t102, .bool t103, .bool t104]) (ok := fun _ => True) (okp := fun _ => True) ?hr ?hp (fun _ hk => hk) trivial (Below.refl _ _) (Nat.le_refl _) (by simp) ?_; (case hd => rfl); (case hg => rfl); (case hr => first | (go_simp; done) | (go_simp; rfl)); (case hp => exact (Reps.c3 (show Kd.M k90 _ _ _ (⟨t102, t103, t104⟩ : S90) [.string t102, .bool t103, .bool t104] from (k90_mkM _ _ _ (⟨t102, t103, t104⟩ : S90) )) (Reps.none _ _))); intro v106 w24 ho25 hb hg_ hnew_; clear hg_ hnew_; (first | rw [← Ny105.out] at ho25 | (simp only [Int.reduceToNat] at ho25; rw [← Ny105.out] at ho25)); have n0_ := Aside0.mk (Kd.R_lower (Kd.R_newM (M := fun k_ => (w.heap.size ≤ k_)) ho25 (below_size (hbA HB)) (fun k_ h_ => h_)) (below_size (hbA HB))); have n1_ := Aside0.mk (blk_below (g := gb101) (bkA BK101) hb); have n2_ := Aside0.mk (below_step (hbA HB) hb); clear BK101; clear HB; have HO107 := n0_; have BK101 := n1_; have HB := n2_; clear n0_ n1_ n2_; clear hb ho25; obtain ⟨Ao26, co26, eo26⟩ := Kd.R_slice HO107.out; subst eo26; have hcz27_0 : w24.cell? ⟨gb101, 0, none⟩ = some (.int .i64 0) := bcA BK101 0; have hcz27_1 : w24.cell? ⟨gb101, 1, none⟩ = some (.int .i64 0) := bcA BK101 1; have hcz27_2 : w24.cell? ⟨gb101, 2, none⟩ = some (.slice none 0 0) := bcA BK101 2; have hfz27_0 := blk_frozen BK101.out 0; have hfz27_1 := blk_frozen BK101.out 1; have hfz27_2 := blk_frozen BK101.out 2))
           refine bodyPost_ret (results_ct rfl _ _ gb101 86 #[.int .i64 1, .int .i64 1, .slice Ao26 y105.length co26] (0, 0) _ rfl (by (with_reducible repeat (first | refine blk_drewN ?_ _ | refine blk_drew ?_ | refine blk_alloc ?_ _)); refine blk_put (cs := #[.int .i64 1, .int .i64 1, .slice none 0 0]) ?_ 2 _ rfl; (with_reducible repeat (first | refine blk_drewN ?_ _ | refine blk_drew ?_ | refine blk_alloc ?_ _)); refine blk_put (cs := #[.int .i64 1, .int .i64 0, .slice none 0 0]) ?_ 1 _ rfl; (with_reducible repeat (first | refine blk_drewN ?_ _ | refine blk_drew ?_ | refine blk_alloc ?_ _)); refine blk_put (cs := #[.int .i64 0, .int .i64 0, .slice none 0 0]) ?_ 0 _ rfl; (with_reducible repeat (first | refine blk_drewN ?_ _ | refine blk_drew ?_ | refine blk_alloc ?_ _)); exact BK101.out) Try.underlying86 rfl (by kernel_rfl)) rfl ?_
           exact ⟨_, by first | rfl | (simp [errW_none, errW_some] <;> rfl) | (simp [*, errW_none, errW_some] <;> rfl), Kd.R_V (by (with_reducible repeat (first | apply Kd.R_alloc | apply Kd.R_drewN | apply Kd.R_drew)); exact Kd.R_mono (Kd.R_far (p := ⟨gb101, 2, none⟩) (Kd.R_far (p := ⟨gb101, 1, none⟩) (Kd.R_far (p := ⟨gb101, 0, none⟩) (Kd.R_types HO107.out BK101.out (by decide)) (fun _ hk => hk.2) (.int .i64 1)) (fun _ hk => hk.2) (.int .i64 1)) (fun _ hk => hk.2) (.slice Ao26 y105.length co26)) (fun _ hk => hk.1.1)), hbA HB⟩
          ·
           rw [if_neg c21] at H
           have c21b0 : (a0.toList == ([84, 114, 97, 110, 115, 112, 111, 115, 101] : List UInt8)) = false := beq_eq_false_iff_ne.mpr c21
           have c21b1 : (a0.toList != ([84, 114, 97, 110, 115, 112, 111, 115, 101] : List UInt8)) = true := bne_iff_ne.mpr c21
           by_cases c28 : a0.toList = ([67, 111, 110, 99, 97, 116] : List UInt8)
           ·
            rw [if_pos c28] at H
            have c28b0 : (a0.toList == ([67, 111, 110, 99, 97, 116] : List UInt8)) = true := beq_iff_eq.mpr c28
            have c28b1 : (a0.toList != ([67, 111, 110, 99, 97, 116] : List UInt8)) = false := bne_eq_false_iff_eq.mpr c28
            clear c28
            replace H := Option.bind_eq_some_iff.mp H
            obtain ⟨⟨t108, t109, t110⟩, A290, H⟩ := H
            replace H : (some (1, 64, (([(⟨t108, t109, t110⟩ : S90)] : List (S90))), true)) = some (r1, r2, r3, r4) := H
            have A29 := Aside0.mk A290
            clear A290
            obtain ⟨y111, hy111⟩ : ∃ y_ : List (S90), y_ = (([(⟨t108, t109, t110⟩ : S90)] : List (S90))) := ⟨_, rfl⟩
            replace H : (some (1, 64, y111, true)) = some (r1, r2, r3, r4) := by first | (rw [hy111]; with_reducible exact H) | (have H2_ := (Option.bind_some _ _).symm.trans H; rw [hy111]; with_reducible exact H2_) | (have H2_ := (Option.bind_some _ _).symm.trans H; with_reducible exact H2_) | with_reducible exact H | (rw [hy111]; exact H) | exact H
            have Ny111 := Aside0.mk hy111
            clear hy111
            simp only [Option.some.injEq, Prod.mk.injEq] at H
            obtain ⟨rfl, rfl, rfl, rfl⟩ := H
            go_wp2_with (first | ((with_reducible refine gate_callee (f := 65) rfl ?_); refine goesL_ (some 34) rfl rfl Try.func65 (by kernel_rfl) rfl #[.string (⟨#[97, 120, 105, 115]⟩ : ByteArray), .bool true] rfl (by (try simp only [List.map_toArray, List.map_cons, List.map_nil]); first | done | rfl | (simp only [List.length_drop, List.length_take]; rfl)) ?_; (with_reducible refine (ops_one.calls (⟨#[97, 120, 105, 115]⟩ : ByteArray) true t108 t109 t110 _ A29.out).mono ?_); rintro e w30 ⟨rfl, hb⟩; refine ⟨_, rfl, ?_⟩; have n0_ := Aside0.mk (blk_below (g := gb101) (bkA BK101) hb); have n1_ := Aside0.mk (below_step (hbA HB) hb); clear BK101; clear HB; have BK101 := n0_; have HB := n1_; clear n0_ n1_; (try clear hb); (try clear hb2); (try clear hk); (try clear hi)) | ((with_reducible refine gate_dst (N := 35) rfl ?_); refine Kd.R_lit k90 _ 90 ?hg (N := 35) ?hd (xs := ([(⟨t108, t109, t110⟩ : S90)] : List (S90))) (inner := [.string t108, .bool t109, .bool t110]) (ok := fun _ => True) (okp := fun _ => True) ?hr ?hp (fun _ hk => hk) trivial (Below.refl _ _) (Nat.le_refl _) (by simp) ?_; (case hd => rfl); (case hg => rfl); (case hr => first | (go_simp; done) | (go_simp; rfl)); (case hp => exact (Reps.c3 (show Kd.M k90 _ _ _ (⟨t108, t109, t110⟩ : S90) [.string t108, .bool t109, .bool t110] from (k90_mkM _ _ _ (⟨t108, t109, t110⟩ : S90) )) (Reps.none _ _))); intro v112 w31 ho32 hb hg_ hnew_; clear hg_ hnew_; (first | rw [← Ny111.out] at ho32 | (simp only [Int.reduceToNat] at ho32; rw [← Ny111.out] at ho32)); have n0_ := Aside0.mk (Kd.R_lower (Kd.R_newM (M := fun k_ => (w.heap.size ≤ k_)) ho32 (below_size (hbA HB)) (fun k_ h_ => h_)) (below_size (hbA HB))); have n1_ := Aside0.mk (blk_below (g := gb101) (bkA BK101) hb); have n2_ := Aside0.mk (below_step (hbA HB) hb); clear BK101; clear HB; have HO113 := n0_; have BK101 := n1_; have HB := n2_; clear n0_ n1_ n2_; clear hb ho32; obtain ⟨Ao33, co33, eo33⟩ := Kd.R_slice HO113.out; subst eo33; have hcz34_0 : w31.cell? ⟨gb101, 0, none⟩ = some (.int .i64 0) := bcA BK101 0; have hcz34_1 : w31.cell? ⟨gb101, 1, none⟩ = some (.int .i64 0) := bcA BK101 1; have hcz34_2 : w31.cell? ⟨gb101, 2, none⟩ = some (.slice none 0 0) := bcA BK101 2; have hfz34_0 := blk_frozen BK101.out 0; have hfz34_1 := blk_frozen BK101.out 1; have hfz34_2 := blk_frozen BK101.out 2))
            refine bodyPost_ret (results_ct rfl _ _ gb101 86 #[.int .i64 1, .int .i64 64, .slice Ao33 y111.length co33] (0, 0) _ rfl (by (with_reducible repeat (first | refine blk_drewN ?_ _ | refine blk_drew ?_ | refine blk_alloc ?_ _)); refine blk_put (cs := #[.int .i64 1, .int .i64 64, .slice none 0 0]) ?_ 2 _ rfl; (with_reducible repeat (first | refine blk_drewN ?_ _ | refine blk_drew ?_ | refine blk_alloc ?_ _)); refine blk_put (cs := #[.int .i64 1, .int .i64 0, .slice none 0 0]) ?_ 1 _ rfl; (with_reducible repeat (first | refine blk_drewN ?_ _ | refine blk_drew ?_ | refine blk_alloc ?_ _)); refine blk_put (cs := #[.int .i64 0, .int .i64 0, .slice none 0 0]) ?_ 0 _ rfl; (with_reducible repeat (first | refine blk_drewN ?_ _ | refine blk_drew ?_ | refine blk_alloc ?_ _)); exact BK101.out) Try.underlying86 rfl (by kernel_rfl)) rfl ?_
            exact ⟨_, by first | rfl | (simp [errW_none, errW_some] <;> rfl) | (simp [*, errW_none, errW_some] <;> rfl), Kd.R_V (by (with_reducible repeat (first | apply Kd.R_alloc | apply Kd.R_drewN | apply Kd.R_drew)); exact Kd.R_mono (Kd.R_far (p := ⟨gb101, 2, none⟩) (Kd.R_far (p := ⟨gb101, 1, none⟩) (Kd.R_far (p := ⟨gb101, 0, none⟩) (Kd.R_types HO113.out BK101.out (by decide)) (fun _ hk => hk.2) (.int .i64 1)) (fun _ hk => hk.2) (.int .i64 64)) (fun _ hk => hk.2) (.slice Ao33 y111.length co33)) (fun _ hk => hk.1.1)), hbA HB⟩
           ·
            rw [if_neg c28] at H
            have c28b0 : (a0.toList == ([67, 111, 110, 99, 97, 116] : List UInt8)) = false := beq_eq_false_iff_ne.mpr c28
            have c28b1 : (a0.toList != ([67, 111, 110, 99, 97, 116] : List UInt8)) = true := bne_iff_ne.mpr c28
            by_cases c35 : a0.toList = ([83, 113, 117, 101, 101, 122, 101] : List UInt8)
            ·
             rw [if_pos c35] at H
             have c35b0 : (a0.toList == ([83, 113, 117, 101, 101, 122, 101] : List UInt8)) = true := beq_iff_eq.mpr c35
             have c35b1 : (a0.toList != ([83, 113, 117, 101, 101, 122, 101] : List UInt8)) = false := bne_eq_false_iff_eq.mpr c35
             clear c35
             replace H := Option.bind_eq_some_iff.mp H
             obtain ⟨⟨t114, t115, t116⟩, A360, H⟩ := H
             replace H : (some (t114, t115, t116, true)) = some (r1, r2, r3, r4) := H
             have A36 := Aside0.mk A360
             clear A360
             simp only [Option.some.injEq, Prod.mk.injEq] at H
             obtain ⟨rfl, rfl, rfl, rfl⟩ := H
             go_wp2_with (first | ((with_reducible refine gate_callee (f := 66) rfl ?_); refine goesL_ (some 40) rfl rfl Try.func66 (by kernel_rfl) rfl #[.int .i64 a1, .bool false, .slice none 0 0] rfl (by (try simp only [List.map_toArray, List.map_cons, List.map_nil]); first | done | rfl | (simp only [List.length_drop, List.length_take]; rfl)) ?_; (refine (ops_axed.calls a1 false (fun k_ => False) _ _ ([] : List (S90)) t114 t115 t116 _ ?side1 A36.out).mono ?_); (case side1 => exact Kd.V_nil _ _ _ _ _); rintro e w37 ⟨v117, rfl, ho0, hb⟩; refine ⟨_, rfl, ?_⟩; have n0_ := Aside0.mk (Kd.V_lower (Kd.V_mono (ok' := fun k_ => (w.heap.size ≤ k_) ∧ k_ ≠ gb101) ho0 (fun k_ hk_ => ⟨Or.elim hk_ (fun hs_ => (hs_).elim) (fun hn_ => (Nat.le_trans (below_size (hbA HB)) hn_)), Or.elim hk_ (fun hs_ => (hs_).elim) (fun hn_ => (Kd.freshB (g := gb101) (bkA BK101) k_ hn_))⟩)) (below_size (hbA HB))); have n1_ := Aside0.mk (blk_below (g := gb101) (bkA BK101) hb); have n2_ := Aside0.mk (below_step (hbA HB) hb); clear BK101; clear HB; have HO118 := n0_; have BK101 := n1_; have HB := n2_; clear n0_ n1_ n2_; (try clear hb); (try clear hb2); (try clear hk); (try clear hi); (try clear ho0); have hcz38_0 : w37.cell? ⟨gb101, 0, none⟩ = some (.int .i64 0) := bcA BK101 0; have hcz38_1 : w37.cell? ⟨gb101, 1, none⟩ = some (.int .i64 0) := bcA BK101 1; have hcz38_2 : w37.cell? ⟨gb101, 2, none⟩ = some (.slice none 0 0) := bcA BK101 2; have hfz38_0 := blk_frozen BK101.out 0; have hfz38_1 := blk_frozen BK101.out 1; have hfz38_2 := blk_frozen BK101.out 2; obtain ⟨Ao39, co39, eo39⟩ := Kd.V_slice HO118.out; subst eo39))
             refine bodyPost_ret (results_ct rfl _ _ gb101 86 #[.int .i64 t114, .int .i64 t115, .slice Ao39 t116.length co39] (0, 0) _ rfl (by (with_reducible repeat (first | refine blk_drewN ?_ _ | refine blk_drew ?_ | refine blk_alloc ?_ _)); refine blk_put (cs := #[.int .i64 t114, .int .i64 t115, .slice none 0 0]) ?_ 2 _ rfl; (with_reducible repeat (first | refine blk_drewN ?_ _ | refine blk_drew ?_ | refine blk_alloc ?_ _)); refine blk_put (cs := #[.int .i64 t114, .int .i64 0, .slice none 0 0]) ?_ 1 _ rfl; (with_reducible repeat (first | refine blk_drewN ?_ _ | refine blk_drew ?_ | refine blk_alloc ?_ _)); refine blk_put (cs := #[.int .i64 0, .int .i64 0, .slice none 0 0]) ?_ 0 _ rfl; (with_reducible repeat (first | refine blk_drewN ?_ _ | refine blk_drew ?_ | refine blk_alloc ?_ _)); exact BK101.out) Try.underlying86 rfl (by kernel_rfl)) rfl ?_
             exact ⟨_, by first | rfl | (simp [errW_none, errW_some] <;> rfl) | (simp [*, errW_none, errW_some] <;> rfl), by (with_reducible repeat (first | apply Kd.V_alloc | apply Kd.V_drewN | apply Kd.V_drew)); exact Kd.V_mono (Kd.V_far (p := ⟨gb101, 2, none⟩) (Kd.V_far (p := ⟨gb101, 1, none⟩) (Kd.V_far (p := ⟨gb101, 0, none⟩) (Kd.V_mono HO118.out (fun k_ hk => (⟨hk, hk.2⟩ : _ ∧ k_ ≠ gb101))) (fun _ hk => hk.2) (.int .i64 t114)) (fun _ hk => hk.2) (.int .i64 t115)) (fun _ hk => hk.2) (.slice Ao39 t116.length co39)) (fun _ hk => hk.1.1), hbA HB⟩
            ·
             rw [if_neg c35] at H
             have c35b0 : (a0.toList == ([83, 113, 117, 101, 101, 122, 101] : List UInt8)) = false := beq_eq_false_iff_ne.mpr c35
             have c35b1 : (a0.toList != ([83, 113, 117, 101, 101, 122, 101] : List UInt8)) = true := bne_iff_ne.mpr c35
             by_cases c40 : a0.toList = ([85, 110, 115, 113, 117, 101, 101, 122, 101] : List UInt8)
             ·
              rw [if_pos c40] at H
              have c40b0 : (a0.toList == ([85, 110, 115, 113, 117, 101, 101, 122, 101] : List UInt8)) = true := beq_iff_eq.mpr c40
              have c40b1 : (a0.toList != ([85, 110, 115, 113, 117, 101, 101, 122, 101] : List UInt8)) = false := bne_eq_false_iff_eq.mpr c40
              clear c40
              replace H := Option.bind_eq_some_iff.mp H
              obtain ⟨⟨t119, t120, t121⟩, A410, H⟩ := H
              replace H : (some (t119, t120, t121, true)) = some (r1, r2, r3, r4) := H
              have A41 := Aside0.mk A410
              clear A410
              simp only [Option.some.injEq, Prod.mk.injEq] at H
              obtain ⟨rfl, rfl, rfl, rfl⟩ := H
              go_wp2_with (first | ((with_reducible refine gate_callee (f := 66) rfl ?_); refine goesL_ (some 44) rfl rfl Try.func66 (by kernel_rfl) rfl #[.int .i64 a1, .bool true, .slice none 0 0] rfl (by (try simp only [List.map_toArray, List.map_cons, List.map_nil]); first | done | rfl | (simp only [List.length_drop, List.length_take]; rfl)) ?_; (refine (ops_axed.calls a1 true (fun k_ => False) _ _ ([] : List (S90)) t119 t120 t121 _ ?side1 A41.out).mono ?_); (case side1 => exact Kd.V_nil _ _ _ _ _); rintro e w42 ⟨v122, rfl, ho0, hb⟩; refine ⟨_, rfl, ?_⟩; have n0_ := Aside0.mk (Kd.V_lower (Kd.V_mono (ok' := fun k_ => (w.heap.size ≤ k_) ∧ k_ ≠ gb101) ho0 (fun k_ hk_ => ⟨Or.elim hk_ (fun hs_ => (hs_).elim) (fun hn_ => (Nat.le_trans (below_size (hbA HB)) hn_)), Or.elim hk_ (fun hs_ => (hs_).elim) (fun hn_ => (Kd.freshB (g := gb101) (bkA BK101) k_ hn_))⟩)) (below_size (hbA HB))); have n1_ := Aside0.mk (blk_below (g := gb101) (bkA BK101) hb); have n2_ := Aside0.mk (below_step (hbA HB) hb); clear BK101; clear HB; have HO123 := n0_; have BK101 := n1_; have HB := n2_; clear n0_ n1_ n2_; (try clear hb); (try clear hb2); (try clear hk); (try clear hi); (try clear ho0); have hcz43_0 : w42.cell? ⟨gb101, 0, none⟩ = some (.int .i64 0) := bcA BK101 0; have hcz43_1 : w42.cell? ⟨gb101, 1, none⟩ = some (.int .i64 0) := bcA BK101 1; have hcz43_2 : w42.cell? ⟨gb101, 2, none⟩ = some (.slice none 0 0) := bcA BK101 2; have hfz43_0 := blk_frozen BK101.out 0; have hfz43_1 := blk_frozen BK101.out 1; have hfz43_2 := blk_frozen BK101.out 2; obtain ⟨Ao44, co44, eo44⟩ := Kd.V_slice HO123.out; subst eo44))
              refine bodyPost_ret (results_ct rfl _ _ gb101 86 #[.int .i64 t119, .int .i64 t120, .slice Ao44 t121.length co44] (0, 0) _ rfl (by (with_reducible repeat (first | refine blk_drewN ?_ _ | refine blk_drew ?_ | refine blk_alloc ?_ _)); refine blk_put (cs := #[.int .i64 t119, .int .i64 t120, .slice none 0 0]) ?_ 2 _ rfl; (with_reducible repeat (first | refine blk_drewN ?_ _ | refine blk_drew ?_ | refine blk_alloc ?_ _)); refine blk_put (cs := #[.int .i64 t119, .int .i64 0, .slice none 0 0]) ?_ 1 _ rfl; (with_reducible repeat (first | refine blk_drewN ?_ _ | refine blk_drew ?_ | refine blk_alloc ?_ _)); refine blk_put (cs := #[.int .i64 0, .int .i64 0, .slice none 0 0]) ?_ 0 _ rfl; (with_reducible repeat (first | refine blk_drewN ?_ _ | refine blk_drew ?_ | refine blk_alloc ?_ _)); exact BK101.out) Try.underlying86 rfl (by kernel_rfl)) rfl ?_
              exact ⟨_, by first | rfl | (simp [errW_none, errW_some] <;> rfl) | (simp [*, errW_none, errW_some] <;> rfl), by (with_reducible repeat (first | apply Kd.V_alloc | apply Kd.V_drewN | apply Kd.V_drew)); exact Kd.V_mono (Kd.V_far (p := ⟨gb101, 2, none⟩) (Kd.V_far (p := ⟨gb101, 1, none⟩) (Kd.V_far (p := ⟨gb101, 0, none⟩) (Kd.V_mono HO123.out (fun k_ hk => (⟨hk, hk.2⟩ : _ ∧ k_ ≠ gb101))) (fun _ hk => hk.2) (.int .i64 t119)) (fun _ hk => hk.2) (.int .i64 t120)) (fun _ hk => hk.2) (.slice Ao44 t121.length co44)) (fun _ hk => hk.1.1), hbA HB⟩
             ·
              rw [if_neg c40] at H
              have c40b0 : (a0.toList == ([85, 110, 115, 113, 117, 101, 101, 122, 101] : List UInt8)) = false := beq_eq_false_iff_ne.mpr c40
              have c40b1 : (a0.toList != ([85, 110, 115, 113, 117, 101, 101, 122, 101] : List UInt8)) = true := bne_iff_ne.mpr c40
              by_cases c45 : a0.toList = ([82, 101, 100, 117, 99, 101, 83, 117, 109] : List UInt8)
              ·
               rw [if_pos c45] at H
               have c45b0 : (a0.toList == ([82, 101, 100, 117, 99, 101, 83, 117, 109] : List UInt8)) = true := beq_iff_eq.mpr c45
               have c45b1 : (a0.toList != ([82, 101, 100, 117, 99, 101, 83, 117, 109] : List UInt8)) = false := bne_eq_false_iff_eq.mpr c45
               clear c45
               replace H := Option.bind_eq_some_iff.mp H
               obtain ⟨⟨t124, t125, t126⟩, A460, H⟩ := H
               replace H : ((ops_axed.f a1 false (([(⟨t124, t125, t126⟩ : S90)] : List (S90)))).bind fun bt130 => (some (bt130.1, bt130.2.1, bt130.2.2, true))) = some (r1, r2, r3, r4) := H
               have A46 := Aside0.mk A460
               clear A460
               obtain ⟨y127, hy127⟩ : ∃ y_ : List (S90), y_ = (([(⟨t124, t125, t126⟩ : S90)] : List (S90))) := ⟨_, rfl⟩
               replace H : ((ops_axed.f a1 false y127).bind fun bt130 => (some (bt130.1, bt130.2.1, bt130.2.2, true))) = some (r1, r2, r3, r4) := by first | (rw [hy127]; with_reducible exact H) | (have H2_ := (Option.bind_some _ _).symm.trans H; rw [hy127]; with_reducible exact H2_) | (have H2_ := (Option.bind_some _ _).symm.trans H; with_reducible exact H2_) | with_reducible exact H | (rw [hy127]; exact H) | exact H
               have Ny127 := Aside0.mk hy127
               clear hy127
               replace H := Option.bind_eq_some_iff.mp H
               obtain ⟨⟨t130, t131, t132⟩, A470, H⟩ := H
               replace H : (some (t130, t131, t132, true)) = some (r1, r2, r3, r4) := H
               have A47 := Aside0.mk A470
               clear A470
               simp only [Option.some.injEq, Prod.mk.injEq] at H
               obtain ⟨rfl, rfl, rfl, rfl⟩ := H
               go_wp2_with (first | ((with_reducible refine gate_callee (f := 65) rfl ?_); refine goesL_ (some 48) rfl rfl Try.func65 (by kernel_rfl) rfl #[.string (⟨#[107, 101, 101, 112, 100, 105, 109, 115]⟩ : ByteArray), .bool false] rfl (by (try simp only [List.map_toArray, List.map_cons, List.map_nil]); first | done | rfl | (simp only [List.length_drop, List.length_take]; rfl)) ?_; (with_reducible refine (ops_one.calls (⟨#[107, 101, 101, 112, 100, 105, 109, 115]⟩ : ByteArray) false t124 t125 t126 _ A46.out).mono ?_); rintro e w48 ⟨rfl, hb⟩; refine ⟨_, rfl, ?_⟩; have n0_ := Aside0.mk (blk_below (g := gb101) (bkA BK101) hb); have n1_ := Aside0.mk (below_step (hbA HB) hb); clear BK101; clear HB; have BK101 := n0_; have HB := n1_; clear n0_ n1_; (try clear hb); (try clear hb2); (try clear hk); (try clear hi)) | ((with_reducible refine gate_dst (N := 49) rfl ?_); refine Kd.R_lit k90 _ 90 ?hg (N := 49) ?hd (xs := ([(⟨t124, t125, t126⟩ : S90)] : List (S90))) (inner := [.string t124, .bool t125, .bool t126]) (ok := fun _ => True) (okp := fun _ => True) ?hr ?hp (fun _ hk => hk) trivial (Below.refl _ _) (Nat.le_refl _) (by simp) ?_; (case hd => rfl); (case hg => rfl); (case hr => first | (go_simp; done) | (go_simp; rfl)); (case hp => exact (Reps.c3 (show Kd.M k90 _ _ _ (⟨t124, t125, t126⟩ : S90) [.string t124, .bool t125, .bool t126] from (k90_mkM _ _ _ (⟨t124, t125, t126⟩ : S90) )) (Reps.none _ _))); intro v128 w49 ho50 hb hg_ hnew_; clear hg_ hnew_; (first | rw [← Ny127.out] at ho50 | (simp only [Int.reduceToNat] at ho50; rw [← Ny127.out] at ho50)); have n0_ := Aside0.mk (Kd.R_lower (Kd.R_newM (M := fun k_ => (w.heap.size ≤ k_)) ho50 (below_size (hbA HB)) (fun k_ h_ => h_)) (below_size (hbA HB))); have n1_ := Aside0.mk (blk_below (g := gb101) (bkA BK101) hb); have n2_ := Aside0.mk (below_step (hbA HB) hb); clear BK101; clear HB; have HO129 := n0_; have BK101 := n1_; have HB := n2_; clear n0_ n1_ n2_; clear hb ho50; obtain ⟨Ao51, co51, eo51⟩ := Kd.R_slice HO129.out; subst eo51) | ((with_reducible refine gate_callee (f := 66) rfl ?_); refine goesL_ (some 50) rfl rfl Try.func66 (by kernel_rfl) rfl #[.int .i64 a1, .bool false, .slice Ao51 y127.length co51] rfl (by (try simp only [List.map_toArray, List.map_cons, List.map_nil]); first | done | rfl | (simp only [List.length_drop, List.length_take]; rfl)) ?_; (with_reducible refine (ops_axed.calls a1 false (fun k_ => some k_ = (.slice Ao51 y127.length co51 : Value).ownBlock) _ _ y127 t130 t131 t132 _ ?side1 A47.out).mono ?_); (case side1 => exact Kd.R_V (Kd.R_tight rfl (Kd.R_types (HO129.out) BK101.out (by decide)))); rintro e w52 ⟨v133, rfl, ho0, hb⟩; refine ⟨_, rfl, ?_⟩; have n0_ := Aside0.mk (Kd.R_below (krA HO129) hb); have n1_ := Aside0.mk (Kd.V_lower (Kd.V_mono (ok' := fun k_ => (w.heap.size ≤ k_) ∧ k_ ≠ gb101) ho0 (fun k_ hk_ => ⟨Or.elim hk_ (fun hs_ => ((Kd.R_types (HO129.out) BK101.out (by decide)).1 k_ hs_.symm).1.1) (fun hn_ => (Nat.le_trans (below_size (hbA HB)) hn_)), Or.elim hk_ (fun hs_ => ((Kd.R_types (HO129.out) BK101.out (by decide)).1 k_ hs_.symm).2) (fun hn_ => (Kd.freshB (g := gb101) (bkA BK101) k_ hn_))⟩)) (below_size (hbA HB))); have n2_ := Aside0.mk (blk_below (g := gb101) (bkA BK101) hb); have n3_ := Aside0.mk (below_step (hbA HB) hb); clear HO129; clear BK101; clear HB; have HO129 := n0_; have HO134 := n1_; have BK101 := n2_; have HB := n3_; clear n0_ n1_ n2_ n3_; (try clear hb); (try clear hb2); (try clear hk); (try clear hi); (try clear ho0); have hcz53_0 : w52.cell? ⟨gb101, 0, none⟩ = some (.int .i64 0) := bcA BK101 0; have hcz53_1 : w52.cell? ⟨gb101, 1, none⟩ = some (.int .i64 0) := bcA BK101 1; have hcz53_2 : w52.cell? ⟨gb101, 2, none⟩ = some (.slice none 0 0) := bcA BK101 2; have hfz53_0 := blk_frozen BK101.out 0; have hfz53_1 := blk_frozen BK101.out 1; have hfz53_2 := blk_frozen BK101.out 2; obtain ⟨Ao54, co54, eo54⟩ := Kd.V_slice HO134.out; subst eo54))
               refine bodyPost_ret (results_ct rfl _ _ gb101 86 #[.int .i64 t130, .int .i64 t131, .slice Ao54 t132.length co54] (0, 0) _ rfl (by (with_reducible repeat (first | refine blk_drewN ?_ _ | refine blk_drew ?_ | refine blk_alloc ?_ _)); refine blk_put (cs := #[.int .i64 t130, .int .i64 t131, .slice none 0 0]) ?_ 2 _ rfl; (with_reducible repeat (first | refine blk_drewN ?_ _ | refine blk_drew ?_ | refine blk_alloc ?_ _)); refine blk_put (cs := #[.int .i64 t130, .int .i64 0, .slice none 0 0]) ?_ 1 _ rfl; (with_reducible repeat (first | refine blk_drewN ?_ _ | refine blk_drew ?_ | refine blk_alloc ?_ _)); refine blk_put (cs := #[.int .i64 0, .int .i64 0, .slice none 0 0]) ?_ 0 _ rfl; (with_reducible repeat (first | refine blk_drewN ?_ _ | refine blk_drew ?_ | refine blk_alloc ?_ _)); exact BK101.out) Try.underlying86 rfl (by kernel_rfl)) rfl ?_
               exact ⟨_, by first | rfl | (simp [errW_none, errW_some] <;> rfl) | (simp [*, errW_none, errW_some] <;> rfl), by (with_reducible repeat (first | apply Kd.V_alloc | apply Kd.V_drewN | apply Kd.V_drew)); exact Kd.V_mono (Kd.V_far (p := ⟨gb101, 2, none⟩) (Kd.V_far (p := ⟨gb101, 1, none⟩) (Kd.V_far (p := ⟨gb101, 0, none⟩) (Kd.V_mono HO134.out (fun k_ hk => (⟨hk, hk.2⟩ : _ ∧ k_ ≠ gb101))) (fun _ hk => hk.2) (.int .i64 t130)) (fun _ hk => hk.2) (.int .i64 t131)) (fun _ hk => hk.2) (.slice Ao54 t132.length co54)) (fun _ hk => hk.1.1), hbA HB⟩
              ·
               rw [if_neg c45] at H
               have c45b0 : (a0.toList == ([82, 101, 100, 117, 99, 101, 83, 117, 109] : List UInt8)) = false := beq_eq_false_iff_ne.mpr c45
               have c45b1 : (a0.toList != ([82, 101, 100, 117, 99, 101, 83, 117, 109] : List UInt8)) = true := bne_iff_ne.mpr c45
               by_cases c55 : a0.toList = ([83, 108, 105, 99, 101] : List UInt8)
               ·
                rw [if_pos c55] at H
                have c55b0 : (a0.toList == ([83, 108, 105, 99, 101] : List UInt8)) = true := beq_iff_eq.mpr c55
                have c55b1 : (a0.toList != ([83, 108, 105, 99, 101] : List UInt8)) = false := bne_eq_false_iff_eq.mpr c55
                clear c55
                by_cases c56 : a1 = 9
                ·
                 rw [if_pos c56] at H
                 have c56b0 : (a1 == 9) = true := beq_iff_eq.mpr c56
                 have c56b1 : (a1 != 9) = false := bne_eq_false_iff_eq.mpr c56
                 clear c56
                 replace H := Option.bind_eq_some_iff.mp H
                 obtain ⟨⟨t135, t136, t137⟩, A570, H⟩ := H
                 replace H : ((ops_row.f (⟨#[101, 110, 100, 115]⟩ : ByteArray) true).bind fun bt138 => ((ops_row.f (⟨#[97, 120, 101, 115]⟩ : ByteArray) false).bind fun bt141 => (some (1, 1, (([(⟨t135, t136, t137⟩ : S90), (⟨bt138.1, bt138.2.1, bt138.2.2⟩ : S90), (⟨bt141.1, bt141.2.1, bt141.2.2⟩ : S90)] : List (S90))), true)))) = some (r1, r2, r3, r4) := H
                 have A57 := Aside0.mk A570
                 clear A570
                 replace H := Option.bind_eq_some_iff.mp H
                 obtain ⟨⟨t138, t139, t140⟩, A580, H⟩ := H
                 replace H : ((ops_row.f (⟨#[97, 120, 101, 115]⟩ : ByteArray) false).bind fun bt141 => (some (1, 1, (([(⟨t135, t136, t137⟩ : S90), (⟨t138, t139, t140⟩ : S90), (⟨bt141.1, bt141.2.1, bt141.2.2⟩ : S90)] : List (S90))), true))) = some (r1, r2, r3, r4) := H
                 have A58 := Aside0.mk A580
                 clear A580
                 replace H := Option.bind_eq_some_iff.mp H
                 obtain ⟨⟨t141, t142, t143⟩, A590, H⟩ := H
                 replace H : (some (1, 1, (([(⟨t135, t136, t137⟩ : S90), (⟨t138, t139, t140⟩ : S90), (⟨t141, t142, t143⟩ : S90)] : List (S90))), true)) = some (r1, r2, r3, r4) := H
                 have A59 := Aside0.mk A590
                 clear A590
                 obtain ⟨y144, hy144⟩ : ∃ y_ : List (S90), y_ = (([(⟨t135, t136, t137⟩ : S90), (⟨t138, t139, t140⟩ : S90), (⟨t141, t142, t143⟩ : S90)] : List (S90))) := ⟨_, rfl⟩
                 replace H : (some (1, 1, y144, true)) = some (r1, r2, r3, r4) := by first | (rw [hy144]; with_reducible exact H) | (have H2_ := (Option.bind_some _ _).symm.trans H; rw [hy144]; with_reducible exact H2_) | (have H2_ := (Option.bind_some _ _).symm.trans H; with_reducible exact H2_) | with_reducible exact H | (rw [hy144]; exact H) | exact H
                 have Ny144 := Aside0.mk hy144
                 clear hy144
                 simp only [Option.some.injEq, Prod.mk.injEq] at H
                 obtain ⟨rfl, rfl, rfl, rfl⟩ := H
                 go_wp2_with (first | ((with_reducible refine gate_callee (f := 64) rfl ?_); refine goesL_ (some 55) rfl rfl Try.func64 (by kernel_rfl) rfl #[.string (⟨#[115, 116, 97, 114, 116, 115]⟩ : ByteArray), .bool true] rfl (by (try simp only [List.map_toArray, List.map_cons, List.map_nil]); first | done | rfl | (simp only [List.length_drop, List.length_take]; rfl)) ?_; (with_reducible refine (ops_row.calls (⟨#[115, 116, 97, 114, 116, 115]⟩ : ByteArray) true t135 t136 t137 _ A57.out).mono ?_); rintro e w60 ⟨rfl, hb⟩; refine ⟨_, rfl, ?_⟩; have n0_ := Aside0.mk (blk_below (g := gb101) (bkA BK101) hb); have n1_ := Aside0.mk (below_step (hbA HB) hb); clear BK101; clear HB; have BK101 := n0_; have HB := n1_; clear n0_ n1_; (try clear hb); (try clear hb2); (try clear hk); (try clear hi)) | ((with_reducible refine gate_callee (f := 64) rfl ?_); refine goesL_ (some 56) rfl rfl Try.func64 (by kernel_rfl) rfl #[.string (⟨#[101, 110, 100, 115]⟩ : ByteArray), .bool true] rfl (by (try simp only [List.map_toArray, List.map_cons, List.map_nil]); first | done | rfl | (simp only [List.length_drop, List.length_take]; rfl)) ?_; (with_reducible refine (ops_row.calls (⟨#[101, 110, 100, 115]⟩ : ByteArray) true t138 t139 t140 _ A58.out).mono ?_); rintro e w61 ⟨rfl, hb⟩; refine ⟨_, rfl, ?_⟩; have n0_ := Aside0.mk (blk_below (g := gb101) (bkA BK101) hb); have n1_ := Aside0.mk (below_step (hbA HB) hb); clear BK101; clear HB; have BK101 := n0_; have HB := n1_; clear n0_ n1_; (try clear hb); (try clear hb2); (try clear hk); (try clear hi)) | ((with_reducible refine gate_callee (f := 64) rfl ?_); refine goesL_ (some 57) rfl rfl Try.func64 (by kernel_rfl) rfl #[.string (⟨#[97, 120, 101, 115]⟩ : ByteArray), .bool false] rfl (by (try simp only [List.map_toArray, List.map_cons, List.map_nil]); first | done | rfl | (simp only [List.length_drop, List.length_take]; rfl)) ?_; (with_reducible refine (ops_row.calls (⟨#[97, 120, 101, 115]⟩ : ByteArray) false t141 t142 t143 _ A59.out).mono ?_); rintro e w62 ⟨rfl, hb⟩; refine ⟨_, rfl, ?_⟩; have n0_ := Aside0.mk (blk_below (g := gb101) (bkA BK101) hb); have n1_ := Aside0.mk (below_step (hbA HB) hb); clear BK101; clear HB; have BK101 := n0_; have HB := n1_; clear n0_ n1_; (try clear hb); (try clear hb2); (try clear hk); (try clear hi)) | ((with_reducible refine gate_dst (N := 58) rfl ?_); refine Kd.R_lit k90 _ 90 ?hg (N := 58) ?hd (xs := ([(⟨t135, t136, t137⟩ : S90), (⟨t138, t139, t140⟩ : S90), (⟨t141, t142, t143⟩ : S90)] : List (S90))) (inner := [.string t135, .bool t136, .bool t137, .string t138, .bool t139, .bool t140, .string t141, .bool t142, .bool t143]) (ok := fun _ => True) (okp := fun _ => True) ?hr ?hp (fun _ hk => hk) trivial (Below.refl _ _) (Nat.le_refl _) (by simp) ?_; (case hd => rfl); (case hg => rfl); (case hr => first | (go_simp; done) | (go_simp; rfl)); (case hp => exact (Reps.c3 (show Kd.M k90 _ _ _ (⟨t135, t136, t137⟩ : S90) [.string t135, .bool t136, .bool t137] from (k90_mkM _ _ _ (⟨t135, t136, t137⟩ : S90) )) (Reps.c3 (show Kd.M k90 _ _ _ (⟨t138, t139, t140⟩ : S90) [.string t138, .bool t139, .bool t140] from (k90_mkM _ _ _ (⟨t138, t139, t140⟩ : S90) )) (Reps.c3 (show Kd.M k90 _ _ _ (⟨t141, t142, t143⟩ : S90) [.string t141, .bool t142, .bool t143] from (k90_mkM _ _ _ (⟨t141, t142, t143⟩ : S90) )) (Reps.none _ _))))); intro v145 w63 ho64 hb hg_ hnew_; clear hg_ hnew_; (first | rw [← Ny144.out] at ho64 | (simp only [Int.reduceToNat] at ho64; rw [← Ny144.out] at ho64)); have n0_ := Aside0.mk (Kd.R_lower (Kd.R_newM (M := fun k_ => (w.heap.size ≤ k_)) ho64 (below_size (hbA HB)) (fun k_ h_ => h_)) (below_size (hbA HB))); have n1_ := Aside0.mk (blk_below (g := gb101) (bkA BK101) hb); have n2_ := Aside0.mk (below_step (hbA HB) hb); clear BK101; clear HB; have HO146 := n0_; have BK101 := n1_; have HB := n2_; clear n0_ n1_ n2_; clear hb ho64; obtain ⟨Ao65, co65, eo65⟩ := Kd.R_slice HO146.out; subst eo65; have hcz66_0 : w63.cell? ⟨gb101, 0, none⟩ = some (.int .i64 0) := bcA BK101 0; have hcz66_1 : w63.cell? ⟨gb101, 1, none⟩ = some (.int .i64 0) := bcA BK101 1; have hcz66_2 : w63.cell? ⟨gb101, 2, none⟩ = some (.slice none 0 0) := bcA BK101 2; have hfz66_0 := blk_frozen BK101.out 0; have hfz66_1 := blk_frozen BK101.out 1; have hfz66_2 := blk_frozen BK101.out 2))
                 refine bodyPost_ret (results_ct rfl _ _ gb101 86 #[.int .i64 1, .int .i64 1, .slice Ao65 y144.length co65] (0, 0) _ rfl (by (with_reducible repeat (first | refine blk_drewN ?_ _ | refine blk_drew ?_ | refine blk_alloc ?_ _)); refine blk_put (cs := #[.int .i64 1, .int .i64 1, .slice none 0 0]) ?_ 2 _ rfl; (with_reducible repeat (first | refine blk_drewN ?_ _ | refine blk_drew ?_ | refine blk_alloc ?_ _)); refine blk_put (cs := #[.int .i64 1, .int .i64 0, .slice none 0 0]) ?_ 1 _ rfl; (with_reducible repeat (first | refine blk_drewN ?_ _ | refine blk_drew ?_ | refine blk_alloc ?_ _)); refine blk_put (cs := #[.int .i64 0, .int .i64 0, .slice none 0 0]) ?_ 0 _ rfl; (with_reducible repeat (first | refine blk_drewN ?_ _ | refine blk_drew ?_ | refine blk_alloc ?_ _)); exact BK101.out) Try.underlying86 rfl (by kernel_rfl)) rfl ?_
                 exact ⟨_, by first | rfl | (simp [errW_none, errW_some] <;> rfl) | (simp [*, errW_none, errW_some] <;> rfl), Kd.R_V (by (with_reducible repeat (first | apply Kd.R_alloc | apply Kd.R_drewN | apply Kd.R_drew)); exact Kd.R_mono (Kd.R_far (p := ⟨gb101, 2, none⟩) (Kd.R_far (p := ⟨gb101, 1, none⟩) (Kd.R_far (p := ⟨gb101, 0, none⟩) (Kd.R_types HO146.out BK101.out (by decide)) (fun _ hk => hk.2) (.int .i64 1)) (fun _ hk => hk.2) (.int .i64 1)) (fun _ hk => hk.2) (.slice Ao65 y144.length co65)) (fun _ hk => hk.1.1)), hbA HB⟩
                ·
                 rw [if_neg c56] at H
                 have c56b0 : (a1 == 9) = false := beq_eq_false_iff_ne.mpr c56
                 have c56b1 : (a1 != 9) = true := bne_iff_ne.mpr c56
                 simp only [Option.some.injEq, Prod.mk.injEq] at H
                 obtain ⟨rfl, rfl, rfl, rfl⟩ := H
                 have hcz67_0 : wc.cell? ⟨gb101, 0, none⟩ = some (.int .i64 0) := bcA BK101 0; have hcz67_1 : wc.cell? ⟨gb101, 1, none⟩ = some (.int .i64 0) := bcA BK101 1; have hcz67_2 : wc.cell? ⟨gb101, 2, none⟩ = some (.slice none 0 0) := bcA BK101 2; have hfz67_0 := blk_frozen BK101.out 0; have hfz67_1 := blk_frozen BK101.out 1; have hfz67_2 := blk_frozen BK101.out 2
                 go_wp2
                 refine bodyPost_ret (results_ct rfl _ _ gb101 86 #[.int .i64 3, .int .i64 4, .slice none 0 0] (0, 0) _ rfl (by (with_reducible repeat (first | refine blk_drewN ?_ _ | refine blk_drew ?_ | refine blk_alloc ?_ _)); refine blk_put (cs := #[.int .i64 3, .int .i64 4, .slice none 0 0]) ?_ 2 _ rfl; (with_reducible repeat (first | refine blk_drewN ?_ _ | refine blk_drew ?_ | refine blk_alloc ?_ _)); refine blk_put (cs := #[.int .i64 3, .int .i64 0, .slice none 0 0]) ?_ 1 _ rfl; (with_reducible repeat (first | refine blk_drewN ?_ _ | refine blk_drew ?_ | refine blk_alloc ?_ _)); refine blk_put (cs := #[.int .i64 0, .int .i64 0, .slice none 0 0]) ?_ 0 _ rfl; (with_reducible repeat (first | refine blk_drewN ?_ _ | refine blk_drew ?_ | refine blk_alloc ?_ _)); exact BK101.out) Try.underlying86 rfl (by kernel_rfl)) rfl ?_
                 exact ⟨_, by first | rfl | (simp [errW_none, errW_some] <;> rfl) | (simp [*, errW_none, errW_some] <;> rfl), Kd.V_nil _ _ _ _ _, hbA HB⟩
               ·
                rw [if_neg c55] at H
                have c55b0 : (a0.toList == ([83, 108, 105, 99, 101] : List UInt8)) = false := beq_eq_false_iff_ne.mpr c55
                have c55b1 : (a0.toList != ([83, 108, 105, 99, 101] : List UInt8)) = true := bne_iff_ne.mpr c55
                simp only [Option.some.injEq, Prod.mk.injEq] at H
                obtain ⟨rfl, rfl, rfl, rfl⟩ := H
                have hcz68_0 : wc.cell? ⟨gb101, 0, none⟩ = some (.int .i64 0) := bcA BK101 0; have hcz68_1 : wc.cell? ⟨gb101, 1, none⟩ = some (.int .i64 0) := bcA BK101 1; have hcz68_2 : wc.cell? ⟨gb101, 2, none⟩ = some (.slice none 0 0) := bcA BK101 2; have hfz68_0 := blk_frozen BK101.out 0; have hfz68_1 := blk_frozen BK101.out 1; have hfz68_2 := blk_frozen BK101.out 2
                go_wp2
                refine bodyPost_ret (results_ct rfl _ _ gb101 86 #[.int .i64 0, .int .i64 0, .slice none 0 0] (0, 0) _ rfl (by (with_reducible repeat (first | refine blk_drewN ?_ _ | refine blk_drew ?_ | refine blk_alloc ?_ _)); refine blk_put (cs := #[.int .i64 0, .int .i64 0, .slice none 0 0]) ?_ 2 _ rfl; (with_reducible repeat (first | refine blk_drewN ?_ _ | refine blk_drew ?_ | refine blk_alloc ?_ _)); refine blk_put (cs := #[.int .i64 0, .int .i64 0, .slice none 0 0]) ?_ 1 _ rfl; (with_reducible repeat (first | refine blk_drewN ?_ _ | refine blk_drew ?_ | refine blk_alloc ?_ _)); refine blk_put (cs := #[.int .i64 0, .int .i64 0, .slice none 0 0]) ?_ 0 _ rfl; (with_reducible repeat (first | refine blk_drewN ?_ _ | refine blk_drew ?_ | refine blk_alloc ?_ _)); exact BK101.out) Try.underlying86 rfl (by kernel_rfl)) rfl ?_
                exact ⟨_, by first | rfl | (simp [errW_none, errW_some] <;> rfl) | (simp [*, errW_none, errW_some] <;> rfl), Kd.V_nil _ _ _ _ _, hbA HB⟩
end Go.Proofs.Ytdemgfbolcmcdaa.X
