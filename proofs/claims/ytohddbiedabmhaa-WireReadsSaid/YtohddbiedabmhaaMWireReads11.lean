import Derived.Test.YtohddbiedabmhaaMWireReads0
import Derived.Test.YtohddbiedabmhaaMWireReads10
import Derived.Test.YtohddbiedabmhaaMWireReads2
-- by xprint.py, a program of this session, over the kit's print.py
namespace Go.Proofs.Ytohddbiedabmhaa.X
open Go.RowKit Go.Proofs.YtohddbiedabmhaaW.PrintWords Go.Proofs.YtohddbiedabmhaaW.PrintLast Go.Proofs.YtohddbiedabmhaaW.PrintMore
attribute [local go_sem] max2_int min2_int max_two min_two max_three min_three max_four min_four   -- for this text's walks alone
set_option linter.unusedVariables false
set_option linter.unusedSimpArgs false

def wire_All_s.f (l0 : List (S47)) (a1 : Int) : Option (List (S47)) := if l0.length ≤ 3518437208883 then some (l0.filter fun x => x.f0 == a1) else none
theorem wire_All_eval (l0 : List (S47)) (a1 : Int) (hb : l0.length ≤ 3518437208883) (d : Nat) : ∀ (k i : Nat) (acc : List (S47)), l0.length - i = d → i ≤ l0.length → acc.length ≤ i → d < k →
    wire_All.l0 k (a1) acc l0 l0.length i = some (acc ++ (l0.drop i).filter fun x => x.f0 == a1) := by
  induction d with
  | zero =>
    intro k i acc hd hi ha hk
    obtain ⟨k, rfl⟩ : ∃ m, k = m + 1 := ⟨k - 1, by omega⟩
    simp only [wire_All.l0]
    rw [if_neg (by omega), List.drop_of_length_le (by omega)]
    simp
  | succ d ih =>
    intro k i acc hd hi ha hk
    obtain ⟨k, rfl⟩ : ∃ m, k = m + 1 := ⟨k - 1, by omega⟩
    have h0 : i < l0.length := by omega
    have e0 : rd_T47 l0 (i : Int) = l0[i] := by simp [rd_T47, List.getD_eq_getElem?_getD, h0]
    simp only [wire_All.l0, e0]
    rw [if_pos (by omega), if_pos (by omega), List.drop_eq_getElem_cons h0, wrap64_id (by omega) (by omega)]
    try rw [if_pos (show (i : Int) < (l0.length : Int) by omega)]
    by_cases h : l0[i].f0 = a1
    · rw [if_pos h, if_pos (by omega)]
      have := ih k (i + 1) (acc ++ [l0[i]]) (by omega) (by omega) (by simp; omega) (by omega)
      refine this.trans ?_
      rw [List.filter_cons_of_pos (by simp [h]), List.append_assoc]; rfl
    · rw [if_neg h]
      have := ih k (i + 1) acc (by omega) (by omega) (by omega) (by omega)
      refine this.trans ?_
      rw [List.filter_cons_of_neg (by simp [h])]
theorem wire_All_s.ev (l0 : List (S47)) (a1 : Int) (r) (h : wire_All_s.f l0 a1 = some r) : ∃ k, wire_All.f k l0 a1 = some r := by
  unfold wire_All_s.f at h
  split at h
  · rename_i hb
    rw [← h]
    refine ⟨l0.length + 1, ?_⟩
    unfold wire_All.f
    simpa using wire_All_eval l0 a1 hb l0.length (l0.length + 1) 0 [] (by omega) (by omega) (by simp) (by omega)
  · cases h

set_option maxHeartbeats 1000000 in
theorem wire_All_s.calls (A0 : Option Addr) (c0 : Nat) (l0 : List (S47)) (a1 : Int) (r : List (S47)) (w : World) (hr0 : Kd.C k47 w A0 l0.length l0) (hc0 : l0.length ≤ c0) (h : wire_All_s.f l0 a1 = some r) :
    Calls Try.prog 24 #[.slice A0 l0.length c0, .int .i64 a1] w fun e w' => ∃ v0_ : Value, e = .returned (v0_) ∧ Kd.R k47 47 w' w.heap.size (fun _ => True) v0_ r ∧ Below w.heap.size w w' := by
  obtain ⟨k, hk⟩ := wire_All_s.ev l0 a1 _ h
  exact wire_All.calls k A0 c0 l0 a1 r w hr0 hc0 hk

end Go.Proofs.Ytohddbiedabmhaa.X
-- by xprint.py, a program of this session, over the kit's print.py
namespace Go.Proofs.Ytohddbiedabmhaa.X
open Go.RowKit Go.Proofs.YtohddbiedabmhaaW.PrintWords Go.Proofs.YtohddbiedabmhaaW.PrintLast Go.Proofs.YtohddbiedabmhaaW.PrintMore
attribute [local go_sem] max2_int min2_int max_two min_two max_three min_three max_four min_four   -- for this text's walks alone
set_option linter.unusedVariables false
set_option linter.unusedSimpArgs false

/-! ### wire_Last: function 26 -/
def wire_Last.f (l0 : List (S47)) (a1 : Int) : Option (Int × Int × Int × ByteArray × Bool) := (wire_All_s.f l0 a1).bind fun t102 => (if (t102.length : Int) = 0 then (some (0, 0, 0, (⟨#[]⟩ : ByteArray), false)) else (if 0 ≤ (wrap64 ((t102.length : Int) - 1)) then (if (wrap64 ((t102.length : Int) - 1)) < (t102.length : Int) then (some ((rd_T47 t102 (wrap64 ((t102.length : Int) - 1))).f0, (rd_T47 t102 (wrap64 ((t102.length : Int) - 1))).f1, (rd_T47 t102 (wrap64 ((t102.length : Int) - 1))).f2, (rd_T47 t102 (wrap64 ((t102.length : Int) - 1))).f3, true)) else (none)) else (none)))
set_option maxHeartbeats 8000000 in
set_option maxRecDepth 100000 in
theorem wire_Last.calls (A0 : Option Addr) (c0 : Nat) (l0 : List (S47)) (a1 : Int) (r1 : Int) (r2 : Int) (r3 : Int) (r4 : ByteArray) (r5 : Bool) (w : World) (hr0 : Kd.C k47 w A0 l0.length l0) (hc0 : l0.length ≤ c0) (h : wire_Last.f l0 a1 = some (r1, r2, r3, r4, r5)) :
    Calls Try.prog 26 #[.slice A0 l0.length c0, .int .i64 a1] w fun e w' => e = .returned (.tuple #[.agg #[.int .i64 r1, .int .i64 r2, .int .u64 r3, .string r4], .bool r5]) ∧ Below w.heap.size w w' := by
  have hu47 := Try.underlying47
  have HR0 := Aside0.mk hr0
  have HC0 := Aside0.mk hc0
  clear hr0 hc0
  have HB := Aside0.mk (Below.refl w.heap.size w)
  have H : ((wire_All_s.f l0 a1).bind fun t102 => (if (t102.length : Int) = 0 then (some (0, 0, 0, (⟨#[]⟩ : ByteArray), false)) else (if 0 ≤ (wrap64 ((t102.length : Int) - 1)) then (if (wrap64 ((t102.length : Int) - 1)) < (t102.length : Int) then (some ((rd_T47 t102 (wrap64 ((t102.length : Int) - 1))).f0, (rd_T47 t102 (wrap64 ((t102.length : Int) - 1))).f1, (rd_T47 t102 (wrap64 ((t102.length : Int) - 1))).f2, (rd_T47 t102 (wrap64 ((t102.length : Int) - 1))).f3, true)) else (none)) else (none)))) = some (r1, r2, r3, r4, r5) := h
  clear h
  replace H := Option.bind_eq_some_iff.mp H
  obtain ⟨t102, A30, H⟩ := H
  replace H : (if (t102.length : Int) = 0 then (some (0, 0, 0, (⟨#[]⟩ : ByteArray), false)) else (if 0 ≤ (wrap64 ((t102.length : Int) - 1)) then (if (wrap64 ((t102.length : Int) - 1)) < (t102.length : Int) then (some ((rd_T47 t102 (wrap64 ((t102.length : Int) - 1))).f0, (rd_T47 t102 (wrap64 ((t102.length : Int) - 1))).f1, (rd_T47 t102 (wrap64 ((t102.length : Int) - 1))).f2, (rd_T47 t102 (wrap64 ((t102.length : Int) - 1))).f3, true)) else (none)) else (none))) = some (r1, r2, r3, r4, r5) := H
  have A3 := Aside0.mk A30
  clear A30
  by_cases c4 : (t102.length : Int) = 0
  · rw [if_pos c4] at H
    have c4b0 : ((t102.length : Int) == 0) = true := beq_iff_eq.mpr c4
    have c4b1 : ((t102.length : Int) != 0) = false := bne_eq_false_iff_eq.mpr c4
    clear c4
    simp only [Option.some.injEq, Prod.mk.injEq] at H
    obtain ⟨rfl, rfl, rfl, rfl, rfl⟩ := H
    go_enter Try.func26, Try.ntmps26
    go_wp2_with (first | ((with_reducible refine gate_dst (N := 4) rfl ?_); refine box_event ?hg (N := 4) ?hd (cs := #[.int .i64 0, .int .i64 0, .int .u64 0, .string (⟨#[]⟩ : ByteArray)]) (t := 47) ?hr ?_; (case hd => rfl); (case hg => rfl); (case hr => first | (go_simp; done) | (go_simp; rfl)); intro gb101 hg w5 hbox hb; have n0_ := Aside0.mk (below_step (by repeat (first | (with_reducible first | exact HB.out | apply below_alloc | apply pw_below_drewN | apply below_drew1) | exact HB.out)) hb); have n1_ := Aside0.mk (hbox); have n2_ := Aside0.mk ((by rw [hg]; exact (below_size (by repeat (first | (with_reducible first | exact HB.out | apply below_alloc | apply pw_below_drewN | apply below_drew1) | exact HB.out))) : w.heap.size ≤ gb101)); have n3_ := Aside0.mk ((by rw [hg]; exact (below_size (by repeat (first | (with_reducible first | exact HB.out | apply below_alloc | apply pw_below_drewN | apply below_drew1) | exact HB.out))) : w.heap.size ≤ gb101)); clear HB; have HB := n0_; have BK101 := n1_; have GW101 := n2_; have GE101 := n3_; clear n0_ n1_ n2_ n3_; clear hb hbox hg) | ((with_reducible refine gate_callee (f := 24) rfl ?_); refine goesL_ (some 9) rfl rfl Try.func24 (by kernel_rfl) rfl #[.slice A0 l0.length c0, .int .i64 a1] rfl (by (try simp only [List.map_toArray, List.map_cons, List.map_nil]); first | done | rfl | (simp only [List.length_drop, List.length_take]; rfl)) ?_; (with_reducible refine (wire_All_s.calls _ _ l0 a1 t102 _ ?side1 ?side2 A3.out).mono ?_); (case side1 => repeat (first | exact (Kd.C_below HR0.out HB.out) | (with_reducible refine Kd.C_alloc ?_ _) | (with_reducible refine Kd.C_drewN ?_ _) | (with_reducible refine Kd.C_drew ?_))); (case side2 => exact HC0.out); rintro e w6 ⟨v103, rfl, ho0, hb⟩; refine ⟨_, rfl, ?_⟩; have n0_ := Aside0.mk (Kd.R_lower (Kd.R_newB ho0 (g := gb101) (o := .cells #[.int .i64 0, .int .i64 0, .int .u64 0, .string (⟨#[]⟩ : ByteArray)] 47 (0, 0)) (by (with_reducible repeat (first | refine blk_drewN ?_ _ | refine blk_drew ?_ | refine blk_alloc ?_ _)); exact BK101.out)) (below_size (by repeat (first | (with_reducible first | exact HB.out | apply below_alloc | apply pw_below_drewN | apply below_drew1 | refine below_set ?_ GE101.out) | exact HB.out)))); have n1_ := Aside0.mk (blk_below (g := gb101) (o := .cells #[.int .i64 0, .int .i64 0, .int .u64 0, .string (⟨#[]⟩ : ByteArray)] 47 (0, 0)) (by (with_reducible repeat (first | refine blk_drewN ?_ _ | refine blk_drew ?_ | refine blk_alloc ?_ _)); exact BK101.out) hb); have n2_ := Aside0.mk (below_step (by repeat (first | (with_reducible first | exact HB.out | apply below_alloc | apply pw_below_drewN | apply below_drew1 | refine below_set ?_ GE101.out) | exact HB.out)) hb); clear BK101; clear HB; have HO104 := n0_; have BK101 := n1_; have HB := n2_; clear n0_ n1_ n2_; (try clear hb); (try clear hb2); (try clear hk); (try clear hi); (try clear ho0); obtain ⟨Ao7, co7, eo7⟩ := Kd.R_slice HO104.out; subst eo7; have hcz8_0 : w6.cell? ⟨gb101, 0, none⟩ = some (.int .i64 0) := (blk_cell BK101.out 0).trans rfl; have hcz8_1 : w6.cell? ⟨gb101, 1, none⟩ = some (.int .i64 0) := (blk_cell BK101.out 1).trans rfl; have hcz8_2 : w6.cell? ⟨gb101, 2, none⟩ = some (.int .u64 0) := (blk_cell BK101.out 2).trans rfl; have hcz8_3 : w6.cell? ⟨gb101, 3, none⟩ = some (.string (⟨#[]⟩ : ByteArray)) := (blk_cell BK101.out 3).trans rfl; have hfz8_0 := blk_frozen BK101.out 0; have hfz8_1 := blk_frozen BK101.out 1; have hfz8_2 := blk_frozen BK101.out 2; have hfz8_3 := blk_frozen BK101.out 3))
    refine bodyPost_ret (results_ct rfl _ _ gb101 47 #[.int .i64 0, .int .i64 0, .int .u64 0, .string (⟨#[]⟩ : ByteArray)] (0, 0) _ rfl (by (with_reducible repeat (first | refine blk_drewN ?_ _ | refine blk_drew ?_ | refine blk_alloc ?_ _)); refine blk_put (cs := #[.int .i64 0, .int .i64 0, .int .u64 0, .string (⟨#[]⟩ : ByteArray)]) ?_ 3 _ rfl; (with_reducible repeat (first | refine blk_drewN ?_ _ | refine blk_drew ?_ | refine blk_alloc ?_ _)); refine blk_put (cs := #[.int .i64 0, .int .i64 0, .int .u64 0, .string (⟨#[]⟩ : ByteArray)]) ?_ 2 _ rfl; (with_reducible repeat (first | refine blk_drewN ?_ _ | refine blk_drew ?_ | refine blk_alloc ?_ _)); refine blk_put (cs := #[.int .i64 0, .int .i64 0, .int .u64 0, .string (⟨#[]⟩ : ByteArray)]) ?_ 1 _ rfl; (with_reducible repeat (first | refine blk_drewN ?_ _ | refine blk_drew ?_ | refine blk_alloc ?_ _)); refine blk_put (cs := #[.int .i64 0, .int .i64 0, .int .u64 0, .string (⟨#[]⟩ : ByteArray)]) ?_ 0 _ rfl; (with_reducible repeat (first | refine blk_drewN ?_ _ | refine blk_drew ?_ | refine blk_alloc ?_ _)); exact BK101.out) Try.underlying47 rfl (by kernel_rfl)) rfl ?_
    exact ⟨by first | rfl | (simp [errW_none, errW_some] <;> rfl) | (simp [*, errW_none, errW_some] <;> rfl), by repeat (first | (with_reducible first | exact HB.out | apply below_alloc | apply pw_below_drewN | apply below_drew1 | refine below_set ?_ GE101.out) | exact HB.out)⟩
  · rw [if_neg c4] at H
    have c4b0 : ((t102.length : Int) == 0) = false := beq_eq_false_iff_ne.mpr c4
    have c4b1 : ((t102.length : Int) != 0) = true := bne_iff_ne.mpr c4
    have c4b2 : ¬ (t102 = []) := fun h_ => c4 (by rw [h_]; rfl)
    obtain ⟨ji9, hji9⟩ : ∃ j_ : Int, (wrap64 ((t102.length : Int) - 1)) = j_ := ⟨_, rfl⟩
    replace H : (if 0 ≤ (ji9) then (if (ji9) < (t102.length : Int) then (some ((rd_T47 t102 (ji9)).f0, (rd_T47 t102 (ji9)).f1, (rd_T47 t102 (ji9)).f2, (rd_T47 t102 (ji9)).f3, true)) else (none)) else (none)) = some (r1, r2, r3, r4, r5) := by first | (rw [hji9] at H; exact H) | (simp only [hji9] at H ⊢; exact H)
    (try rw [hji9] at A3)
    have hji9w : (IntKind.i64.wrap ((t102.length : Int) - 1)) = ji9 := (i64_w _).trans hji9
    by_cases c10 : 0 ≤ (ji9)
    · rw [if_pos c10] at H
      have c10b0 : decide (0 ≤ (ji9)) = true := decide_eq_true c10
      clear c10
      by_cases c11 : (ji9) < (t102.length : Int)
      · rw [if_pos c11] at H
        have c11b0 : decide ((ji9) < (t102.length : Int)) = true := decide_eq_true c11
        clear c11
        simp only [Option.some.injEq, Prod.mk.injEq] at H
        obtain ⟨rfl, rfl, rfl, rfl, rfl⟩ := H
        go_enter Try.func26, Try.ntmps26
        go_wp2_with (first | ((with_reducible refine gate_dst (N := 4) rfl ?_); refine box_event ?hg (N := 4) ?hd (cs := #[.int .i64 0, .int .i64 0, .int .u64 0, .string (⟨#[]⟩ : ByteArray)]) (t := 47) ?hr ?_; (case hd => rfl); (case hg => rfl); (case hr => first | (go_simp; done) | (go_simp; rfl)); intro gb101 hg w12 hbox hb; have n0_ := Aside0.mk (below_step (by repeat (first | (with_reducible first | exact HB.out | apply below_alloc | apply pw_below_drewN | apply below_drew1) | exact HB.out)) hb); have n1_ := Aside0.mk (hbox); have n2_ := Aside0.mk ((by rw [hg]; exact (below_size (by repeat (first | (with_reducible first | exact HB.out | apply below_alloc | apply pw_below_drewN | apply below_drew1) | exact HB.out))) : w.heap.size ≤ gb101)); have n3_ := Aside0.mk ((by rw [hg]; exact (below_size (by repeat (first | (with_reducible first | exact HB.out | apply below_alloc | apply pw_below_drewN | apply below_drew1) | exact HB.out))) : w.heap.size ≤ gb101)); clear HB; have HB := n0_; have BK101 := n1_; have GW101 := n2_; have GE101 := n3_; clear n0_ n1_ n2_ n3_; clear hb hbox hg) | ((with_reducible refine gate_callee (f := 24) rfl ?_); refine goesL_ (some 9) rfl rfl Try.func24 (by kernel_rfl) rfl #[.slice A0 l0.length c0, .int .i64 a1] rfl (by (try simp only [List.map_toArray, List.map_cons, List.map_nil]); first | done | rfl | (simp only [List.length_drop, List.length_take]; rfl)) ?_; (with_reducible refine (wire_All_s.calls _ _ l0 a1 t102 _ ?side1 ?side2 A3.out).mono ?_); (case side1 => repeat (first | exact (Kd.C_below HR0.out HB.out) | (with_reducible refine Kd.C_alloc ?_ _) | (with_reducible refine Kd.C_drewN ?_ _) | (with_reducible refine Kd.C_drew ?_))); (case side2 => exact HC0.out); rintro e w13 ⟨v103, rfl, ho0, hb⟩; refine ⟨_, rfl, ?_⟩; have n0_ := Aside0.mk (Kd.R_lower (Kd.R_newB ho0 (g := gb101) (o := .cells #[.int .i64 0, .int .i64 0, .int .u64 0, .string (⟨#[]⟩ : ByteArray)] 47 (0, 0)) (by (with_reducible repeat (first | refine blk_drewN ?_ _ | refine blk_drew ?_ | refine blk_alloc ?_ _)); exact BK101.out)) (below_size (by repeat (first | (with_reducible first | exact HB.out | apply below_alloc | apply pw_below_drewN | apply below_drew1 | refine below_set ?_ GE101.out) | exact HB.out)))); have n1_ := Aside0.mk (blk_below (g := gb101) (o := .cells #[.int .i64 0, .int .i64 0, .int .u64 0, .string (⟨#[]⟩ : ByteArray)] 47 (0, 0)) (by (with_reducible repeat (first | refine blk_drewN ?_ _ | refine blk_drew ?_ | refine blk_alloc ?_ _)); exact BK101.out) hb); have n2_ := Aside0.mk (below_step (by repeat (first | (with_reducible first | exact HB.out | apply below_alloc | apply pw_below_drewN | apply below_drew1 | refine below_set ?_ GE101.out) | exact HB.out)) hb); clear BK101; clear HB; have HO104 := n0_; have BK101 := n1_; have HB := n2_; clear n0_ n1_ n2_; (try clear hb); (try clear hb2); (try clear hk); (try clear hi); (try clear ho0); obtain ⟨Ao14, co14, eo14⟩ := Kd.R_slice HO104.out; subst eo14; have p105 : 0 ≤ ((ji9) : Int) := of_decide_eq_true (by first | (with_reducible assumption) | assumption); have q105 : (ji9) < (t102.length : Int) := of_decide_eq_true (by first | (with_reducible assumption) | assumption); obtain ⟨ad105, e105, hx105_0, hx105_1, hx105_2, hx105_3⟩ := at_T47 (Kd.R_reads' HO104.out).2.2 (ji9) p105 q105; cases e105; replace p105 := eq_true p105; replace q105 := eq_true q105; have hcz15_0 : w13.cell? ⟨gb101, 0, none⟩ = some (.int .i64 0) := (blk_cell BK101.out 0).trans rfl; have hcz15_1 : w13.cell? ⟨gb101, 1, none⟩ = some (.int .i64 0) := (blk_cell BK101.out 1).trans rfl; have hcz15_2 : w13.cell? ⟨gb101, 2, none⟩ = some (.int .u64 0) := (blk_cell BK101.out 2).trans rfl; have hcz15_3 : w13.cell? ⟨gb101, 3, none⟩ = some (.string (⟨#[]⟩ : ByteArray)) := (blk_cell BK101.out 3).trans rfl; have hfz15_0 := blk_frozen BK101.out 0; have hfz15_1 := blk_frozen BK101.out 1; have hfz15_2 := blk_frozen BK101.out 2; have hfz15_3 := blk_frozen BK101.out 3))
        refine bodyPost_ret (results_ct rfl _ _ gb101 47 #[.int .i64 ((rd_T47 t102 (ji9)).f0), .int .i64 ((rd_T47 t102 (ji9)).f1), .int .u64 ((rd_T47 t102 (ji9)).f2), .string ((rd_T47 t102 (ji9)).f3)] (0, 0) _ rfl (by (with_reducible repeat (first | refine blk_drewN ?_ _ | refine blk_drew ?_ | refine blk_alloc ?_ _)); refine blk_put (cs := #[.int .i64 ((rd_T47 t102 (ji9)).f0), .int .i64 ((rd_T47 t102 (ji9)).f1), .int .u64 ((rd_T47 t102 (ji9)).f2), .string (⟨#[]⟩ : ByteArray)]) ?_ 3 _ rfl; (with_reducible repeat (first | refine blk_drewN ?_ _ | refine blk_drew ?_ | refine blk_alloc ?_ _)); refine blk_put (cs := #[.int .i64 ((rd_T47 t102 (ji9)).f0), .int .i64 ((rd_T47 t102 (ji9)).f1), .int .u64 0, .string (⟨#[]⟩ : ByteArray)]) ?_ 2 _ rfl; (with_reducible repeat (first | refine blk_drewN ?_ _ | refine blk_drew ?_ | refine blk_alloc ?_ _)); refine blk_put (cs := #[.int .i64 ((rd_T47 t102 (ji9)).f0), .int .i64 0, .int .u64 0, .string (⟨#[]⟩ : ByteArray)]) ?_ 1 _ rfl; (with_reducible repeat (first | refine blk_drewN ?_ _ | refine blk_drew ?_ | refine blk_alloc ?_ _)); refine blk_put (cs := #[.int .i64 0, .int .i64 0, .int .u64 0, .string (⟨#[]⟩ : ByteArray)]) ?_ 0 _ rfl; (with_reducible repeat (first | refine blk_drewN ?_ _ | refine blk_drew ?_ | refine blk_alloc ?_ _)); exact BK101.out) Try.underlying47 rfl (by kernel_rfl)) rfl ?_
        exact ⟨by first | rfl | (simp [errW_none, errW_some] <;> rfl) | (simp only [← hji9]; first | rfl | (simp [errW_none, errW_some] <;> rfl)) | (simp [*, errW_none, errW_some] <;> rfl), by repeat (first | (with_reducible first | exact HB.out | apply below_alloc | apply pw_below_drewN | apply below_drew1 | refine below_set ?_ GE101.out) | exact HB.out)⟩
      · rw [if_neg c11] at H
        exact absurd H (by simp)
    · rw [if_neg c10] at H
      exact absurd H (by simp)

end Go.Proofs.Ytohddbiedabmhaa.X
-- by xprint.py, a program of this session, over the kit's print.py
namespace Go.Proofs.Ytohddbiedabmhaa.X
open Go.RowKit Go.Proofs.YtohddbiedabmhaaW.PrintWords Go.Proofs.YtohddbiedabmhaaW.PrintLast Go.Proofs.YtohddbiedabmhaaW.PrintMore
attribute [local go_sem] max2_int min2_int max_two min_two max_three min_three max_four min_four   -- for this text's walks alone
set_option linter.unusedVariables false
set_option linter.unusedSimpArgs false

theorem rdP (l : List (S47)) (i : Nat) (h : i < l.length) : rd_T47 l (i : Int) = l[i] := by
  simp [rd_T47, List.getD_eq_getElem?_getD, h]
theorem rdR (l : List (S50)) (i : Nat) (h : i < l.length) : rd_T50 l (i : Int) = l[i] := by
  simp [rd_T50, List.getD_eq_getElem?_getD, h]

end Go.Proofs.Ytohddbiedabmhaa.X
-- by xprint.py, a program of this session, over the kit's print.py
namespace Go.Proofs.Ytohddbiedabmhaa.X
open Go.RowKit Go.Proofs.YtohddbiedabmhaaW.PrintWords Go.Proofs.YtohddbiedabmhaaW.PrintLast Go.Proofs.YtohddbiedabmhaaW.PrintMore
attribute [local go_sem] max2_int min2_int max_two min_two max_three min_three max_four min_four   -- for this text's walks alone
set_option linter.unusedVariables false
set_option linter.unusedSimpArgs false

def lastTup (x : Option (S47)) : Int × Int × Int × ByteArray × Bool := match x with
  | none => (0, 0, 0, ⟨#[]⟩, false)
  | some x => (x.f0, x.f1, x.f2, x.f3, true)
def wire_Last_s.f (l0 : List (S47)) (a1 : Int) : Option (Int × Int × Int × ByteArray × Bool) := if l0.length ≤ 3518437208883 then some (lastTup (l0.filter fun x => x.f0 == a1).getLast?) else none
theorem wire_Last_s.ev (l0 : List (S47)) (a1 : Int) (r) (h : wire_Last_s.f l0 a1 = some r) : ∃ k : Nat, wire_Last.f l0 a1 = some r := by
  unfold wire_Last_s.f at h
  split at h
  · rename_i hb
    rw [← h]
    refine ⟨0, ?_⟩
    have e : wire_All_s.f l0 a1 = some (l0.filter fun x => x.f0 == a1) := if_pos hb
    have hle : (l0.filter fun x => x.f0 == a1).length ≤ l0.length := List.length_filter_le _ _
    unfold wire_Last.f
    rw [e, Option.bind_some]
    generalize (l0.filter fun x => x.f0 == a1) = m at *
    by_cases hm : m.length = 0
    · rw [if_pos (by omega), List.eq_nil_of_length_eq_zero hm]; rfl
    · have ew : wrap64 ((m.length : Int) - 1) = ((m.length - 1 : Nat) : Int) := by rw [wrap64_id (by omega) (by omega)]; omega
      have e0 := rdP m (m.length - 1) (by omega)
      rw [if_neg (by omega), ew, if_pos (by omega), if_pos (by omega), e0, List.getLast?_eq_getElem?, List.getElem?_eq_getElem (by omega)]
      rfl
  · cases h

set_option maxHeartbeats 1000000 in
theorem wire_Last_s.calls (A0 : Option Addr) (c0 : Nat) (l0 : List (S47)) (a1 : Int) (r1 : Int) (r2 : Int) (r3 : Int) (r4 : ByteArray) (r5 : Bool) (w : World) (hr0 : Kd.C k47 w A0 l0.length l0) (hc0 : l0.length ≤ c0) (h : wire_Last_s.f l0 a1 = some (r1, r2, r3, r4, r5)) :
    Calls Try.prog 26 #[.slice A0 l0.length c0, .int .i64 a1] w fun e w' => e = .returned (.tuple #[.agg #[.int .i64 r1, .int .i64 r2, .int .u64 r3, .string r4], .bool r5]) ∧ Below w.heap.size w w' := by
  obtain ⟨k, hk⟩ := wire_Last_s.ev l0 a1 _ h
  exact wire_Last.calls A0 c0 l0 a1 r1 r2 r3 r4 r5 w hr0 hc0 hk

end Go.Proofs.Ytohddbiedabmhaa.X
