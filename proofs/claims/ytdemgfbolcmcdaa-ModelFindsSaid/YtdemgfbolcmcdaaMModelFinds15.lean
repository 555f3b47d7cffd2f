import Derived.Test.YtdemgfbolcmcdaaMModelFinds2
import Derived.Test.YtdemgfbolcmcdaaMModelFinds3
import Derived.Test.YtdemgfbolcmcdaaMModelFinds9
import Derived.Test.YtdemgfbolcmcdaaMModelFinds14
import Derived.Test.YtdemgfbolcmcdaaMModelFinds10
import Derived.Test.YtdemgfbolcmcdaaMModelFinds11
import Derived.Test.YtdemgfbolcmcdaaMModelFinds12
import Derived.Test.YtdemgfbolcmcdaaMModelFinds13
import Derived.Test.YtdemgfbolcmcdaaMModelFinds6
namespace Go.Proofs.Ytdemgfbolcmcdaa.X
open Go.RowKit Go.Proofs.YtdemgfbolcmcdaaW.PrintWords Go.Proofs.YtdemgfbolcmcdaaW.PrintLast Go.Proofs.YtdemgfbolcmcdaaW.PrintMore
attribute [local go_sem] max2_int min2_int max_two min_two max_three min_three max_four min_four
set_option linter.unusedVariables false
set_option linter.unusedSimpArgs false
attribute [local irreducible] Calls
set_option maxHeartbeats 8000000 in
set_option maxRecDepth 100000 in
theorem agatelaw10_ModelFinds.calls (k : Nat) (a0_0 : Int) (A0_1 : Option Addr) (c0_1 : Nat) (l0_1 : List (S79)) (A0_2 : Option Addr) (c0_2 : Nat) (l0_2 : List (S79)) (A0_3 : Option Addr) (c0_3 : Nat) (l0_3 : List (S51)) (A0_4 : Option Addr) (c0_4 : Nat) (l0_4 : List (S33)) (a1 : ByteArray) (a2 : Int) (A3 : Option Addr) (c3 : Nat) (l3 : List Int) (r : Bool) (w : World) (hr0_1 : Kd.C k79 w A0_1 l0_1.length l0_1) (hc0_1 : l0_1.length ≤ c0_1) (hr0_2 : Kd.C k79 w A0_2 l0_2.length l0_2) (hc0_2 : l0_2.length ≤ c0_2) (hr0_3 : Kd.C k51 w A0_3 l0_3.length l0_3) (hc0_3 : l0_3.length ≤ c0_3) (hr0_4 : Kd.C k33 w A0_4 l0_4.length l0_4) (hc0_4 : l0_4.length ≤ c0_4) (hr3 : Kd.C (Kd.int .i64) w A3 l3.length l3) (hc3 : l3.length ≤ c3) (h : agatelaw10_ModelFinds.f k a0_0 l0_1 l0_2 l0_3 l0_4 a1 a2 l3 = some r) :
  Calls Try.prog 3 #[.agg #[.int .i64 a0_0, .slice A0_1 l0_1.length c0_1, .slice A0_2 l0_2.length c0_2, .slice A0_3 l0_3.length c0_3, .slice A0_4 l0_4.length c0_4], .string a1, .int .i64 a2, .slice A3 l3.length c3] w fun e w' => e = .returned (.bool r) ∧ Below w.heap.size w w' := by
 have hu41 := Try.underlying41
 have hfd41_3 : ∀ (v0 v1 v2 v3 : Value) (W_ : World), (Instr.field 41 (.agg #[v0, v1, v2, v3]) 3).run Try.prog W_ = .ok v3 W_ := fun _ _ _ _ _ => by simp [Instr.field, run_underlying Try.underlying41, asAgg, part, Try.isAgg39, Result.andThen]
 have hu26 := Try.underlying26
 have hu33 := Try.underlying33
 have hu35 := Try.underlying35
 have hu51 := Try.underlying51
 have hu58 := Try.underlying58
 have hu63 := Try.underlying63
 have HR0_1 := Aside0.mk hr0_1
 have HC0_1 := Aside0.mk hc0_1
 clear hr0_1 hc0_1
 have HR0_2 := Aside0.mk hr0_2
 have HC0_2 := Aside0.mk hc0_2
 clear hr0_2 hc0_2
 have HR0_3 := Aside0.mk hr0_3
 have HC0_3 := Aside0.mk hc0_3
 clear hr0_3 hc0_3
 have HR0_4 := Aside0.mk hr0_4
 have HC0_4 := Aside0.mk hc0_4
 clear hr0_4 hc0_4
 have HR3 := Aside0.mk hr3
 have HC3 := Aside0.mk hc3
 clear hr3 hc3
 have HB := A0 (Below.refl w.heap.size w)
 have H : ((agatelaw10_Small.f a0_0 l0_1 l0_2 l0_3 l0_4).bind fun t102 => (if t102 = true then (if (a1.size : Int) > 200 then (j0 k a1 a2 l3 true a0_0 l0_1 l0_2 l0_3 l0_4) else (j0 k a1 a2 l3 (decide ((l3.length : Int) > 100)) a0_0 l0_1 l0_2 l0_3 l0_4)) else (j0 k a1 a2 l3 true a0_0 l0_1 l0_2 l0_3 l0_4))) = some r := h
 clear h
 have HC5 := Aside0.mk H
 clear H
 go_enter Try.func3, Try.ntmps3
 go_upto_region 1 with (first | ((with_reducible refine gate_dst (N := 4) rfl ?_); (try (refine gate_guard (by rfl) ?_; dsimp only)); refine box_event ?hg (N := 4) ?hd (cs := #[.int .i64 a0_0, .slice A0_1 l0_1.length c0_1, .slice A0_2 l0_2.length c0_2, .slice A0_3 l0_3.length c0_3, .slice A0_4 l0_4.length c0_4]) (t := 26) ?hr ?_; (case hd => rfl); (case hg => rfl); (case hr => first | (go_simp; done) | (go_simp; rfl)); intro gb101 hg w6 hbox hb; have n0_ := A0 (below_step (hbA HB) hb); have n1_ := A0 (hbox); have n2_ := A0 ((by rw [hg]; exact (below_size (hbA HB)) : w.heap.size ≤ gb101)); have n3_ := A0 ((by rw [hg]; exact (below_size (hbA HB)) : w.heap.size ≤ gb101)); clear HB; have HB := n0_; have BK101 := n1_; have GW101 := n2_; have GE101 := n3_; clear n0_ n1_ n2_ n3_; clear hb hbox hg))
 (try simp only [Act.put, List.setIfInBounds_toArray, List.set_cons_zero, List.set_cons_succ])
 go_cut [36] from 24 to 35 (fun v36 wc => ∃ (kq : Nat) (x36_4 : Bool), v36 = .bool x36_4 ∧ Aside0 (j0 kq a1 a2 l3 x36_4 a0_0 l0_1 l0_2 l0_3 l0_4 = some r) ∧ Aside0 (kq ≤ k) ∧ Aside0 (wc.heap[gb101]? = some (.cells #[.int .i64 a0_0, (.slice A0_1 l0_1.length c0_1), (.slice A0_2 l0_2.length c0_2), (.slice A0_3 l0_3.length c0_3), (.slice A0_4 l0_4.length c0_4)] 26 (0, 0))) ∧ Aside0 (Below w.heap.size w wc))
 case first =>
  have H := HC5.out; clear HC5
  replace H := Option.bind_eq_some_iff.mp H
  obtain ⟨t102, A70, H⟩ := H
  replace H : (if t102 = true then (if (a1.size : Int) > 200 then (j0 k a1 a2 l3 true a0_0 l0_1 l0_2 l0_3 l0_4) else (j0 k a1 a2 l3 (decide ((l3.length : Int) > 100)) a0_0 l0_1 l0_2 l0_3 l0_4)) else (j0 k a1 a2 l3 true a0_0 l0_1 l0_2 l0_3 l0_4)) = some r := H
  have A7 := Aside0.mk A70
  clear A70
  by_cases c8 : t102 = true
  ·
   subst c8
   have H1 : (if (a1.size : Int) > 200 then (j0 k a1 a2 l3 true a0_0 l0_1 l0_2 l0_3 l0_4) else (j0 k a1 a2 l3 (decide ((l3.length : Int) > 100)) a0_0 l0_1 l0_2 l0_3 l0_4)) = some r := by rw [if_pos rfl] at H; exact H
   clear H
   have H := H1
   clear H1
   by_cases c9 : (a1.size : Int) > 200
   ·
    rw [if_pos c9] at H
    have c9b0 : decide (200 < (a1.size : Int)) = true := decide_eq_true c9
    have c9b1 : decide (200 < a1.size) = true := decide_eq_true (by omega)
    clear c9
    (first | rw [c9b0] | (simp only [i64_w, i32_w]; rw [c9b0]) | skip)
    have H' := Aside0.mk H
    clear H; have hcz10_0 : w6.cell? ⟨gb101, 0, none⟩ = some (.int .i64 a0_0) := bcA BK101 0; have hcz10_1 : w6.cell? ⟨gb101, 1, none⟩ = some (.slice A0_1 l0_1.length c0_1) := bcA BK101 1; have hcz10_2 : w6.cell? ⟨gb101, 2, none⟩ = some (.slice A0_2 l0_2.length c0_2) := bcA BK101 2; have hcz10_3 : w6.cell? ⟨gb101, 3, none⟩ = some (.slice A0_3 l0_3.length c0_3) := bcA BK101 3; have hcz10_4 : w6.cell? ⟨gb101, 4, none⟩ = some (.slice A0_4 l0_4.length c0_4) := bcA BK101 4; have hfz10_0 := blk_frozen BK101.out 0; have hfz10_1 := blk_frozen BK101.out 1; have hfz10_2 := blk_frozen BK101.out 2; have hfz10_3 := blk_frozen BK101.out 3; have hfz10_4 := blk_frozen BK101.out 4
    go_wp2_with (first | ((with_reducible refine gate_callee (f := 7) rfl ?_); refine goesL_ (some 25) rfl rfl Try.func7 (by kernel_rfl) rfl #[.agg #[.int .i64 a0_0, .slice A0_1 l0_1.length c0_1, .slice A0_2 l0_2.length c0_2, .slice A0_3 l0_3.length c0_3, .slice A0_4 l0_4.length c0_4]] rfl (by (try simp only [List.map_toArray, List.map_cons, List.map_nil]); first | done | rfl | (simp only [List.length_drop, List.length_take]; rfl)) ?_; (with_reducible refine (agatelaw10_Small.calls a0_0 _ _ l0_1 _ _ l0_2 _ _ l0_3 _ _ l0_4 true _ ?side1 ?side2 ?side3 ?side4 ?side5 ?side6 ?side7 ?side8 A7.out).mono ?_); (case side1 => ((repeat first | (with_reducible refine Kd.C_alloc ?_ _) | (with_reducible refine Kd.C_drewN ?_ _) | (with_reducible refine Kd.C_drew ?_)); exact (Kd.C_below HR0_1.out HB.out))); (case side2 => exact HC0_1.out); (case side3 => ((repeat first | (with_reducible refine Kd.C_alloc ?_ _) | (with_reducible refine Kd.C_drewN ?_ _) | (with_reducible refine Kd.C_drew ?_)); exact (Kd.C_below HR0_2.out HB.out))); (case side4 => exact HC0_2.out); (case side5 => ((repeat first | (with_reducible refine Kd.C_alloc ?_ _) | (with_reducible refine Kd.C_drewN ?_ _) | (with_reducible refine Kd.C_drew ?_)); exact (Kd.C_below HR0_3.out HB.out))); (case side6 => exact HC0_3.out); (case side7 => ((repeat first | (with_reducible refine Kd.C_alloc ?_ _) | (with_reducible refine Kd.C_drewN ?_ _) | (with_reducible refine Kd.C_drew ?_)); exact (Kd.C_below HR0_4.out HB.out))); (case side8 => exact HC0_4.out); rintro e w11 ⟨rfl, hb⟩; refine ⟨_, rfl, ?_⟩; have n0_ := A0 (blk_below (g := gb101) (bkA BK101) hb); have n1_ := A0 (below_step (hbA HB) hb); clear BK101; clear HB; have BK101 := n0_; have HB := n1_; clear n0_ n1_; (try clear hb); (try clear hb2); (try clear hk); (try clear hi)))
    go_meet
    case rel => exact ⟨_, (true), (by first | rfl | (simp; done) | (simp [*]; done)), H', ⟨by first | omega | exact Nat.le_refl _⟩, ⟨bkA BK101⟩, ⟨hbA HB⟩⟩
   ·
    rw [if_neg c9] at H
    have c9b0 : decide (200 < (a1.size : Int)) = false := decide_eq_false c9
    have c9b1 : decide (200 < a1.size) = false := decide_eq_false (by omega)
    clear c9
    (first | rw [c9b0] | (simp only [i64_w, i32_w]; rw [c9b0]) | skip)
    have H' := Aside0.mk H
    clear H; have hcz12_0 : w6.cell? ⟨gb101, 0, none⟩ = some (.int .i64 a0_0) := bcA BK101 0; have hcz12_1 : w6.cell? ⟨gb101, 1, none⟩ = some (.slice A0_1 l0_1.length c0_1) := bcA BK101 1; have hcz12_2 : w6.cell? ⟨gb101, 2, none⟩ = some (.slice A0_2 l0_2.length c0_2) := bcA BK101 2; have hcz12_3 : w6.cell? ⟨gb101, 3, none⟩ = some (.slice A0_3 l0_3.length c0_3) := bcA BK101 3; have hcz12_4 : w6.cell? ⟨gb101, 4, none⟩ = some (.slice A0_4 l0_4.length c0_4) := bcA BK101 4; have hfz12_0 := blk_frozen BK101.out 0; have hfz12_1 := blk_frozen BK101.out 1; have hfz12_2 := blk_frozen BK101.out 2; have hfz12_3 := blk_frozen BK101.out 3; have hfz12_4 := blk_frozen BK101.out 4
    go_wp2_with (first | ((with_reducible refine gate_callee (f := 7) rfl ?_); refine goesL_ (some 25) rfl rfl Try.func7 (by kernel_rfl) rfl #[.agg #[.int .i64 a0_0, .slice A0_1 l0_1.length c0_1, .slice A0_2 l0_2.length c0_2, .slice A0_3 l0_3.length c0_3, .slice A0_4 l0_4.length c0_4]] rfl (by (try simp only [List.map_toArray, List.map_cons, List.map_nil]); first | done | rfl | (simp only [List.length_drop, List.length_take]; rfl)) ?_; (with_reducible refine (agatelaw10_Small.calls a0_0 _ _ l0_1 _ _ l0_2 _ _ l0_3 _ _ l0_4 true _ ?side1 ?side2 ?side3 ?side4 ?side5 ?side6 ?side7 ?side8 A7.out).mono ?_); (case side1 => ((repeat first | (with_reducible refine Kd.C_alloc ?_ _) | (with_reducible refine Kd.C_drewN ?_ _) | (with_reducible refine Kd.C_drew ?_)); exact (Kd.C_below HR0_1.out HB.out))); (case side2 => exact HC0_1.out); (case side3 => ((repeat first | (with_reducible refine Kd.C_alloc ?_ _) | (with_reducible refine Kd.C_drewN ?_ _) | (with_reducible refine Kd.C_drew ?_)); exact (Kd.C_below HR0_2.out HB.out))); (case side4 => exact HC0_2.out); (case side5 => ((repeat first | (with_reducible refine Kd.C_alloc ?_ _) | (with_reducible refine Kd.C_drewN ?_ _) | (with_reducible refine Kd.C_drew ?_)); exact (Kd.C_below HR0_3.out HB.out))); (case side6 => exact HC0_3.out); (case side7 => ((repeat first | (with_reducible refine Kd.C_alloc ?_ _) | (with_reducible refine Kd.C_drewN ?_ _) | (with_reducible refine Kd.C_drew ?_)); exact (Kd.C_below HR0_4.out HB.out))); (case side8 => exact HC0_4.out); rintro e w13 ⟨rfl, hb⟩; refine ⟨_, rfl, ?_⟩; have n0_ := A0 (blk_below (g := gb101) (bkA BK101) hb); have n1_ := A0 (below_step (hbA HB) hb); clear BK101; clear HB; have BK101 := n0_; have HB := n1_; clear n0_ n1_; (try clear hb); (try clear hb2); (try clear hk); (try clear hi)))
    go_meet
    case rel => exact ⟨_, (decide ((l3.length : Int) > 100)), (by first | rfl | (simp; done) | (simp [*]; done)), H', ⟨by first | omega | exact Nat.le_refl _⟩, ⟨bkA BK101⟩, ⟨hbA HB⟩⟩
  ·
   replace c8 := Bool.eq_false_iff.mpr c8
   subst c8
   have H1 : (j0 k a1 a2 l3 true a0_0 l0_1 l0_2 l0_3 l0_4) = some r := by rw [if_neg (show ¬ (false = true) by decide)] at H; exact H
   clear H
   have H := H1
   clear H1
   have H' := Aside0.mk H
   clear H; have hcz14_0 : w6.cell? ⟨gb101, 0, none⟩ = some (.int .i64 a0_0) := bcA BK101 0; have hcz14_1 : w6.cell? ⟨gb101, 1, none⟩ = some (.slice A0_1 l0_1.length c0_1) := bcA BK101 1; have hcz14_2 : w6.cell? ⟨gb101, 2, none⟩ = some (.slice A0_2 l0_2.length c0_2) := bcA BK101 2; have hcz14_3 : w6.cell? ⟨gb101, 3, none⟩ = some (.slice A0_3 l0_3.length c0_3) := bcA BK101 3; have hcz14_4 : w6.cell? ⟨gb101, 4, none⟩ = some (.slice A0_4 l0_4.length c0_4) := bcA BK101 4; have hfz14_0 := blk_frozen BK101.out 0; have hfz14_1 := blk_frozen BK101.out 1; have hfz14_2 := blk_frozen BK101.out 2; have hfz14_3 := blk_frozen BK101.out 3; have hfz14_4 := blk_frozen BK101.out 4
   go_wp2_with (first | ((with_reducible refine gate_callee (f := 7) rfl ?_); refine goesL_ (some 25) rfl rfl Try.func7 (by kernel_rfl) rfl #[.agg #[.int .i64 a0_0, .slice A0_1 l0_1.length c0_1, .slice A0_2 l0_2.length c0_2, .slice A0_3 l0_3.length c0_3, .slice A0_4 l0_4.length c0_4]] rfl (by (try simp only [List.map_toArray, List.map_cons, List.map_nil]); first | done | rfl | (simp only [List.length_drop, List.length_take]; rfl)) ?_; (with_reducible refine (agatelaw10_Small.calls a0_0 _ _ l0_1 _ _ l0_2 _ _ l0_3 _ _ l0_4 false _ ?side1 ?side2 ?side3 ?side4 ?side5 ?side6 ?side7 ?side8 A7.out).mono ?_); (case side1 => ((repeat first | (with_reducible refine Kd.C_alloc ?_ _) | (with_reducible refine Kd.C_drewN ?_ _) | (with_reducible refine Kd.C_drew ?_)); exact (Kd.C_below HR0_1.out HB.out))); (case side2 => exact HC0_1.out); (case side3 => ((repeat first | (with_reducible refine Kd.C_alloc ?_ _) | (with_reducible refine Kd.C_drewN ?_ _) | (with_reducible refine Kd.C_drew ?_)); exact (Kd.C_below HR0_2.out HB.out))); (case side4 => exact HC0_2.out); (case side5 => ((repeat first | (with_reducible refine Kd.C_alloc ?_ _) | (with_reducible refine Kd.C_drewN ?_ _) | (with_reducible refine Kd.C_drew ?_)); exact (Kd.C_below HR0_3.out HB.out))); (case side6 => exact HC0_3.out); (case side7 => ((repeat first | (with_reducible refine Kd.C_alloc ?_ _) | (with_reducible refine Kd.C_drewN ?_ _) | (with_reducible refine Kd.C_drew ?_)); exact (Kd.C_below HR0_4.out HB.out))); (case side8 => exact HC0_4.out); rintro e w15 ⟨rfl, hb⟩; refine ⟨_, rfl, ?_⟩; have n0_ := A0 (blk_below (g := gb101) (bkA BK101) hb); have n1_ := A0 (below_step (hbA HB) hb); clear BK101; clear HB; have BK101 := n0_; have HB := n1_; clear n0_ n1_; (try clear hb); (try clear hb2); (try clear hk); (try clear hi)))
   go_meet
   case rel => exact ⟨_, (true), (by first | rfl | (simp; done) | (simp [*]; done)), H', ⟨by first | omega | exact Nat.le_refl _⟩, ⟨bkA BK101⟩, ⟨hbA HB⟩⟩
 case rest =>
  clear HC5
  obtain ⟨kq, x36_4, rfl, HA, HJ4, BK101, HB⟩ := hcut
  cases kq with
  | zero => exact absurd HA.out (by simp [j0])
  | succ kj4 =>
   have H := HA.out; clear HA
   simp only [j0] at H
   by_cases c16 : x36_4 = true
   ·
    subst c16
    have H1 : ((agatelaw10_Awake.f).bind fun t106 => (some t106)) = some r := by rw [if_pos rfl] at H; exact H
    clear H
    have H := H1
    clear H1
    replace H := Option.bind_eq_some_iff.mp H
    obtain ⟨t106, A170, H⟩ := H
    replace H : (some t106) = some r := H
    have A17 := Aside0.mk A170
    clear A170
    obtain rfl := Option.some.inj H
    go_wp2_with (first | ((with_reducible refine gate_callee (f := 8) rfl ?_); refine goesL_ (some 37) rfl rfl Try.func8 (by kernel_rfl) rfl #[] rfl (by (try simp only [List.map_toArray, List.map_cons, List.map_nil]); first | done | rfl | (simp only [List.length_drop, List.length_take]; rfl)) ?_; (with_reducible refine (agatelaw10_Awake.calls  t106 _ A17.out).mono ?_); rintro e w18 ⟨rfl, hb⟩; refine ⟨_, rfl, ?_⟩; have n0_ := A0 (blk_below (g := gb101) (bkA BK101) hb); have n1_ := A0 (below_step (hbA HB) hb); clear BK101; clear HB; have BK101 := n0_; have HB := n1_; clear n0_ n1_; (try clear hb); (try clear hb2); (try clear hk); (try clear hi)))
    go_ret
    exact ⟨by first | rfl | (simp [errW_none, errW_some] <;> rfl) | (simp [*, errW_none, errW_some] <;> rfl), hbA HB⟩
   ·
    replace c16 := Bool.eq_false_iff.mpr c16
    subst c16
    have H1 : (l0 kj4 a1 a2 l3 l0_4 (l0_4.length : Int) 0 a0_0 l0_1 l0_2 l0_3 l0_4) = some r := by rw [if_neg (show ¬ (false = true) by decide)] at H; exact H
    clear H
    have H := H1
    clear H1
    have H' := Aside0.mk H
    clear H; have hcz19_0 : wc.cell? ⟨gb101, 0, none⟩ = some (.int .i64 a0_0) := bcA BK101 0; have hcz19_1 : wc.cell? ⟨gb101, 1, none⟩ = some (.slice A0_1 l0_1.length c0_1) := bcA BK101 1; have hcz19_2 : wc.cell? ⟨gb101, 2, none⟩ = some (.slice A0_2 l0_2.length c0_2) := bcA BK101 2; have hcz19_3 : wc.cell? ⟨gb101, 3, none⟩ = some (.slice A0_3 l0_3.length c0_3) := bcA BK101 3; have hcz19_4 : wc.cell? ⟨gb101, 4, none⟩ = some (.slice A0_4 l0_4.length c0_4) := bcA BK101 4; have hfz19_0 := blk_frozen BK101.out 0; have hfz19_1 := blk_frozen BK101.out 1; have hfz19_2 := blk_frozen BK101.out 2; have hfz19_3 := blk_frozen BK101.out 3; have hfz19_4 := blk_frozen BK101.out 4
    go_wp2
    go_loopg [41] kj4 (fun kq v41 w' => ∃ (x41_2 : Int), v41 = .int .i64 x41_2 ∧ Aside0 (l0 kq a1 a2 l3 l0_4 (l0_4.length : Int) x41_2 a0_0 l0_1 l0_2 l0_3 l0_4 = some r) ∧ Aside0 (kq ≤ kj4) ∧ Aside0 (w'.heap[gb101]? = some (.cells #[.int .i64 a0_0, (.slice A0_1 l0_1.length c0_1), (.slice A0_2 l0_2.length c0_2), (.slice A0_3 l0_3.length c0_3), (.slice A0_4 l0_4.length c0_4)] 26 (0, 0))) ∧ Aside0 (Below w.heap.size w w'))
    case atStart => exact ⟨(0), (by first | rfl | (simp; done) | (simp [*]; done)), H', ⟨Nat.le_refl _⟩, ⟨bkA BK101⟩, ⟨hbA HB⟩⟩
    case round =>
     clear H'
     obtain ⟨x41_2, rfl, HA, HK2, BK101, HB⟩ := hrel
     cases gk with
     | zero => exact absurd HA.out (by simp [l0])
     | succ k2 =>
      have H := HA.out; clear HA
      simp only [l0] at H
      by_cases c20 : x41_2 < (l0_4.length : Int)
      ·
       rw [if_pos c20] at H
       have c20b0 : decide (x41_2 < (l0_4.length : Int)) = true := decide_eq_true c20
       clear c20
       by_cases c21 : 0 ≤ x41_2
       ·
        rw [if_pos c21] at H
        have c21b0 : decide (0 ≤ x41_2) = true := decide_eq_true c21
        clear c21
        by_cases c22 : x41_2 < (l0_4.length : Int)
        ·
         rw [if_pos c22] at H
         have c22b0 : decide (x41_2 < (l0_4.length : Int)) = true := decide_eq_true c22
         clear c22
         replace H := Option.bind_eq_some_iff.mp H
         obtain ⟨⟨t132, t133, t134, t135, t138⟩, A230, H⟩ := H
         replace H : ((agatelaw10_Node.f k2 ((rd_T33 l0_4 x41_2).f0) ((rd_T33 l0_4 x41_2).f1) ((rd_T33 l0_4 x41_2).f2) ((rd_T33 l0_4 x41_2).f3)).bind fun bt140 => ((agateref10_Find.f k2 bt140.2.2.2 a1).bind fun t148 => ((model_Node_Row.f ((rd_T33 l0_4 x41_2).f0) ((rd_T33 l0_4 x41_2).f1) ((rd_T33 l0_4 x41_2).f2) ((rd_T33 l0_4 x41_2).f3) a1).bind fun bt149 => ((model_Node_One.f ((rd_T33 l0_4 x41_2).f0) ((rd_T33 l0_4 x41_2).f1) ((rd_T33 l0_4 x41_2).f2) ((rd_T33 l0_4 x41_2).f3) a1 a2).bind fun t153 => (if (t138 != (decide (t148 ≥ 0))) = true then (none) else (if t148 < 0 then (if (bt149.1.length : Int) = 0 then (if bt149.2 = true then (none) else (if t153 = a2 then (if t132.toList = ([] : List UInt8) then (l0 k2 a1 a2 l3 l0_4 (l0_4.length : Int) (wrap64 (x41_2 + 1)) a0_0 l0_1 l0_2 l0_3 l0_4) else (none)) else (none))) else (none)) else (if 0 ≤ t148 then (if t148 < (((rd_T33 l0_4 x41_2).f3).length : Int) then ((agateref10_Attrs.f k2 t132 t133 t134 t135 ((rd_T35 ((rd_T33 l0_4 x41_2).f3) t148).f0) ((rd_T35 ((rd_T33 l0_4 x41_2).f3) t148).f1) ((rd_T35 ((rd_T33 l0_4 x41_2).f3) t148).f2) ((rd_T35 ((rd_T33 l0_4 x41_2).f3) t148).f3)).bind fun t160 => (if t160 = true then (if (bt149.2 != (!((rd_T35 ((rd_T33 l0_4 x41_2).f3) t148).f1))) = true then (none) else (if bt149.2 = true then ((agatelaw03_Ints_s.f bt149.1 ((rd_T35 ((rd_T33 l0_4 x41_2).f3) t148).f3)).bind fun t161 => (if t161 = true then (if (rd_T35 ((rd_T33 l0_4 x41_2).f3) t148).f1 = true then (if t153 = ((rd_T35 ((rd_T33 l0_4 x41_2).f3) t148).f2) then (if ((rd_T35 ((rd_T33 l0_4 x41_2).f3) t148).f1 = true) then (j2 k2 a1 a2 l3 l0_4 (l0_4.length : Int) x41_2 false a0_0 l0_1 l0_2 l0_3 l0_4) else (j2 k2 a1 a2 l3 l0_4 (l0_4.length : Int) x41_2 (t153 != a2) a0_0 l0_1 l0_2 l0_3 l0_4)) else (none)) else (if ((rd_T35 ((rd_T33 l0_4 x41_2).f3) t148).f1 = true) then (j2 k2 a1 a2 l3 l0_4 (l0_4.length : Int) x41_2 false a0_0 l0_1 l0_2 l0_3 l0_4) else (j2 k2 a1 a2 l3 l0_4 (l0_4.length : Int) x41_2 (t153 != a2) a0_0 l0_1 l0_2 l0_3 l0_4))) else (none))) else (if (rd_T35 ((rd_T33 l0_4 x41_2).f3) t148).f1 = true then (if t153 = ((rd_T35 ((rd_T33 l0_4 x41_2).f3) t148).f2) then (if ((rd_T35 ((rd_T33 l0_4 x41_2).f3) t148).f1 = true) then (j2 k2 a1 a2 l3 l0_4 (l0_4.length : Int) x41_2 false a0_0 l0_1 l0_2 l0_3 l0_4) else (j2 k2 a1 a2 l3 l0_4 (l0_4.length : Int) x41_2 (t153 != a2) a0_0 l0_1 l0_2 l0_3 l0_4)) else (none)) else (if ((rd_T35 ((rd_T33 l0_4 x41_2).f3) t148).f1 = true) then (j2 k2 a1 a2 l3 l0_4 (l0_4.length : Int) x41_2 false a0_0 l0_1 l0_2 l0_3 l0_4) else (j2 k2 a1 a2 l3 l0_4 (l0_4.length : Int) x41_2 (t153 != a2) a0_0 l0_1 l0_2 l0_3 l0_4))))) else (none))) else (none)) else (none)))))))) = some r := H
         have A23 := Aside0.mk A230
         clear A230
         replace H := Option.bind_eq_some_iff.mp H
         obtain ⟨⟨t140, t141, t144, t145⟩, A240, H⟩ := H
         replace H : ((agateref10_Find.f k2 t145 a1).bind fun t148 => ((model_Node_Row.f ((rd_T33 l0_4 x41_2).f0) ((rd_T33 l0_4 x41_2).f1) ((rd_T33 l0_4 x41_2).f2) ((rd_T33 l0_4 x41_2).f3) a1).bind fun bt149 => ((model_Node_One.f ((rd_T33 l0_4 x41_2).f0) ((rd_T33 l0_4 x41_2).f1) ((rd_T33 l0_4 x41_2).f2) ((rd_T33 l0_4 x41_2).f3) a1 a2).bind fun t153 => (if (t138 != (decide (t148 ≥ 0))) = true then (none) else (if t148 < 0 then (if (bt149.1.length : Int) = 0 then (if bt149.2 = true then (none) else (if t153 = a2 then (if t132.toList = ([] : List UInt8) then (l0 k2 a1 a2 l3 l0_4 (l0_4.length : Int) (wrap64 (x41_2 + 1)) a0_0 l0_1 l0_2 l0_3 l0_4) else (none)) else (none))) else (none)) else (if 0 ≤ t148 then (if t148 < (((rd_T33 l0_4 x41_2).f3).length : Int) then ((agateref10_Attrs.f k2 t132 t133 t134 t135 ((rd_T35 ((rd_T33 l0_4 x41_2).f3) t148).f0) ((rd_T35 ((rd_T33 l0_4 x41_2).f3) t148).f1) ((rd_T35 ((rd_T33 l0_4 x41_2).f3) t148).f2) ((rd_T35 ((rd_T33 l0_4 x41_2).f3) t148).f3)).bind fun t160 => (if t160 = true then (if (bt149.2 != (!((rd_T35 ((rd_T33 l0_4 x41_2).f3) t148).f1))) = true then (none) else (if bt149.2 = true then ((agatelaw03_Ints_s.f bt149.1 ((rd_T35 ((rd_T33 l0_4 x41_2).f3) t148).f3)).bind fun t161 => (if t161 = true then (if (rd_T35 ((rd_T33 l0_4 x41_2).f3) t148).f1 = true then (if t153 = ((rd_T35 ((rd_T33 l0_4 x41_2).f3) t148).f2) then (if ((rd_T35 ((rd_T33 l0_4 x41_2).f3) t148).f1 = true) then (j2 k2 a1 a2 l3 l0_4 (l0_4.length : Int) x41_2 false a0_0 l0_1 l0_2 l0_3 l0_4) else (j2 k2 a1 a2 l3 l0_4 (l0_4.length : Int) x41_2 (t153 != a2) a0_0 l0_1 l0_2 l0_3 l0_4)) else (none)) else (if ((rd_T35 ((rd_T33 l0_4 x41_2).f3) t148).f1 = true) then (j2 k2 a1 a2 l3 l0_4 (l0_4.length : Int) x41_2 false a0_0 l0_1 l0_2 l0_3 l0_4) else (j2 k2 a1 a2 l3 l0_4 (l0_4.length : Int) x41_2 (t153 != a2) a0_0 l0_1 l0_2 l0_3 l0_4))) else (none))) else (if (rd_T35 ((rd_T33 l0_4 x41_2).f3) t148).f1 = true then (if t153 = ((rd_T35 ((rd_T33 l0_4 x41_2).f3) t148).f2) then (if ((rd_T35 ((rd_T33 l0_4 x41_2).f3) t148).f1 = true) then (j2 k2 a1 a2 l3 l0_4 (l0_4.length : Int) x41_2 false a0_0 l0_1 l0_2 l0_3 l0_4) else (j2 k2 a1 a2 l3 l0_4 (l0_4.length : Int) x41_2 (t153 != a2) a0_0 l0_1 l0_2 l0_3 l0_4)) else (none)) else (if ((rd_T35 ((rd_T33 l0_4 x41_2).f3) t148).f1 = true) then (j2 k2 a1 a2 l3 l0_4 (l0_4.length : Int) x41_2 false a0_0 l0_1 l0_2 l0_3 l0_4) else (j2 k2 a1 a2 l3 l0_4 (l0_4.length : Int) x41_2 (t153 != a2) a0_0 l0_1 l0_2 l0_3 l0_4))))) else (none))) else (none)) else (none))))))) = some r := H
         have A24 := Aside0.mk A240
         clear A240
         replace H := Option.bind_eq_some_iff.mp H
         obtain ⟨t148, A250, H⟩ := H
         replace H : ((model_Node_Row.f ((rd_T33 l0_4 x41_2).f0) ((rd_T33 l0_4 x41_2).f1) ((rd_T33 l0_4 x41_2).f2) ((rd_T33 l0_4 x41_2).f3) a1).bind fun bt149 => ((model_Node_One.f ((rd_T33 l0_4 x41_2).f0) ((rd_T33 l0_4 x41_2).f1) ((rd_T33 l0_4 x41_2).f2) ((rd_T33 l0_4 x41_2).f3) a1 a2).bind fun t153 => (if (t138 != (decide (t148 ≥ 0))) = true then (none) else (if t148 < 0 then (if (bt149.1.length : Int) = 0 then (if bt149.2 = true then (none) else (if t153 = a2 then (if t132.toList = ([] : List UInt8) then (l0 k2 a1 a2 l3 l0_4 (l0_4.length : Int) (wrap64 (x41_2 + 1)) a0_0 l0_1 l0_2 l0_3 l0_4) else (none)) else (none))) else (none)) else (if 0 ≤ t148 then (if t148 < (((rd_T33 l0_4 x41_2).f3).length : Int) then ((agateref10_Attrs.f k2 t132 t133 t134 t135 ((rd_T35 ((rd_T33 l0_4 x41_2).f3) t148).f0) ((rd_T35 ((rd_T33 l0_4 x41_2).f3) t148).f1) ((rd_T35 ((rd_T33 l0_4 x41_2).f3) t148).f2) ((rd_T35 ((rd_T33 l0_4 x41_2).f3) t148).f3)).bind fun t160 => (if t160 = true then (if (bt149.2 != (!((rd_T35 ((rd_T33 l0_4 x41_2).f3) t148).f1))) = true then (none) else (if bt149.2 = true then ((agatelaw03_Ints_s.f bt149.1 ((rd_T35 ((rd_T33 l0_4 x41_2).f3) t148).f3)).bind fun t161 => (if t161 = true then (if (rd_T35 ((rd_T33 l0_4 x41_2).f3) t148).f1 = true then (if t153 = ((rd_T35 ((rd_T33 l0_4 x41_2).f3) t148).f2) then (if ((rd_T35 ((rd_T33 l0_4 x41_2).f3) t148).f1 = true) then (j2 k2 a1 a2 l3 l0_4 (l0_4.length : Int) x41_2 false a0_0 l0_1 l0_2 l0_3 l0_4) else (j2 k2 a1 a2 l3 l0_4 (l0_4.length : Int) x41_2 (t153 != a2) a0_0 l0_1 l0_2 l0_3 l0_4)) else (none)) else (if ((rd_T35 ((rd_T33 l0_4 x41_2).f3) t148).f1 = true) then (j2 k2 a1 a2 l3 l0_4 (l0_4.length : Int) x41_2 false a0_0 l0_1 l0_2 l0_3 l0_4) else (j2 k2 a1 a2 l3 l0_4 (l0_4.length : Int) x41_2 (t153 != a2) a0_0 l0_1 l0_2 l0_3 l0_4))) else (none))) else (if (rd_T35 ((rd_T33 l0_4 x41_2).f3) t148).f1 = true then (if t153 = ((rd_T35 ((rd_T33 l0_4 x41_2).f3) t148).f2) then (if ((rd_T35 ((rd_T33 l0_4 x41_2).f3) t148).f1 = true) then (j2 k2 a1 a2 l3 l0_4 (l0_4.length : Int) x41_2 false a0_0 l0_1 l0_2 l0_3 l0_4) else (j2 k2 a1 a2 l3 l0_4 (l0_4.length : Int) x41_2 (t153 != a2) a0_0 l0_1 l0_2 l0_3 l0_4)) else (none)) else (if ((rd_T35 ((rd_T33 l0_4 x41_2).f3) t148).f1 = true) then (j2 k2 a1 a2 l3 l0_4 (l0_4.length : Int) x41_2 false a0_0 l0_1 l0_2 l0_3 l0_4) else (j2 k2 a1 a2 l3 l0_4 (l0_4.length : Int) x41_2 (t153 != a2) a0_0 l0_1 l0_2 l0_3 l0_4))))) else (none))) else (none)) else (none)))))) = some r := H
         have A25 := Aside0.mk A250
         clear A250
         replace H := Option.bind_eq_some_iff.mp H
         obtain ⟨⟨t149, t152⟩, A260, H⟩ := H
         replace H : ((model_Node_One.f ((rd_T33 l0_4 x41_2).f0) ((rd_T33 l0_4 x41_2).f1) ((rd_T33 l0_4 x41_2).f2) ((rd_T33 l0_4 x41_2).f3) a1 a2).bind fun t153 => (if (t138 != (decide (t148 ≥ 0))) = true then (none) else (if t148 < 0 then (if (t149.length : Int) = 0 then (if t152 = true then (none) else (if t153 = a2 then (if t132.toList = ([] : List UInt8) then (l0 k2 a1 a2 l3 l0_4 (l0_4.length : Int) (wrap64 (x41_2 + 1)) a0_0 l0_1 l0_2 l0_3 l0_4) else (none)) else (none))) else (none)) else (if 0 ≤ t148 then (if t148 < (((rd_T33 l0_4 x41_2).f3).length : Int) then ((agateref10_Attrs.f k2 t132 t133 t134 t135 ((rd_T35 ((rd_T33 l0_4 x41_2).f3) t148).f0) ((rd_T35 ((rd_T33 l0_4 x41_2).f3) t148).f1) ((rd_T35 ((rd_T33 l0_4 x41_2).f3) t148).f2) ((rd_T35 ((rd_T33 l0_4 x41_2).f3) t148).f3)).bind fun t160 => (if t160 = true then (if (t152 != (!((rd_T35 ((rd_T33 l0_4 x41_2).f3) t148).f1))) = true then (none) else (if t152 = true then ((agatelaw03_Ints_s.f t149 ((rd_T35 ((rd_T33 l0_4 x41_2).f3) t148).f3)).bind fun t161 => (if t161 = true then (if (rd_T35 ((rd_T33 l0_4 x41_2).f3) t148).f1 = true then (if t153 = ((rd_T35 ((rd_T33 l0_4 x41_2).f3) t148).f2) then (if ((rd_T35 ((rd_T33 l0_4 x41_2).f3) t148).f1 = true) then (j2 k2 a1 a2 l3 l0_4 (l0_4.length : Int) x41_2 false a0_0 l0_1 l0_2 l0_3 l0_4) else (j2 k2 a1 a2 l3 l0_4 (l0_4.length : Int) x41_2 (t153 != a2) a0_0 l0_1 l0_2 l0_3 l0_4)) else (none)) else (if ((rd_T35 ((rd_T33 l0_4 x41_2).f3) t148).f1 = true) then (j2 k2 a1 a2 l3 l0_4 (l0_4.length : Int) x41_2 false a0_0 l0_1 l0_2 l0_3 l0_4) else (j2 k2 a1 a2 l3 l0_4 (l0_4.length : Int) x41_2 (t153 != a2) a0_0 l0_1 l0_2 l0_3 l0_4))) else (none))) else (if (rd_T35 ((rd_T33 l0_4 x41_2).f3) t148).f1 = true then (if t153 = ((rd_T35 ((rd_T33 l0_4 x41_2).f3) t148).f2) then (if ((rd_T35 ((rd_T33 l0_4 x41_2).f3) t148).f1 = true) then (j2 k2 a1 a2 l3 l0_4 (l0_4.length : Int) x41_2 false a0_0 l0_1 l0_2 l0_3 l0_4) else (j2 k2 a1 a2 l3 l0_4 (l0_4.length : Int) x41_2 (t153 != a2) a0_0 l0_1 l0_2 l0_3 l0_4)) else (none)) else (if ((rd_T35 ((rd_T33 l0_4 x41_2).f3) t148).f1 = true) then (j2 k2 a1 a2 l3 l0_4 (l0_4.length : Int) x41_2 false a0_0 l0_1 l0_2 l0_3 l0_4) else (j2 k2 a1 a2 l3 l0_4 (l0_4.length : Int) x41_2 (t153 != a2) a0_0 l0_1 l0_2 l0_3 l0_4))))) else (none))) else (none)) else (none))))) = some r := H
         have A26 := Aside0.mk A260
         clear A260
         replace H := Option.bind_eq_some_iff.mp H
         obtain ⟨t153, A270, H⟩ := H
         replace H : (if (t138 != (decide (t148 ≥ 0))) = true then (none) else (if t148 < 0 then (if (t149.length : Int) = 0 then (if t152 = true then (none) else (if t153 = a2 then (if t132.toList = ([] : List UInt8) then (l0 k2 a1 a2 l3 l0_4 (l0_4.length : Int) (wrap64 (x41_2 + 1)) a0_0 l0_1 l0_2 l0_3 l0_4) else (none)) else (none))) else (none)) else (if 0 ≤ t148 then (if t148 < (((rd_T33 l0_4 x41_2).f3).length : Int) then ((agateref10_Attrs.f k2 t132 t133 t134 t135 ((rd_T35 ((rd_T33 l0_4 x41_2).f3) t148).f0) ((rd_T35 ((rd_T33 l0_4 x41_2).f3) t148).f1) ((rd_T35 ((rd_T33 l0_4 x41_2).f3) t148).f2) ((rd_T35 ((rd_T33 l0_4 x41_2).f3) t148).f3)).bind fun t160 => (if t160 = true then (if (t152 != (!((rd_T35 ((rd_T33 l0_4 x41_2).f3) t148).f1))) = true then (none) else (if t152 = true then ((agatelaw03_Ints_s.f t149 ((rd_T35 ((rd_T33 l0_4 x41_2).f3) t148).f3)).bind fun t161 => (if t161 = true then (if (rd_T35 ((rd_T33 l0_4 x41_2).f3) t148).f1 = true then (if t153 = ((rd_T35 ((rd_T33 l0_4 x41_2).f3) t148).f2) then (if ((rd_T35 ((rd_T33 l0_4 x41_2).f3) t148).f1 = true) then (j2 k2 a1 a2 l3 l0_4 (l0_4.length : Int) x41_2 false a0_0 l0_1 l0_2 l0_3 l0_4) else (j2 k2 a1 a2 l3 l0_4 (l0_4.length : Int) x41_2 (t153 != a2) a0_0 l0_1 l0_2 l0_3 l0_4)) else (none)) else (if ((rd_T35 ((rd_T33 l0_4 x41_2).f3) t148).f1 = true) then (j2 k2 a1 a2 l3 l0_4 (l0_4.length : Int) x41_2 false a0_0 l0_1 l0_2 l0_3 l0_4) else (j2 k2 a1 a2 l3 l0_4 (l0_4.length : Int) x41_2 (t153 != a2) a0_0 l0_1 l0_2 l0_3 l0_4))) else (none))) else (if (rd_T35 ((rd_T33 l0_4 x41_2).f3) t148).f1 = true then (if t153 = ((rd_T35 ((rd_T33 l0_4 x41_2).f3) t148).f2) then (if ((rd_T35 ((rd_T33 l0_4 x41_2).f3) t148).f1 = true) then (j2 k2 a1 a2 l3 l0_4 (l0_4.length : Int) x41_2 false a0_0 l0_1 l0_2 l0_3 l0_4) else (j2 k2 a1 a2 l3 l0_4 (l0_4.length : Int) x41_2 (t153 != a2) a0_0 l0_1 l0_2 l0_3 l0_4)) else (none)) else (if ((rd_T35 ((rd_T33 l0_4 x41_2).f3) t148).f1 = true) then (j2 k2 a1 a2 l3 l0_4 (l0_4.length : Int) x41_2 false a0_0 l0_1 l0_2 l0_3 l0_4) else (j2 k2 a1 a2 l3 l0_4 (l0_4.length : Int) x41_2 (t153 != a2) a0_0 l0_1 l0_2 l0_3 l0_4))))) else (none))) else (none)) else (none)))) = some r := H
         have A27 := Aside0.mk A270
         clear A270
         by_cases c28 : (t138 != (decide (t148 ≥ 0))) = true
         ·
          rw [if_pos c28] at H
          exact absurd H (by simp)
         ·
          rw [if_neg c28] at H
          have c28b0 : (t138 != (decide (t148 ≥ 0))) = false := by simpa using c28
          have c28b0g : (t138 != decide (0 ≤ t148)) = false := c28b0
          have c28b0h : (t138 == decide (0 ≤ t148)) = true := bne_f c28b0
          (try (have c28b1 : decide (t138 = (decide (t148 ≥ 0))) = true := by simpa using c28))
          (try (have c28b2 : (t138 == (decide (t148 ≥ 0))) = true := by simpa using c28))
          clear c28
          by_cases c29 : t148 < 0
          ·
           rw [if_pos c29] at H
           have c29b0 : decide (t148 < 0) = true := decide_eq_true c29
           clear c29
           by_cases c30 : (t149.length : Int) = 0
           ·
            rw [if_pos c30] at H
            have c30b0 : ((t149.length : Int) == 0) = true := beq_iff_eq.mpr c30
            have c30b1 : ((t149.length : Int) != 0) = false := bne_eq_false_iff_eq.mpr c30
            clear c30
            by_cases c31 : t152 = true
            ·
             subst c31
             have H1 : (none) = some r := by rw [if_pos rfl] at H; exact H
             clear H
             have H := H1
             clear H1
             exact absurd H (by simp)
            ·
             replace c31 := Bool.eq_false_iff.mpr c31
             subst c31
             have H1 : (if t153 = a2 then (if t132.toList = ([] : List UInt8) then (l0 k2 a1 a2 l3 l0_4 (l0_4.length : Int) (wrap64 (x41_2 + 1)) a0_0 l0_1 l0_2 l0_3 l0_4) else (none)) else (none)) = some r := by rw [if_neg (show ¬ (false = true) by decide)] at H; exact H
             clear H
             have H := H1
             clear H1
             by_cases c32 : t153 = a2
             ·
              rw [if_pos c32] at H
              have c32b0 : (t153 == a2) = true := beq_iff_eq.mpr c32
              have c32b1 : (t153 != a2) = false := bne_eq_false_iff_eq.mpr c32
              clear c32
              by_cases c33 : t132.toList = ([] : List UInt8)
              ·
               rw [if_pos c33] at H
               have c33b0 : (t132.toList == ([] : List UInt8)) = true := beq_iff_eq.mpr c33
               have c33b1 : (t132.toList != ([] : List UInt8)) = false := bne_eq_false_iff_eq.mpr c33
               clear c33
               have H' := Aside0.mk H
               clear H
               have p130 : 0 ≤ (x41_2 : Int) := of_decide_eq_true (by first | (with_reducible assumption) | assumption)
               have q130 : x41_2 < (l0_4.length : Int) := of_decide_eq_true (by first | (with_reducible assumption) | assumption)
               obtain ⟨ad130, A130_1, c130_1, A130_3, c130_3, e130, hx130_0, hx130_1, hx130_2, hx130_3, hl130_1, hi130_1, hl130_3, hi130_3⟩ := at_T33 HR0_4.out x41_2 p130 q130
               cases e130
               replace hx130_0 := (HB.out.cell (World.block_lt_of_cell? w _ hx130_0)).trans hx130_0
               replace hx130_1 := (HB.out.cell (World.block_lt_of_cell? w _ hx130_1)).trans hx130_1
               replace hx130_2 := (HB.out.cell (World.block_lt_of_cell? w _ hx130_2)).trans hx130_2
               replace hx130_3 := (HB.out.cell (World.block_lt_of_cell? w _ hx130_3)).trans hx130_3
               have HR130_1 := Aside0.mk hi130_1
               have HC130_1 := Aside0.mk hl130_1
               clear hi130_1 hl130_1
               have HR130_3 := Aside0.mk hi130_3
               have HC130_3 := Aside0.mk hl130_3
               clear hi130_3 hl130_3
               replace p130 := eq_true p130
               replace q130 := eq_true q130
               go_wp2_with (first | ((with_reducible refine gate_dst (N := 10) rfl ?_); (try (refine gate_guard (by rfl) ?_; dsimp only)); refine box_event ?hg (N := 10) ?hd (cs := #[.string (⟨#[]⟩ : ByteArray), .slice none 0 0, .string (⟨#[]⟩ : ByteArray), .slice none 0 0]) (t := 33) ?hr ?_; (case hd => rfl); (case hg => rfl); (case hr => first | (go_simp; done) | (go_simp; rfl)); intro gb131 hg w34 hbox hb; have n0_ := A0 (blk_below (g := gb101) (bkA BK101) hb); have n1_ := A0 (below_step (hbA HB) hb); have n2_ := A0 (hbox); have n3_ := A0 ((by rw [hg]; exact (below_size (hbA HB)) : w.heap.size ≤ gb131)); have n4_ := A0 ((by rw [hg]; exact (below_size (hbA HB)) : w.heap.size ≤ gb131)); have n5_ := A0 ((by rw [hg]; exact Nat.ne_of_lt (blk_lt (g := gb101) (bkA BK101)) : gb101 ≠ gb131)); have n6_ := A0 ((by rw [hg]; exact Nat.ne_of_gt (blk_lt (g := gb101) (bkA BK101)) : gb131 ≠ gb101)); clear BK101; clear HB; have BK101 := n0_; have HB := n1_; have BK131 := n2_; have GW131 := n3_; have GE131 := n4_; have NB101_131 := n5_; have NB131_101 := n6_; clear n0_ n1_ n2_ n3_ n4_ n5_ n6_; clear hb hbox hg; have hnb35 := NB131_101.out; have hnc35 := NB101_131.out; have hcz36_0 : w34.cell? ⟨gb131, 0, none⟩ = some (.string (⟨#[]⟩ : ByteArray)) := bcA BK131 0; have hcz36_1 : w34.cell? ⟨gb131, 1, none⟩ = some (.slice none 0 0) := bcA BK131 1; have hcz36_2 : w34.cell? ⟨gb131, 2, none⟩ = some (.string (⟨#[]⟩ : ByteArray)) := bcA BK131 2; have hcz36_3 : w34.cell? ⟨gb131, 3, none⟩ = some (.slice none 0 0) := bcA BK131 3; have hfz36_0 := blk_frozen BK131.out 0; have hfz36_1 := blk_frozen BK131.out 1; have hfz36_2 := blk_frozen BK131.out 2; have hfz36_3 := blk_frozen BK131.out 3) | ((with_reducible refine gate_store (t := 33) (p := 10) rfl ?_); refine store_event (t := 33) (p := 10) (v := ?vo_w37) (w1 := ((((w34.setCell ⟨gb131, 0, none⟩ (.string ((rd_T33 l0_4 x41_2).f0))).setCell ⟨gb131, 1, none⟩ (.slice A130_1 ((rd_T33 l0_4 x41_2).f1).length c130_1)).setCell ⟨gb131, 2, none⟩ (.string ((rd_T33 l0_4 x41_2).f2))).setCell ⟨gb131, 3, none⟩ (.slice A130_3 ((rd_T33 l0_4 x41_2).f3).length c130_3))) ?hg ?ho ?hn ?hr ?_; (case ho => rfl); (case hg => rfl); (case hn => rfl); (case hr => first | (go_simp; done) | (go_simp; rfl)); intro w37 hw; have n0_ : Aside0 (w37.heap[gb101]? = some (.cells #[.int .i64 a0_0, .slice A0_1 l0_1.length c0_1, .slice A0_2 l0_2.length c0_2, .slice A0_3 l0_3.length c0_3, .slice (some ad130) l0_4.length c0_4] 26 (0, 0))) := ⟨(by rw [hw]; exact (bkG BK101 NB101_131))⟩; have n1_ : Aside0 (w37.heap[gb131]? = some (.cells #[.string ((rd_T33 l0_4 x41_2).f0), .slice A130_1 ((rd_T33 l0_4 x41_2).f1).length c130_1, .string ((rd_T33 l0_4 x41_2).f2), .slice A130_3 ((rd_T33 l0_4 x41_2).f3).length c130_3] 33 (0, 0))) := ⟨(by rw [hw]; exact (by (with_reducible repeat first | apply blk_drewN | apply blk_drew | apply blk_alloc); refine blk_put (cs := #[.string ((rd_T33 l0_4 x41_2).f0), .slice A130_1 ((rd_T33 l0_4 x41_2).f1).length c130_1, .string ((rd_T33 l0_4 x41_2).f2), .slice none 0 0]) ?_ 3 _ rfl; (with_reducible repeat first | apply blk_drewN | apply blk_drew | apply blk_alloc); refine blk_put (cs := #[.string ((rd_T33 l0_4 x41_2).f0), .slice A130_1 ((rd_T33 l0_4 x41_2).f1).length c130_1, .string (⟨#[]⟩ : ByteArray), .slice none 0 0]) ?_ 2 _ rfl; (with_reducible repeat first | apply blk_drewN | apply blk_drew | apply blk_alloc); refine blk_put (cs := #[.string ((rd_T33 l0_4 x41_2).f0), .slice none 0 0, .string (⟨#[]⟩ : ByteArray), .slice none 0 0]) ?_ 1 _ rfl; (with_reducible repeat first | apply blk_drewN | apply blk_drew | apply blk_alloc); refine blk_put (cs := #[.string (⟨#[]⟩ : ByteArray), .slice none 0 0, .string (⟨#[]⟩ : ByteArray), .slice none 0 0]) ?_ 0 _ rfl; (with_reducible repeat first | apply blk_drewN | apply blk_drew | apply blk_alloc); exact BK131.out))⟩; have n2_ : Aside0 (Below w.heap.size w w37) := ⟨(by rw [hw]; exact (hbA HB))⟩; clear hw; clear BK101; clear BK131; clear HB; have BK101 := n0_; have BK131 := n1_; have HB := n2_; clear n0_ n1_ n2_; have hcz38_0 : w37.cell? ⟨gb131, 0, none⟩ = some (.string ((rd_T33 l0_4 x41_2).f0)) := bcA BK131 0; have hcz38_1 : w37.cell? ⟨gb131, 1, none⟩ = some (.slice A130_1 ((rd_T33 l0_4 x41_2).f1).length c130_1) := bcA BK131 1; have hcz38_2 : w37.cell? ⟨gb131, 2, none⟩ = some (.string ((rd_T33 l0_4 x41_2).f2)) := bcA BK131 2; have hcz38_3 : w37.cell? ⟨gb131, 3, none⟩ = some (.slice A130_3 ((rd_T33 l0_4 x41_2).f3).length c130_3) := bcA BK131 3; have hfz38_0 := blk_frozen BK131.out 0; have hfz38_1 := blk_frozen BK131.out 1; have hfz38_2 := blk_frozen BK131.out 2; have hfz38_3 := blk_frozen BK131.out 3) | ((with_reducible refine gate_callee (f := 9) rfl ?_); refine goesL_ (some 48) rfl rfl Try.func9 (by kernel_rfl) rfl #[.agg #[.string ((rd_T33 l0_4 x41_2).f0), .slice A130_1 ((rd_T33 l0_4 x41_2).f1).length c130_1, .string ((rd_T33 l0_4 x41_2).f2), .slice A130_3 ((rd_T33 l0_4 x41_2).f3).length c130_3], .string a1] rfl (by (try simp only [List.map_toArray, List.map_cons, List.map_nil]); first | done | rfl | (simp only [List.length_drop, List.length_take]; rfl)) ?_; (with_reducible refine (model_Node_Attr.calls ((rd_T33 l0_4 x41_2).f0) _ _ ((rd_T33 l0_4 x41_2).f1) ((rd_T33 l0_4 x41_2).f2) (fun k_ => k_ < w.heap.size) _ _ ((rd_T33 l0_4 x41_2).f3) a1 t132 t133 t134 t135 t138 _ ?side1 ?side2 ?side3 A23.out).mono ?_); (case side1 => ((repeat first | (with_reducible refine Kd.C_alloc ?_ _) | (with_reducible refine Kd.C_drewN ?_ _) | (with_reducible refine Kd.C_drew ?_)); exact (Kd.C_below HR130_1.out HB.out))); (case side2 => exact HC130_1.out); (case side3 => exact Kd.V_mk HC130_3.out (Kd.F_below (Kd.C_F k35_heap HR130_3.out) (hbA HB))); rintro e w39 ⟨v136, rfl, ho0, hb⟩; refine ⟨_, rfl, ?_⟩; have n0_ := A0 (Kd.V_lower (Kd.V_mono (ok' := fun k_ => k_ ≠ gb101 ∧ k_ ≠ gb131) ho0 (fun k_ hk_ => ⟨Or.elim hk_ (nleG GW101) (fun hn_ => (Kd.freshB (g := gb101) (bkA BK101) k_ hn_)), Or.elim hk_ (nleG GW131) (fun hn_ => (Kd.freshB (g := gb131) (bkA BK131) k_ hn_))⟩)) (below_size (hbA HB))); have n1_ := A0 (blk_below (g := gb101) (bkA BK101) hb); have n2_ := A0 (blk_below (g := gb131) (bkA BK131) hb); have n3_ := A0 (below_step (hbA HB) hb); clear BK101; clear BK131; clear HB; have HO137 := n0_; have BK101 := n1_; have BK131 := n2_; have HB := n3_; clear n0_ n1_ n2_ n3_; (try clear hb); (try clear hb2); (try clear hk); (try clear hi); (try clear ho0)) | ((with_reducible refine gate_dst (N := 11) rfl ?_); (try (refine gate_guard (by rfl) ?_; dsimp only)); refine box_event ?hg (N := 11) ?hd (cs := #[.string (⟨#[]⟩ : ByteArray), .bool false, .int .i64 0, .slice none 0 0]) (t := 35) ?hr ?_; (case hd => rfl); (case hg => rfl); (case hr => first | (go_simp; done) | (go_simp; rfl)); intro gb139 hg w40 hbox hb; have n0_ := A0 (Kd.V_below (Kd.V_elderB (by (with_reducible repeat first | apply Kd.V_alloc | apply Kd.V_drewN | apply Kd.V_drew); exact HO137.out) gb139 (Nat.le_of_eq hg.symm)) hb); have n1_ := A0 (blk_below (g := gb101) (bkA BK101) hb); have n2_ := A0 (blk_below (g := gb131) (bkA BK131) hb); have n3_ := A0 (below_step (hbA HB) hb); have n4_ := A0 (hbox); have n5_ := A0 ((by rw [hg]; exact (below_size (hbA HB)) : w.heap.size ≤ gb139)); have n6_ := A0 ((by rw [hg]; exact (below_size (hbA HB)) : w.heap.size ≤ gb139)); have n7_ := A0 ((by rw [hg]; exact Nat.ne_of_lt (blk_lt (g := gb101) (bkA BK101)) : gb101 ≠ gb139)); have n8_ := A0 ((by rw [hg]; exact Nat.ne_of_gt (blk_lt (g := gb101) (bkA BK101)) : gb139 ≠ gb101)); have n9_ := A0 ((by rw [hg]; exact Nat.ne_of_lt (blk_lt (g := gb131) (bkA BK131)) : gb131 ≠ gb139)); have n10_ := A0 ((by rw [hg]; exact Nat.ne_of_gt (blk_lt (g := gb131) (bkA BK131)) : gb139 ≠ gb131)); clear HO137; clear BK101; clear BK131; clear HB; have HO137 := n0_; have BK101 := n1_; have BK131 := n2_; have HB := n3_; have BK139 := n4_; have GW139 := n5_; have GE139 := n6_; have NB101_139 := n7_; have NB139_101 := n8_; have NB131_139 := n9_; have NB139_131 := n10_; clear n0_ n1_ n2_ n3_ n4_ n5_ n6_ n7_ n8_ n9_ n10_; clear hb hbox hg; have hnb41 := NB139_101.out; have hnc41 := NB101_139.out; have hnb42 := NB139_131.out; have hnc42 := NB131_139.out; have hcz43_0 : w40.cell? ⟨gb139, 0, none⟩ = some (.string (⟨#[]⟩ : ByteArray)) := bcA BK139 0; have hcz43_1 : w40.cell? ⟨gb139, 1, none⟩ = some (.bool false) := bcA BK139 1; have hcz43_2 : w40.cell? ⟨gb139, 2, none⟩ = some (.int .i64 0) := bcA BK139 2; have hcz43_3 : w40.cell? ⟨gb139, 3, none⟩ = some (.slice none 0 0) := bcA BK139 3; have hfz43_0 := blk_frozen BK139.out 0; have hfz43_1 := blk_frozen BK139.out 1; have hfz43_2 := blk_frozen BK139.out 2; have hfz43_3 := blk_frozen BK139.out 3; obtain ⟨Ao44, co44, eo44⟩ := Kd.V_slice HO137.out; subst eo44) | ((with_reducible refine gate_store (t := 35) (p := 11) rfl ?_); refine store_event (t := 35) (p := 11) (v := ?vo_w45) (w1 := ((((w40.setCell ⟨gb139, 0, none⟩ (.string t132)).setCell ⟨gb139, 1, none⟩ (.bool t133)).setCell ⟨gb139, 2, none⟩ (.int .i64 t134)).setCell ⟨gb139, 3, none⟩ (.slice Ao44 t135.length co44))) ?hg ?ho ?hn ?hr ?_; (case ho => rfl); (case hg => rfl); (case hn => rfl); (case hr => first | (go_simp; done) | (go_simp; rfl)); intro w45 hw; have n0_ : Aside0 (Kd.V (Kd.int .i64) 2 w45 w.heap.size (fun k_ => k_ ≠ gb101 ∧ k_ ≠ gb131 ∧ k_ ≠ gb139) (.slice Ao44 t135.length co44) t135) := ⟨(by rw [hw]; exact (by (with_reducible repeat first | apply Kd.V_alloc | apply Kd.V_drewN | apply Kd.V_drew); exact Kd.V_mono (Kd.V_far (p := ⟨gb139, 3, none⟩) (Kd.V_far (p := ⟨gb139, 2, none⟩) (Kd.V_far (p := ⟨gb139, 1, none⟩) (Kd.V_far (p := ⟨gb139, 0, none⟩) (Kd.V_mono HO137.out (fun k_ hk => (⟨hk, hk.2⟩ : _ ∧ k_ ≠ gb139))) (fun _ hk => hk.2) (.string t132)) (fun _ hk => hk.2) (.bool t133)) (fun _ hk => hk.2) (.int .i64 t134)) (fun _ hk => hk.2) (.slice Ao44 t135.length co44)) (fun _ hk => ⟨hk.1.1.1, ⟨hk.1.1.2, hk.1.2⟩⟩)))⟩; have n1_ : Aside0 (w45.heap[gb101]? = some (.cells #[.int .i64 a0_0, .slice A0_1 l0_1.length c0_1, .slice A0_2 l0_2.length c0_2, .slice A0_3 l0_3.length c0_3, .slice (some ad130) l0_4.length c0_4] 26 (0, 0))) := ⟨(by rw [hw]; exact (bkG BK101 NB101_139))⟩; have n2_ : Aside0 (w45.heap[gb131]? = some (.cells #[.string ((rd_T33 l0_4 x41_2).f0), .slice A130_1 ((rd_T33 l0_4 x41_2).f1).length c130_1, .string ((rd_T33 l0_4 x41_2).f2), .slice A130_3 ((rd_T33 l0_4 x41_2).f3).length c130_3] 33 (0, 0))) := ⟨(by rw [hw]; exact (bkG BK131 NB131_139))⟩; have n3_ : Aside0 (w45.heap[gb139]? = some (.cells #[.string t132, .bool t133, .int .i64 t134, .slice Ao44 t135.length co44] 35 (0, 0))) := ⟨(by rw [hw]; exact (by (with_reducible repeat first | apply blk_drewN | apply blk_drew | apply blk_alloc); refine blk_put (cs := #[.string t132, .bool t133, .int .i64 t134, .slice none 0 0]) ?_ 3 _ rfl; (with_reducible repeat first | apply blk_drewN | apply blk_drew | apply blk_alloc); refine blk_put (cs := #[.string t132, .bool t133, .int .i64 0, .slice none 0 0]) ?_ 2 _ rfl; (with_reducible repeat first | apply blk_drewN | apply blk_drew | apply blk_alloc); refine blk_put (cs := #[.string t132, .bool false, .int .i64 0, .slice none 0 0]) ?_ 1 _ rfl; (with_reducible repeat first | apply blk_drewN | apply blk_drew | apply blk_alloc); refine blk_put (cs := #[.string (⟨#[]⟩ : ByteArray), .bool false, .int .i64 0, .slice none 0 0]) ?_ 0 _ rfl; (with_reducible repeat first | apply blk_drewN | apply blk_drew | apply blk_alloc); exact BK139.out))⟩; have n4_ : Aside0 (Below w.heap.size w w45) := ⟨(by rw [hw]; exact (hbA HB))⟩; clear hw; clear HO137; clear BK101; clear BK131; clear BK139; clear HB; have HO137 := n0_; have BK101 := n1_; have BK131 := n2_; have BK139 := n3_; have HB := n4_; clear n0_ n1_ n2_ n3_ n4_; have hcz46_0 : w45.cell? ⟨gb131, 0, none⟩ = some (.string ((rd_T33 l0_4 x41_2).f0)) := bcA BK131 0; have hcz46_1 : w45.cell? ⟨gb131, 1, none⟩ = some (.slice A130_1 ((rd_T33 l0_4 x41_2).f1).length c130_1) := bcA BK131 1; have hcz46_2 : w45.cell? ⟨gb131, 2, none⟩ = some (.string ((rd_T33 l0_4 x41_2).f2)) := bcA BK131 2; have hcz46_3 : w45.cell? ⟨gb131, 3, none⟩ = some (.slice A130_3 ((rd_T33 l0_4 x41_2).f3).length c130_3) := bcA BK131 3; have hfz46_0 := blk_frozen BK131.out 0; have hfz46_1 := blk_frozen BK131.out 1; have hfz46_2 := blk_frozen BK131.out 2; have hfz46_3 := blk_frozen BK131.out 3) | ((with_reducible refine gate_callee (f := 11) rfl ?_); refine goesL_ (some 52) rfl rfl Try.func11 (by kernel_rfl) rfl #[.agg #[.string ((rd_T33 l0_4 x41_2).f0), .slice A130_1 ((rd_T33 l0_4 x41_2).f1).length c130_1, .string ((rd_T33 l0_4 x41_2).f2), .slice A130_3 ((rd_T33 l0_4 x41_2).f3).length c130_3]] rfl (by (try simp only [List.map_toArray, List.map_cons, List.map_nil]); first | done | rfl | (simp only [List.length_drop, List.length_take]; rfl)) ?_; (with_reducible refine (agatelaw10_Node.calls k2 ((rd_T33 l0_4 x41_2).f0) (fun k_ => k_ < w.heap.size) _ _ ((rd_T33 l0_4 x41_2).f1) ((rd_T33 l0_4 x41_2).f2) (fun k_ => k_ < w.heap.size) _ _ ((rd_T33 l0_4 x41_2).f3) t140 t141 t144 t145 _ ?side1 ?side2 A24.out).mono ?_); (case side1 => exact Kd.V_mk HC130_1.out (Kd.F_below (Kd.C_F Kd.heap_string HR130_1.out) (hbA HB))); (case side2 => exact Kd.V_mk HC130_3.out (Kd.F_below (Kd.C_F k35_heap HR130_3.out) (hbA HB))); rintro e w47 ⟨v142, v146, rfl, ho0, ho1, hb⟩; refine ⟨_, rfl, ?_⟩; have n0_ := A0 (Kd.V_elder' (by (with_reducible repeat first | apply Kd.V_alloc | apply Kd.V_drewN | apply Kd.V_drew); exact HO137.out) (Kd.N_base ho1) hb); have n1_ := A0 (Kd.V_lower (Kd.V_mono (ok' := fun k_ => some k_ ≠ (v146 : Value).ownBlock ∧ k_ ≠ gb101 ∧ k_ ≠ gb131 ∧ k_ ≠ gb139) ho0 (fun k_ hk_ => ⟨hk_.2, Or.elim hk_.1 (fun hs_ => Or.elim hs_ (nleG GW101) (nleG GW101)) (fun hn_ => (Kd.freshB (g := gb101) (bkA BK101) k_ hn_)), Or.elim hk_.1 (fun hs_ => Or.elim hs_ (nleG GW131) (nleG GW131)) (fun hn_ => (Kd.freshB (g := gb131) (bkA BK131) k_ hn_)), Or.elim hk_.1 (fun hs_ => Or.elim hs_ (nleG GW139) (nleG GW139)) (fun hn_ => (Kd.freshB (g := gb139) (bkA BK139) k_ hn_))⟩)) (below_size (hbA HB))); have n2_ := A0 (Kd.N_lower (Kd.N_mono (ok' := fun k_ => k_ ≠ gb101 ∧ k_ ≠ gb131 ∧ k_ ≠ gb139) ho1 (fun k_ hk_ => ⟨Or.elim hk_ (fun hs_ => Or.elim hs_ (nleG GW101) (nleG GW101)) (fun hn_ => (Kd.freshB (g := gb101) (bkA BK101) k_ hn_)), Or.elim hk_ (fun hs_ => Or.elim hs_ (nleG GW131) (nleG GW131)) (fun hn_ => (Kd.freshB (g := gb131) (bkA BK131) k_ hn_)), Or.elim hk_ (fun hs_ => Or.elim hs_ (nleG GW139) (nleG GW139)) (fun hn_ => (Kd.freshB (g := gb139) (bkA BK139) k_ hn_))⟩)) (below_size (hbA HB))); have n3_ := A0 (blk_below (g := gb101) (bkA BK101) hb); have n4_ := A0 (blk_below (g := gb131) (bkA BK131) hb); have n5_ := A0 (blk_below (g := gb139) (bkA BK139) hb); have n6_ := A0 (below_step (hbA HB) hb); clear HO137; clear BK101; clear BK131; clear BK139; clear HB; have HO137 := n0_; have HO143 := n1_; have HO147 := n2_; have BK101 := n3_; have BK131 := n4_; have BK139 := n5_; have HB := n6_; clear n0_ n1_ n2_ n3_ n4_ n5_ n6_; (try clear hb); (try clear hb2); (try clear hk); (try clear hi); (try clear ho0); (try clear ho1); obtain ⟨Ao48, co48, eo48⟩ := Kd.N_slice HO147.out; subst eo48) | ((with_reducible refine gate_callee (f := 10) rfl ?_); refine goesL_ (some 55) rfl rfl Try.func10 (by kernel_rfl) rfl #[.slice Ao48 t145.length co48, .string a1] rfl (by (try simp only [List.map_toArray, List.map_cons, List.map_nil]); first | done | rfl | (simp only [List.length_drop, List.length_take]; rfl)) ?_; (with_reducible refine (agateref10_Find.calls k2 _ _ t145 a1 t148 _ ?side1 ?side2 A25.out).mono ?_); (case side1 => ((repeat first | (with_reducible refine Kd.C_alloc ?_ _) | (with_reducible refine Kd.C_drewN ?_ _) | (with_reducible refine Kd.C_drew ?_)); exact (Kd.N_reads' HO147.out).2.2)); (case side2 => exact (Kd.N_reads' HO147.out).2.1); rintro e w' ⟨rfl, ⟨nd, rfl⟩⟩; refine ⟨_, rfl, ?_⟩; have hcz49_0 : w47.cell? ⟨gb131, 0, none⟩ = some (.string ((rd_T33 l0_4 x41_2).f0)) := bcA BK131 0; have hcz49_1 : w47.cell? ⟨gb131, 1, none⟩ = some (.slice A130_1 ((rd_T33 l0_4 x41_2).f1).length c130_1) := bcA BK131 1; have hcz49_2 : w47.cell? ⟨gb131, 2, none⟩ = some (.string ((rd_T33 l0_4 x41_2).f2)) := bcA BK131 2; have hcz49_3 : w47.cell? ⟨gb131, 3, none⟩ = some (.slice A130_3 ((rd_T33 l0_4 x41_2).f3).length c130_3) := bcA BK131 3; have hfz49_0 := blk_frozen BK131.out 0; have hfz49_1 := blk_frozen BK131.out 1; have hfz49_2 := blk_frozen BK131.out 2; have hfz49_3 := blk_frozen BK131.out 3) | ((with_reducible refine gate_callee (f := 12) rfl ?_); refine goesL_ (some 59) rfl rfl Try.func12 (by kernel_rfl) rfl #[.agg #[.string ((rd_T33 l0_4 x41_2).f0), .slice A130_1 ((rd_T33 l0_4 x41_2).f1).length c130_1, .string ((rd_T33 l0_4 x41_2).f2), .slice A130_3 ((rd_T33 l0_4 x41_2).f3).length c130_3], .string a1] rfl (by (try simp only [List.map_toArray, List.map_cons, List.map_nil]); first | done | rfl | (simp only [List.length_drop, List.length_take]; rfl)) ?_; (with_reducible refine (model_Node_Row.calls ((rd_T33 l0_4 x41_2).f0) _ _ ((rd_T33 l0_4 x41_2).f1) ((rd_T33 l0_4 x41_2).f2) _ _ ((rd_T33 l0_4 x41_2).f3) a1 t149 false _ ?side1 ?side2 ?side3 ?side4 A26.out).mono ?_); (case side1 => ((repeat first | (with_reducible refine Kd.C_alloc ?_ _) | (with_reducible refine Kd.C_drewN ?_ _) | (with_reducible refine Kd.C_drew ?_)); exact (Kd.C_below HR130_1.out (hbA HB)))); (case side2 => exact HC130_1.out); (case side3 => ((repeat first | (with_reducible refine Kd.C_alloc ?_ _) | (with_reducible refine Kd.C_drewN ?_ _) | (with_reducible refine Kd.C_drew ?_)); exact (Kd.C_below HR130_3.out (hbA HB)))); (case side4 => exact HC130_3.out); rintro e w50 ⟨v150, rfl, ho0, hb⟩; refine ⟨_, rfl, ?_⟩; have n0_ := A0 (Kd.V_elder' (by (with_reducible repeat first | apply Kd.V_alloc | apply Kd.V_drewN | apply Kd.V_drew); exact HO137.out) (Kd.R_base ho0) hb); have n1_ := A0 (Kd.V_elder' (by (with_reducible repeat first | apply Kd.V_alloc | apply Kd.V_drewN | apply Kd.V_drew); exact HO143.out) (Kd.R_base ho0) hb); have n2_ := A0 (Kd.N_elder' (by (with_reducible repeat first | apply Kd.N_alloc | apply Kd.N_drewN | apply Kd.N_drew); exact HO147.out) (Kd.R_base ho0) hb); have n3_ := A0 (Kd.R_lower ho0 (below_size (hbA HB))); have n4_ := A0 (blk_below (g := gb101) (bkA BK101) hb); have n5_ := A0 (blk_below (g := gb131) (bkA BK131) hb); have n6_ := A0 (blk_below (g := gb139) (bkA BK139) hb); have n7_ := A0 (below_step (hbA HB) hb); clear HO137; clear HO143; clear HO147; clear BK101; clear BK131; clear BK139; clear HB; have HO137 := n0_; have HO143 := n1_; have HO147 := n2_; have HO151 := n3_; have BK101 := n4_; have BK131 := n5_; have BK139 := n6_; have HB := n7_; clear n0_ n1_ n2_ n3_ n4_ n5_ n6_ n7_; (try clear hb); (try clear hb2); (try clear hk); (try clear hi); (try clear ho0); have hcz51_0 : w50.cell? ⟨gb131, 0, none⟩ = some (.string ((rd_T33 l0_4 x41_2).f0)) := bcA BK131 0; have hcz51_1 : w50.cell? ⟨gb131, 1, none⟩ = some (.slice A130_1 ((rd_T33 l0_4 x41_2).f1).length c130_1) := bcA BK131 1; have hcz51_2 : w50.cell? ⟨gb131, 2, none⟩ = some (.string ((rd_T33 l0_4 x41_2).f2)) := bcA BK131 2; have hcz51_3 : w50.cell? ⟨gb131, 3, none⟩ = some (.slice A130_3 ((rd_T33 l0_4 x41_2).f3).length c130_3) := bcA BK131 3; have hfz51_0 := blk_frozen BK131.out 0; have hfz51_1 := blk_frozen BK131.out 1; have hfz51_2 := blk_frozen BK131.out 2; have hfz51_3 := blk_frozen BK131.out 3) | ((with_reducible refine gate_callee (f := 13) rfl ?_); refine goesL_ (some 65) rfl rfl Try.func13 (by kernel_rfl) rfl #[.agg #[.string ((rd_T33 l0_4 x41_2).f0), .slice A130_1 ((rd_T33 l0_4 x41_2).f1).length c130_1, .string ((rd_T33 l0_4 x41_2).f2), .slice A130_3 ((rd_T33 l0_4 x41_2).f3).length c130_3], .string a1, .int .i64 a2] rfl (by (try simp only [List.map_toArray, List.map_cons, List.map_nil]); first | done | rfl | (simp only [List.length_drop, List.length_take]; rfl)) ?_; (with_reducible refine (model_Node_One.calls ((rd_T33 l0_4 x41_2).f0) _ _ ((rd_T33 l0_4 x41_2).f1) ((rd_T33 l0_4 x41_2).f2) _ _ ((rd_T33 l0_4 x41_2).f3) a1 a2 t153 _ ?side1 ?side2 ?side3 ?side4 A27.out).mono ?_); (case side1 => ((repeat first | (with_reducible refine Kd.C_alloc ?_ _) | (with_reducible refine Kd.C_drewN ?_ _) | (with_reducible refine Kd.C_drew ?_)); exact (Kd.C_below HR130_1.out HB.out))); (case side2 => exact HC130_1.out); (case side3 => ((repeat first | (with_reducible refine Kd.C_alloc ?_ _) | (with_reducible refine Kd.C_drewN ?_ _) | (with_reducible refine Kd.C_drew ?_)); exact (Kd.C_below HR130_3.out HB.out))); (case side4 => exact HC130_3.out); rintro e w52 ⟨rfl, hb⟩; refine ⟨_, rfl, ?_⟩; have n0_ := A0 (Kd.V_below (by (with_reducible repeat first | apply Kd.V_alloc | apply Kd.V_drewN | apply Kd.V_drew); exact HO137.out) hb); have n1_ := A0 (Kd.V_below (by (with_reducible repeat first | apply Kd.V_alloc | apply Kd.V_drewN | apply Kd.V_drew); exact HO143.out) hb); have n2_ := A0 (Kd.N_below (by (with_reducible repeat first | apply Kd.N_alloc | apply Kd.N_drewN | apply Kd.N_drew); exact HO147.out) hb); have n3_ := A0 (Kd.R_below (krA HO151) hb); have n4_ := A0 (blk_below (g := gb101) (bkA BK101) hb); have n5_ := A0 (blk_below (g := gb131) (bkA BK131) hb); have n6_ := A0 (blk_below (g := gb139) (bkA BK139) hb); have n7_ := A0 (below_step (hbA HB) hb); clear HO137; clear HO143; clear HO147; clear HO151; clear BK101; clear BK131; clear BK139; clear HB; have HO137 := n0_; have HO143 := n1_; have HO147 := n2_; have HO151 := n3_; have BK101 := n4_; have BK131 := n5_; have BK139 := n6_; have HB := n7_; clear n0_ n1_ n2_ n3_ n4_ n5_ n6_ n7_; (try clear hb); (try clear hb2); (try clear hk); (try clear hi); obtain ⟨Ao53, co53, eo53⟩ := Kd.R_slice HO151.out; subst eo53; have hcz54_0 : w52.cell? ⟨gb139, 0, none⟩ = some (.string t132) := bcA BK139 0; have hcz54_1 : w52.cell? ⟨gb139, 1, none⟩ = some (.bool t133) := bcA BK139 1; have hcz54_2 : w52.cell? ⟨gb139, 2, none⟩ = some (.int .i64 t134) := bcA BK139 2; have hcz54_3 : w52.cell? ⟨gb139, 3, none⟩ = some (.slice Ao44 t135.length co44) := bcA BK139 3; have hfz54_0 := blk_frozen BK139.out 0; have hfz54_1 := blk_frozen BK139.out 1; have hfz54_2 := blk_frozen BK139.out 2; have hfz54_3 := blk_frozen BK139.out 3))
               go_roundg k2
               case measure => have := HJ4.out; have := HK2.out; omega
               case rel => exact ⟨(wrap64 (x41_2 + 1)), (by first | rfl | (simp; done) | (simp [*]; done)), H', ⟨by have := HJ4.out; have := HK2.out; omega⟩, ⟨bkA BK101⟩, ⟨hbA HB⟩⟩
              ·
               rw [if_neg c33] at H
               exact absurd H (by simp)
             ·
              rw [if_neg c32] at H
              exact absurd H (by simp)
           ·
            rw [if_neg c30] at H
            exact absurd H (by simp)
          ·
           rw [if_neg c29] at H
           have c29b0 : decide (t148 < 0) = false := decide_eq_false c29
           clear c29
           by_cases c55 : 0 ≤ t148
           ·
            rw [if_pos c55] at H
            have c55b0 : decide (0 ≤ t148) = true := decide_eq_true c55
            have c55t : t138 = true := by have h_ := c28b0h; rw [c55b0] at h_; simpa using h_
            clear c55
            by_cases c56 : t148 < (((rd_T33 l0_4 x41_2).f3).length : Int)
            ·
             rw [if_pos c56] at H
             have c56b0 : decide (t148 < (((rd_T33 l0_4 x41_2).f3).length : Int)) = true := decide_eq_true c56
             clear c56
             have HC57 := Aside0.mk H
             clear H
             have p130 : 0 ≤ (x41_2 : Int) := of_decide_eq_true (by first | (with_reducible assumption) | assumption)
             have q130 : x41_2 < (l0_4.length : Int) := of_decide_eq_true (by first | (with_reducible assumption) | assumption)
             obtain ⟨ad130, A130_1, c130_1, A130_3, c130_3, e130, hx130_0, hx130_1, hx130_2, hx130_3, hl130_1, hi130_1, hl130_3, hi130_3⟩ := at_T33 HR0_4.out x41_2 p130 q130
             cases e130
             replace hx130_0 := (HB.out.cell (World.block_lt_of_cell? w _ hx130_0)).trans hx130_0
             replace hx130_1 := (HB.out.cell (World.block_lt_of_cell? w _ hx130_1)).trans hx130_1
             replace hx130_2 := (HB.out.cell (World.block_lt_of_cell? w _ hx130_2)).trans hx130_2
             replace hx130_3 := (HB.out.cell (World.block_lt_of_cell? w _ hx130_3)).trans hx130_3
             have HR130_1 := Aside0.mk hi130_1
             have HC130_1 := Aside0.mk hl130_1
             clear hi130_1 hl130_1
             have HR130_3 := Aside0.mk hi130_3
             have HC130_3 := Aside0.mk hl130_3
             clear hi130_3 hl130_3
             replace p130 := eq_true p130
             replace q130 := eq_true q130
             go_upto_region 16 with (first | ((with_reducible refine gate_dst (N := 10) rfl ?_); (try (refine gate_guard (by rfl) ?_; dsimp only)); refine box_event ?hg (N := 10) ?hd (cs := #[.string (⟨#[]⟩ : ByteArray), .slice none 0 0, .string (⟨#[]⟩ : ByteArray), .slice none 0 0]) (t := 33) ?hr ?_; (case hd => rfl); (case hg => rfl); (case hr => first | (go_simp; done) | (go_simp; rfl)); intro gb131 hg w58 hbox hb; have n0_ := A0 (blk_below (g := gb101) (bkA BK101) hb); have n1_ := A0 (below_step (hbA HB) hb); have n2_ := A0 (hbox); have n3_ := A0 ((by rw [hg]; exact (below_size (hbA HB)) : w.heap.size ≤ gb131)); have n4_ := A0 ((by rw [hg]; exact (below_size (hbA HB)) : w.heap.size ≤ gb131)); have n5_ := A0 ((by rw [hg]; exact Nat.ne_of_lt (blk_lt (g := gb101) (bkA BK101)) : gb101 ≠ gb131)); have n6_ := A0 ((by rw [hg]; exact Nat.ne_of_gt (blk_lt (g := gb101) (bkA BK101)) : gb131 ≠ gb101)); clear BK101; clear HB; have BK101 := n0_; have HB := n1_; have BK131 := n2_; have GW131 := n3_; have GE131 := n4_; have NB101_131 := n5_; have NB131_101 := n6_; clear n0_ n1_ n2_ n3_ n4_ n5_ n6_; clear hb hbox hg; have hnb59 := NB131_101.out; have hnc59 := NB101_131.out; have hcz60_0 : w58.cell? ⟨gb131, 0, none⟩ = some (.string (⟨#[]⟩ : ByteArray)) := bcA BK131 0; have hcz60_1 : w58.cell? ⟨gb131, 1, none⟩ = some (.slice none 0 0) := bcA BK131 1; have hcz60_2 : w58.cell? ⟨gb131, 2, none⟩ = some (.string (⟨#[]⟩ : ByteArray)) := bcA BK131 2; have hcz60_3 : w58.cell? ⟨gb131, 3, none⟩ = some (.slice none 0 0) := bcA BK131 3; have hfz60_0 := blk_frozen BK131.out 0; have hfz60_1 := blk_frozen BK131.out 1; have hfz60_2 := blk_frozen BK131.out 2; have hfz60_3 := blk_frozen BK131.out 3) | ((with_reducible refine gate_store (t := 33) (p := 10) rfl ?_); refine store_event (t := 33) (p := 10) (v := ?vo_w61) (w1 := ((((w58.setCell ⟨gb131, 0, none⟩ (.string ((rd_T33 l0_4 x41_2).f0))).setCell ⟨gb131, 1, none⟩ (.slice A130_1 ((rd_T33 l0_4 x41_2).f1).length c130_1)).setCell ⟨gb131, 2, none⟩ (.string ((rd_T33 l0_4 x41_2).f2))).setCell ⟨gb131, 3, none⟩ (.slice A130_3 ((rd_T33 l0_4 x41_2).f3).length c130_3))) ?hg ?ho ?hn ?hr ?_; (case ho => rfl); (case hg => rfl); (case hn => rfl); (case hr => first | (go_simp; done) | (go_simp; rfl)); intro w61 hw; have n0_ : Aside0 (w61.heap[gb101]? = some (.cells #[.int .i64 a0_0, .slice A0_1 l0_1.length c0_1, .slice A0_2 l0_2.length c0_2, .slice A0_3 l0_3.length c0_3, .slice (some ad130) l0_4.length c0_4] 26 (0, 0))) := ⟨(by rw [hw]; exact (bkG BK101 NB101_131))⟩; have n1_ : Aside0 (w61.heap[gb131]? = some (.cells #[.string ((rd_T33 l0_4 x41_2).f0), .slice A130_1 ((rd_T33 l0_4 x41_2).f1).length c130_1, .string ((rd_T33 l0_4 x41_2).f2), .slice A130_3 ((rd_T33 l0_4 x41_2).f3).length c130_3] 33 (0, 0))) := ⟨(by rw [hw]; exact (by (with_reducible repeat first | apply blk_drewN | apply blk_drew | apply blk_alloc); refine blk_put (cs := #[.string ((rd_T33 l0_4 x41_2).f0), .slice A130_1 ((rd_T33 l0_4 x41_2).f1).length c130_1, .string ((rd_T33 l0_4 x41_2).f2), .slice none 0 0]) ?_ 3 _ rfl; (with_reducible repeat first | apply blk_drewN | apply blk_drew | apply blk_alloc); refine blk_put (cs := #[.string ((rd_T33 l0_4 x41_2).f0), .slice A130_1 ((rd_T33 l0_4 x41_2).f1).length c130_1, .string (⟨#[]⟩ : ByteArray), .slice none 0 0]) ?_ 2 _ rfl; (with_reducible repeat first | apply blk_drewN | apply blk_drew | apply blk_alloc); refine blk_put (cs := #[.string ((rd_T33 l0_4 x41_2).f0), .slice none 0 0, .string (⟨#[]⟩ : ByteArray), .slice none 0 0]) ?_ 1 _ rfl; (with_reducible repeat first | apply blk_drewN | apply blk_drew | apply blk_alloc); refine blk_put (cs := #[.string (⟨#[]⟩ : ByteArray), .slice none 0 0, .string (⟨#[]⟩ : ByteArray), .slice none 0 0]) ?_ 0 _ rfl; (with_reducible repeat first | apply blk_drewN | apply blk_drew | apply blk_alloc); exact BK131.out))⟩; have n2_ : Aside0 (Below w.heap.size w w61) := ⟨(by rw [hw]; exact (hbA HB))⟩; clear hw; clear BK101; clear BK131; clear HB; have BK101 := n0_; have BK131 := n1_; have HB := n2_; clear n0_ n1_ n2_; have hcz62_0 : w61.cell? ⟨gb131, 0, none⟩ = some (.string ((rd_T33 l0_4 x41_2).f0)) := bcA BK131 0; have hcz62_1 : w61.cell? ⟨gb131, 1, none⟩ = some (.slice A130_1 ((rd_T33 l0_4 x41_2).f1).length c130_1) := bcA BK131 1; have hcz62_2 : w61.cell? ⟨gb131, 2, none⟩ = some (.string ((rd_T33 l0_4 x41_2).f2)) := bcA BK131 2; have hcz62_3 : w61.cell? ⟨gb131, 3, none⟩ = some (.slice A130_3 ((rd_T33 l0_4 x41_2).f3).length c130_3) := bcA BK131 3; have hfz62_0 := blk_frozen BK131.out 0; have hfz62_1 := blk_frozen BK131.out 1; have hfz62_2 := blk_frozen BK131.out 2; have hfz62_3 := blk_frozen BK131.out 3) | ((with_reducible refine gate_callee (f := 9) rfl ?_); refine goesL_ (some 48) rfl rfl Try.func9 (by kernel_rfl) rfl #[.agg #[.string ((rd_T33 l0_4 x41_2).f0), .slice A130_1 ((rd_T33 l0_4 x41_2).f1).length c130_1, .string ((rd_T33 l0_4 x41_2).f2), .slice A130_3 ((rd_T33 l0_4 x41_2).f3).length c130_3], .string a1] rfl (by (try simp only [List.map_toArray, List.map_cons, List.map_nil]); first | done | rfl | (simp only [List.length_drop, List.length_take]; rfl)) ?_; (with_reducible refine (model_Node_Attr.calls ((rd_T33 l0_4 x41_2).f0) _ _ ((rd_T33 l0_4 x41_2).f1) ((rd_T33 l0_4 x41_2).f2) (fun k_ => k_ < w.heap.size) _ _ ((rd_T33 l0_4 x41_2).f3) a1 t132 t133 t134 t135 t138 _ ?side1 ?side2 ?side3 A23.out).mono ?_); (case side1 => ((repeat first | (with_reducible refine Kd.C_alloc ?_ _) | (with_reducible refine Kd.C_drewN ?_ _) | (with_reducible refine Kd.C_drew ?_)); exact (Kd.C_below HR130_1.out HB.out))); (case side2 => exact HC130_1.out); (case side3 => exact Kd.V_mk HC130_3.out (Kd.F_below (Kd.C_F k35_heap HR130_3.out) (hbA HB))); rintro e w63 ⟨v136, rfl, ho0, hb⟩; refine ⟨_, rfl, ?_⟩; have n0_ := A0 (Kd.V_lower (Kd.V_mono (ok' := fun k_ => k_ ≠ gb101 ∧ k_ ≠ gb131) ho0 (fun k_ hk_ => ⟨Or.elim hk_ (nleG GW101) (fun hn_ => (Kd.freshB (g := gb101) (bkA BK101) k_ hn_)), Or.elim hk_ (nleG GW131) (fun hn_ => (Kd.freshB (g := gb131) (bkA BK131) k_ hn_))⟩)) (below_size (hbA HB))); have n1_ := A0 (blk_below (g := gb101) (bkA BK101) hb); have n2_ := A0 (blk_below (g := gb131) (bkA BK131) hb); have n3_ := A0 (below_step (hbA HB) hb); clear BK101; clear BK131; clear HB; have HO137 := n0_; have BK101 := n1_; have BK131 := n2_; have HB := n3_; clear n0_ n1_ n2_ n3_; (try clear hb); (try clear hb2); (try clear hk); (try clear hi); (try clear ho0)) | ((with_reducible refine gate_dst (N := 11) rfl ?_); (try (refine gate_guard (by rfl) ?_; dsimp only)); refine box_event ?hg (N := 11) ?hd (cs := #[.string (⟨#[]⟩ : ByteArray), .bool false, .int .i64 0, .slice none 0 0]) (t := 35) ?hr ?_; (case hd => rfl); (case hg => rfl); (case hr => first | (go_simp; done) | (go_simp; rfl)); intro gb139 hg w64 hbox hb; have n0_ := A0 (Kd.V_below (Kd.V_elderB (by (with_reducible repeat first | apply Kd.V_alloc | apply Kd.V_drewN | apply Kd.V_drew); exact HO137.out) gb139 (Nat.le_of_eq hg.symm)) hb); have n1_ := A0 (blk_below (g := gb101) (bkA BK101) hb); have n2_ := A0 (blk_below (g := gb131) (bkA BK131) hb); have n3_ := A0 (below_step (hbA HB) hb); have n4_ := A0 (hbox); have n5_ := A0 ((by rw [hg]; exact (below_size (hbA HB)) : w.heap.size ≤ gb139)); have n6_ := A0 ((by rw [hg]; exact (below_size (hbA HB)) : w.heap.size ≤ gb139)); have n7_ := A0 ((by rw [hg]; exact Nat.ne_of_lt (blk_lt (g := gb101) (bkA BK101)) : gb101 ≠ gb139)); have n8_ := A0 ((by rw [hg]; exact Nat.ne_of_gt (blk_lt (g := gb101) (bkA BK101)) : gb139 ≠ gb101)); have n9_ := A0 ((by rw [hg]; exact Nat.ne_of_lt (blk_lt (g := gb131) (bkA BK131)) : gb131 ≠ gb139)); have n10_ := A0 ((by rw [hg]; exact Nat.ne_of_gt (blk_lt (g := gb131) (bkA BK131)) : gb139 ≠ gb131)); clear HO137; clear BK101; clear BK131; clear HB; have HO137 := n0_; have BK101 := n1_; have BK131 := n2_; have HB := n3_; have BK139 := n4_; have GW139 := n5_; have GE139 := n6_; have NB101_139 := n7_; have NB139_101 := n8_; have NB131_139 := n9_; have NB139_131 := n10_; clear n0_ n1_ n2_ n3_ n4_ n5_ n6_ n7_ n8_ n9_ n10_; clear hb hbox hg; have hnb65 := NB139_101.out; have hnc65 := NB101_139.out; have hnb66 := NB139_131.out; have hnc66 := NB131_139.out; have hcz67_0 : w64.cell? ⟨gb139, 0, none⟩ = some (.string (⟨#[]⟩ : ByteArray)) := bcA BK139 0; have hcz67_1 : w64.cell? ⟨gb139, 1, none⟩ = some (.bool false) := bcA BK139 1; have hcz67_2 : w64.cell? ⟨gb139, 2, none⟩ = some (.int .i64 0) := bcA BK139 2; have hcz67_3 : w64.cell? ⟨gb139, 3, none⟩ = some (.slice none 0 0) := bcA BK139 3; have hfz67_0 := blk_frozen BK139.out 0; have hfz67_1 := blk_frozen BK139.out 1; have hfz67_2 := blk_frozen BK139.out 2; have hfz67_3 := blk_frozen BK139.out 3; obtain ⟨Ao68, co68, eo68⟩ := Kd.V_slice HO137.out; subst eo68) | ((with_reducible refine gate_store (t := 35) (p := 11) rfl ?_); refine store_event (t := 35) (p := 11) (v := ?vo_w69) (w1 := ((((w64.setCell ⟨gb139, 0, none⟩ (.string t132)).setCell ⟨gb139, 1, none⟩ (.bool t133)).setCell ⟨gb139, 2, none⟩ (.int .i64 t134)).setCell ⟨gb139, 3, none⟩ (.slice Ao68 t135.length co68))) ?hg ?ho ?hn ?hr ?_; (case ho => rfl); (case hg => rfl); (case hn => rfl); (case hr => first | (go_simp; done) | (go_simp; rfl)); intro w69 hw; have n0_ : Aside0 (Kd.V (Kd.int .i64) 2 w69 w.heap.size (fun k_ => k_ ≠ gb101 ∧ k_ ≠ gb131 ∧ k_ ≠ gb139) (.slice Ao68 t135.length co68) t135) := ⟨(by rw [hw]; exact (by (with_reducible repeat first | apply Kd.V_alloc | apply Kd.V_drewN | apply Kd.V_drew); exact Kd.V_mono (Kd.V_far (p := ⟨gb139, 3, none⟩) (Kd.V_far (p := ⟨gb139, 2, none⟩) (Kd.V_far (p := ⟨gb139, 1, none⟩) (Kd.V_far (p := ⟨gb139, 0, none⟩) (Kd.V_mono HO137.out (fun k_ hk => (⟨hk, hk.2⟩ : _ ∧ k_ ≠ gb139))) (fun _ hk => hk.2) (.string t132)) (fun _ hk => hk.2) (.bool t133)) (fun _ hk => hk.2) (.int .i64 t134)) (fun _ hk => hk.2) (.slice Ao68 t135.length co68)) (fun _ hk => ⟨hk.1.1.1, ⟨hk.1.1.2, hk.1.2⟩⟩)))⟩; have n1_ : Aside0 (w69.heap[gb101]? = some (.cells #[.int .i64 a0_0, .slice A0_1 l0_1.length c0_1, .slice A0_2 l0_2.length c0_2, .slice A0_3 l0_3.length c0_3, .slice (some ad130) l0_4.length c0_4] 26 (0, 0))) := ⟨(by rw [hw]; exact (bkG BK101 NB101_139))⟩; have n2_ : Aside0 (w69.heap[gb131]? = some (.cells #[.string ((rd_T33 l0_4 x41_2).f0), .slice A130_1 ((rd_T33 l0_4 x41_2).f1).length c130_1, .string ((rd_T33 l0_4 x41_2).f2), .slice A130_3 ((rd_T33 l0_4 x41_2).f3).length c130_3] 33 (0, 0))) := ⟨(by rw [hw]; exact (bkG BK131 NB131_139))⟩; have n3_ : Aside0 (w69.heap[gb139]? = some (.cells #[.string t132, .bool t133, .int .i64 t134, .slice Ao68 t135.length co68] 35 (0, 0))) := ⟨(by rw [hw]; exact (by (with_reducible repeat first | apply blk_drewN | apply blk_drew | apply blk_alloc); refine blk_put (cs := #[.string t132, .bool t133, .int .i64 t134, .slice none 0 0]) ?_ 3 _ rfl; (with_reducible repeat first | apply blk_drewN | apply blk_drew | apply blk_alloc); refine blk_put (cs := #[.string t132, .bool t133, .int .i64 0, .slice none 0 0]) ?_ 2 _ rfl; (with_reducible repeat first | apply blk_drewN | apply blk_drew | apply blk_alloc); refine blk_put (cs := #[.string t132, .bool false, .int .i64 0, .slice none 0 0]) ?_ 1 _ rfl; (with_reducible repeat first | apply blk_drewN | apply blk_drew | apply blk_alloc); refine blk_put (cs := #[.string (⟨#[]⟩ : ByteArray), .bool false, .int .i64 0, .slice none 0 0]) ?_ 0 _ rfl; (with_reducible repeat first | apply blk_drewN | apply blk_drew | apply blk_alloc); exact BK139.out))⟩; have n4_ : Aside0 (Below w.heap.size w w69) := ⟨(by rw [hw]; exact (hbA HB))⟩; clear hw; clear HO137; clear BK101; clear BK131; clear BK139; clear HB; have HO137 := n0_; have BK101 := n1_; have BK131 := n2_; have BK139 := n3_; have HB := n4_; clear n0_ n1_ n2_ n3_ n4_; have hcz70_0 : w69.cell? ⟨gb131, 0, none⟩ = some (.string ((rd_T33 l0_4 x41_2).f0)) := bcA BK131 0; have hcz70_1 : w69.cell? ⟨gb131, 1, none⟩ = some (.slice A130_1 ((rd_T33 l0_4 x41_2).f1).length c130_1) := bcA BK131 1; have hcz70_2 : w69.cell? ⟨gb131, 2, none⟩ = some (.string ((rd_T33 l0_4 x41_2).f2)) := bcA BK131 2; have hcz70_3 : w69.cell? ⟨gb131, 3, none⟩ = some (.slice A130_3 ((rd_T33 l0_4 x41_2).f3).length c130_3) := bcA BK131 3; have hfz70_0 := blk_frozen BK131.out 0; have hfz70_1 := blk_frozen BK131.out 1; have hfz70_2 := blk_frozen BK131.out 2; have hfz70_3 := blk_frozen BK131.out 3) | ((with_reducible refine gate_callee (f := 11) rfl ?_); refine goesL_ (some 52) rfl rfl Try.func11 (by kernel_rfl) rfl #[.agg #[.string ((rd_T33 l0_4 x41_2).f0), .slice A130_1 ((rd_T33 l0_4 x41_2).f1).length c130_1, .string ((rd_T33 l0_4 x41_2).f2), .slice A130_3 ((rd_T33 l0_4 x41_2).f3).length c130_3]] rfl (by (try simp only [List.map_toArray, List.map_cons, List.map_nil]); first | done | rfl | (simp only [List.length_drop, List.length_take]; rfl)) ?_; (with_reducible refine (agatelaw10_Node.calls k2 ((rd_T33 l0_4 x41_2).f0) (fun k_ => k_ < w.heap.size) _ _ ((rd_T33 l0_4 x41_2).f1) ((rd_T33 l0_4 x41_2).f2) (fun k_ => k_ < w.heap.size) _ _ ((rd_T33 l0_4 x41_2).f3) t140 t141 t144 t145 _ ?side1 ?side2 A24.out).mono ?_); (case side1 => exact Kd.V_mk HC130_1.out (Kd.F_below (Kd.C_F Kd.heap_string HR130_1.out) (hbA HB))); (case side2 => exact Kd.V_mk HC130_3.out (Kd.F_below (Kd.C_F k35_heap HR130_3.out) (hbA HB))); rintro e w71 ⟨v142, v146, rfl, ho0, ho1, hb⟩; refine ⟨_, rfl, ?_⟩; have n0_ := A0 (Kd.V_elder' (by (with_reducible repeat first | apply Kd.V_alloc | apply Kd.V_drewN | apply Kd.V_drew); exact HO137.out) (Kd.N_base ho1) hb); have n1_ := A0 (Kd.V_lower (Kd.V_mono (ok' := fun k_ => some k_ ≠ (v146 : Value).ownBlock ∧ k_ ≠ gb101 ∧ k_ ≠ gb131 ∧ k_ ≠ gb139) ho0 (fun k_ hk_ => ⟨hk_.2, Or.elim hk_.1 (fun hs_ => Or.elim hs_ (nleG GW101) (nleG GW101)) (fun hn_ => (Kd.freshB (g := gb101) (bkA BK101) k_ hn_)), Or.elim hk_.1 (fun hs_ => Or.elim hs_ (nleG GW131) (nleG GW131)) (fun hn_ => (Kd.freshB (g := gb131) (bkA BK131) k_ hn_)), Or.elim hk_.1 (fun hs_ => Or.elim hs_ (nleG GW139) (nleG GW139)) (fun hn_ => (Kd.freshB (g := gb139) (bkA BK139) k_ hn_))⟩)) (below_size (hbA HB))); have n2_ := A0 (Kd.N_lower (Kd.N_mono (ok' := fun k_ => k_ ≠ gb101 ∧ k_ ≠ gb131 ∧ k_ ≠ gb139) ho1 (fun k_ hk_ => ⟨Or.elim hk_ (fun hs_ => Or.elim hs_ (nleG GW101) (nleG GW101)) (fun hn_ => (Kd.freshB (g := gb101) (bkA BK101) k_ hn_)), Or.elim hk_ (fun hs_ => Or.elim hs_ (nleG GW131) (nleG GW131)) (fun hn_ => (Kd.freshB (g := gb131) (bkA BK131) k_ hn_)), Or.elim hk_ (fun hs_ => Or.elim hs_ (nleG GW139) (nleG GW139)) (fun hn_ => (Kd.freshB (g := gb139) (bkA BK139) k_ hn_))⟩)) (below_size (hbA HB))); have n3_ := A0 (blk_below (g := gb101) (bkA BK101) hb); have n4_ := A0 (blk_below (g := gb131) (bkA BK131) hb); have n5_ := A0 (blk_below (g := gb139) (bkA BK139) hb); have n6_ := A0 (below_step (hbA HB) hb); clear HO137; clear BK101; clear BK131; clear BK139; clear HB; have HO137 := n0_; have HO143 := n1_; have HO147 := n2_; have BK101 := n3_; have BK131 := n4_; have BK139 := n5_; have HB := n6_; clear n0_ n1_ n2_ n3_ n4_ n5_ n6_; (try clear hb); (try clear hb2); (try clear hk); (try clear hi); (try clear ho0); (try clear ho1); obtain ⟨Ao72, co72, eo72⟩ := Kd.N_slice HO147.out; subst eo72) | ((with_reducible refine gate_callee (f := 10) rfl ?_); refine goesL_ (some 55) rfl rfl Try.func10 (by kernel_rfl) rfl #[.slice Ao72 t145.length co72, .string a1] rfl (by (try simp only [List.map_toArray, List.map_cons, List.map_nil]); first | done | rfl | (simp only [List.length_drop, List.length_take]; rfl)) ?_; (with_reducible refine (agateref10_Find.calls k2 _ _ t145 a1 t148 _ ?side1 ?side2 A25.out).mono ?_); (case side1 => ((repeat first | (with_reducible refine Kd.C_alloc ?_ _) | (with_reducible refine Kd.C_drewN ?_ _) | (with_reducible refine Kd.C_drew ?_)); exact (Kd.N_reads' HO147.out).2.2)); (case side2 => exact (Kd.N_reads' HO147.out).2.1); rintro e w' ⟨rfl, ⟨nd, rfl⟩⟩; refine ⟨_, rfl, ?_⟩; have hcz73_0 : w71.cell? ⟨gb131, 0, none⟩ = some (.string ((rd_T33 l0_4 x41_2).f0)) := bcA BK131 0; have hcz73_1 : w71.cell? ⟨gb131, 1, none⟩ = some (.slice A130_1 ((rd_T33 l0_4 x41_2).f1).length c130_1) := bcA BK131 1; have hcz73_2 : w71.cell? ⟨gb131, 2, none⟩ = some (.string ((rd_T33 l0_4 x41_2).f2)) := bcA BK131 2; have hcz73_3 : w71.cell? ⟨gb131, 3, none⟩ = some (.slice A130_3 ((rd_T33 l0_4 x41_2).f3).length c130_3) := bcA BK131 3; have hfz73_0 := blk_frozen BK131.out 0; have hfz73_1 := blk_frozen BK131.out 1; have hfz73_2 := blk_frozen BK131.out 2; have hfz73_3 := blk_frozen BK131.out 3) | ((with_reducible refine gate_callee (f := 12) rfl ?_); refine goesL_ (some 59) rfl rfl Try.func12 (by kernel_rfl) rfl #[.agg #[.string ((rd_T33 l0_4 x41_2).f0), .slice A130_1 ((rd_T33 l0_4 x41_2).f1).length c130_1, .string ((rd_T33 l0_4 x41_2).f2), .slice A130_3 ((rd_T33 l0_4 x41_2).f3).length c130_3], .string a1] rfl (by (try simp only [List.map_toArray, List.map_cons, List.map_nil]); first | done | rfl | (simp only [List.length_drop, List.length_take]; rfl)) ?_; (with_reducible refine (model_Node_Row.calls ((rd_T33 l0_4 x41_2).f0) _ _ ((rd_T33 l0_4 x41_2).f1) ((rd_T33 l0_4 x41_2).f2) _ _ ((rd_T33 l0_4 x41_2).f3) a1 t149 t152 _ ?side1 ?side2 ?side3 ?side4 A26.out).mono ?_); (case side1 => ((repeat first | (with_reducible refine Kd.C_alloc ?_ _) | (with_reducible refine Kd.C_drewN ?_ _) | (with_reducible refine Kd.C_drew ?_)); exact (Kd.C_below HR130_1.out HB.out))); (case side2 => exact HC130_1.out); (case side3 => ((repeat first | (with_reducible refine Kd.C_alloc ?_ _) | (with_reducible refine Kd.C_drewN ?_ _) | (with_reducible refine Kd.C_drew ?_)); exact (Kd.C_below HR130_3.out HB.out))); (case side4 => exact HC130_3.out); rintro e w74 ⟨v150, rfl, ho0, hb⟩; refine ⟨_, rfl, ?_⟩; have n0_ := A0 (Kd.V_elder' (by (with_reducible repeat first | apply Kd.V_alloc | apply Kd.V_drewN | apply Kd.V_drew); exact HO137.out) (Kd.R_base ho0) hb); have n1_ := A0 (Kd.V_elder' (by (with_reducible repeat first | apply Kd.V_alloc | apply Kd.V_drewN | apply Kd.V_drew); exact HO143.out) (Kd.R_base ho0) hb); have n2_ := A0 (Kd.N_elder' (by (with_reducible repeat first | apply Kd.N_alloc | apply Kd.N_drewN | apply Kd.N_drew); exact HO147.out) (Kd.R_base ho0) hb); have n3_ := A0 (Kd.R_lower ho0 (below_size (hbA HB))); have n4_ := A0 (blk_below (g := gb101) (bkA BK101) hb); have n5_ := A0 (blk_below (g := gb131) (bkA BK131) hb); have n6_ := A0 (blk_below (g := gb139) (bkA BK139) hb); have n7_ := A0 (below_step (hbA HB) hb); clear HO137; clear HO143; clear HO147; clear BK101; clear BK131; clear BK139; clear HB; have HO137 := n0_; have HO143 := n1_; have HO147 := n2_; have HO151 := n3_; have BK101 := n4_; have BK131 := n5_; have BK139 := n6_; have HB := n7_; clear n0_ n1_ n2_ n3_ n4_ n5_ n6_ n7_; (try clear hb); (try clear hb2); (try clear hk); (try clear hi); (try clear ho0); have hcz75_0 : w74.cell? ⟨gb131, 0, none⟩ = some (.string ((rd_T33 l0_4 x41_2).f0)) := bcA BK131 0; have hcz75_1 : w74.cell? ⟨gb131, 1, none⟩ = some (.slice A130_1 ((rd_T33 l0_4 x41_2).f1).length c130_1) := bcA BK131 1; have hcz75_2 : w74.cell? ⟨gb131, 2, none⟩ = some (.string ((rd_T33 l0_4 x41_2).f2)) := bcA BK131 2; have hcz75_3 : w74.cell? ⟨gb131, 3, none⟩ = some (.slice A130_3 ((rd_T33 l0_4 x41_2).f3).length c130_3) := bcA BK131 3; have hfz75_0 := blk_frozen BK131.out 0; have hfz75_1 := blk_frozen BK131.out 1; have hfz75_2 := blk_frozen BK131.out 2; have hfz75_3 := blk_frozen BK131.out 3) | ((with_reducible refine gate_callee (f := 13) rfl ?_); refine goesL_ (some 65) rfl rfl Try.func13 (by kernel_rfl) rfl #[.agg #[.string ((rd_T33 l0_4 x41_2).f0), .slice A130_1 ((rd_T33 l0_4 x41_2).f1).length c130_1, .string ((rd_T33 l0_4 x41_2).f2), .slice A130_3 ((rd_T33 l0_4 x41_2).f3).length c130_3], .string a1, .int .i64 a2] rfl (by (try simp only [List.map_toArray, List.map_cons, List.map_nil]); first | done | rfl | (simp only [List.length_drop, List.length_take]; rfl)) ?_; (with_reducible refine (model_Node_One.calls ((rd_T33 l0_4 x41_2).f0) _ _ ((rd_T33 l0_4 x41_2).f1) ((rd_T33 l0_4 x41_2).f2) _ _ ((rd_T33 l0_4 x41_2).f3) a1 a2 t153 _ ?side1 ?side2 ?side3 ?side4 A27.out).mono ?_); (case side1 => ((repeat first | (with_reducible refine Kd.C_alloc ?_ _) | (with_reducible refine Kd.C_drewN ?_ _) | (with_reducible refine Kd.C_drew ?_)); exact (Kd.C_below HR130_1.out HB.out))); (case side2 => exact HC130_1.out); (case side3 => ((repeat first | (with_reducible refine Kd.C_alloc ?_ _) | (with_reducible refine Kd.C_drewN ?_ _) | (with_reducible refine Kd.C_drew ?_)); exact (Kd.C_below HR130_3.out HB.out))); (case side4 => exact HC130_3.out); rintro e w76 ⟨rfl, hb⟩; refine ⟨_, rfl, ?_⟩; have n0_ := A0 (Kd.V_below (by (with_reducible repeat first | apply Kd.V_alloc | apply Kd.V_drewN | apply Kd.V_drew); exact HO137.out) hb); have n1_ := A0 (Kd.V_below (by (with_reducible repeat first | apply Kd.V_alloc | apply Kd.V_drewN | apply Kd.V_drew); exact HO143.out) hb); have n2_ := A0 (Kd.N_below (by (with_reducible repeat first | apply Kd.N_alloc | apply Kd.N_drewN | apply Kd.N_drew); exact HO147.out) hb); have n3_ := A0 (Kd.R_below (krA HO151) hb); have n4_ := A0 (blk_below (g := gb101) (bkA BK101) hb); have n5_ := A0 (blk_below (g := gb131) (bkA BK131) hb); have n6_ := A0 (blk_below (g := gb139) (bkA BK139) hb); have n7_ := A0 (below_step (hbA HB) hb); clear HO137; clear HO143; clear HO147; clear HO151; clear BK101; clear BK131; clear BK139; clear HB; have HO137 := n0_; have HO143 := n1_; have HO147 := n2_; have HO151 := n3_; have BK101 := n4_; have BK131 := n5_; have BK139 := n6_; have HB := n7_; clear n0_ n1_ n2_ n3_ n4_ n5_ n6_ n7_; (try clear hb); (try clear hb2); (try clear hk); (try clear hi); have hcz77_0 : w76.cell? ⟨gb131, 0, none⟩ = some (.string ((rd_T33 l0_4 x41_2).f0)) := bcA BK131 0; have hcz77_1 : w76.cell? ⟨gb131, 1, none⟩ = some (.slice A130_1 ((rd_T33 l0_4 x41_2).f1).length c130_1) := bcA BK131 1; have hcz77_2 : w76.cell? ⟨gb131, 2, none⟩ = some (.string ((rd_T33 l0_4 x41_2).f2)) := bcA BK131 2; have hcz77_3 : w76.cell? ⟨gb131, 3, none⟩ = some (.slice A130_3 ((rd_T33 l0_4 x41_2).f3).length c130_3) := bcA BK131 3; have hfz77_0 := blk_frozen BK131.out 0; have hfz77_1 := blk_frozen BK131.out 1; have hfz77_2 := blk_frozen BK131.out 2; have hfz77_3 := blk_frozen BK131.out 3; have p158 : 0 ≤ (t148 : Int) := of_decide_eq_true (by first | (with_reducible assumption) | assumption); have q158 : t148 < (((rd_T33 l0_4 x41_2).f3).length : Int) := of_decide_eq_true (by first | (with_reducible assumption) | assumption); obtain ⟨ad158, A158_3, c158_3, e158, hx158_0, hx158_1, hx158_2, hx158_3, hl158_3, hi158_3⟩ := at_T35 HR130_3.out t148 p158 q158; cases e158; replace hx158_0 := (HB.out.cell (World.block_lt_of_cell? w _ hx158_0)).trans hx158_0; replace hx158_1 := (HB.out.cell (World.block_lt_of_cell? w _ hx158_1)).trans hx158_1; replace hx158_2 := (HB.out.cell (World.block_lt_of_cell? w _ hx158_2)).trans hx158_2; replace hx158_3 := (HB.out.cell (World.block_lt_of_cell? w _ hx158_3)).trans hx158_3; have HR158_3 := Aside0.mk hi158_3; have HC158_3 := Aside0.mk hl158_3; clear hi158_3 hl158_3; replace p158 := eq_true p158; replace q158 := eq_true q158) | ((with_reducible refine gate_dst (N := 17) rfl ?_); (try (refine gate_guard (by rfl) ?_; dsimp only)); refine box_event ?hg (N := 17) ?hd (cs := #[.string (⟨#[]⟩ : ByteArray), .bool false, .int .i64 0, .slice none 0 0]) (t := 35) ?hr ?_; (case hd => rfl); (case hg => rfl); (case hr => first | (go_simp; done) | (go_simp; rfl)); intro gb159 hg w78 hbox hb; have n0_ := A0 (Kd.V_below (Kd.V_elderB (by (with_reducible repeat first | apply Kd.V_alloc | apply Kd.V_drewN | apply Kd.V_drew); exact HO137.out) gb159 (Nat.le_of_eq hg.symm)) hb); have n1_ := A0 (Kd.V_below (Kd.V_elderB (by (with_reducible repeat first | apply Kd.V_alloc | apply Kd.V_drewN | apply Kd.V_drew); exact HO143.out) gb159 (Nat.le_of_eq hg.symm)) hb); have n2_ := A0 (Kd.N_below (Kd.N_elderB (by (with_reducible repeat first | apply Kd.N_alloc | apply Kd.N_drewN | apply Kd.N_drew); exact HO147.out) gb159 (Nat.le_of_eq hg.symm)) hb); have n3_ := A0 (Kd.R_below (krA HO151) hb); have n4_ := A0 (blk_below (g := gb101) (bkA BK101) hb); have n5_ := A0 (blk_below (g := gb131) (bkA BK131) hb); have n6_ := A0 (blk_below (g := gb139) (bkA BK139) hb); have n7_ := A0 (below_step (hbA HB) hb); have n8_ := A0 (hbox); have n9_ := A0 ((by rw [hg]; exact (below_size (hbA HB)) : w.heap.size ≤ gb159)); have n10_ := A0 ((by rw [hg]; exact (below_size (hbA HB)) : w.heap.size ≤ gb159)); have n11_ := A0 ((by rw [hg]; exact Nat.ne_of_lt (blk_lt (g := gb101) (bkA BK101)) : gb101 ≠ gb159)); have n12_ := A0 ((by rw [hg]; exact Nat.ne_of_gt (blk_lt (g := gb101) (bkA BK101)) : gb159 ≠ gb101)); have n13_ := A0 ((by rw [hg]; exact Nat.ne_of_lt (blk_lt (g := gb131) (bkA BK131)) : gb131 ≠ gb159)); have n14_ := A0 ((by rw [hg]; exact Nat.ne_of_gt (blk_lt (g := gb131) (bkA BK131)) : gb159 ≠ gb131)); have n15_ := A0 ((by rw [hg]; exact Nat.ne_of_lt (blk_lt (g := gb139) (bkA BK139)) : gb139 ≠ gb159)); have n16_ := A0 ((by rw [hg]; exact Nat.ne_of_gt (blk_lt (g := gb139) (bkA BK139)) : gb159 ≠ gb139)); clear HO137; clear HO143; clear HO147; clear HO151; clear BK101; clear BK131; clear BK139; clear HB; have HO137 := n0_; have HO143 := n1_; have HO147 := n2_; have HO151 := n3_; have BK101 := n4_; have BK131 := n5_; have BK139 := n6_; have HB := n7_; have BK159 := n8_; have GW159 := n9_; have GE159 := n10_; have NB101_159 := n11_; have NB159_101 := n12_; have NB131_159 := n13_; have NB159_131 := n14_; have NB139_159 := n15_; have NB159_139 := n16_; clear n0_ n1_ n2_ n3_ n4_ n5_ n6_ n7_ n8_ n9_ n10_ n11_ n12_ n13_ n14_ n15_ n16_; clear hb hbox hg; have hnb79 := NB159_101.out; have hnc79 := NB101_159.out; have hnb80 := NB159_131.out; have hnc80 := NB131_159.out; have hnb81 := NB159_139.out; have hnc81 := NB139_159.out; have hcz82_0 : w78.cell? ⟨gb159, 0, none⟩ = some (.string (⟨#[]⟩ : ByteArray)) := bcA BK159 0; have hcz82_1 : w78.cell? ⟨gb159, 1, none⟩ = some (.bool false) := bcA BK159 1; have hcz82_2 : w78.cell? ⟨gb159, 2, none⟩ = some (.int .i64 0) := bcA BK159 2; have hcz82_3 : w78.cell? ⟨gb159, 3, none⟩ = some (.slice none 0 0) := bcA BK159 3; have hfz82_0 := blk_frozen BK159.out 0; have hfz82_1 := blk_frozen BK159.out 1; have hfz82_2 := blk_frozen BK159.out 2; have hfz82_3 := blk_frozen BK159.out 3))
             (try simp only [Act.put, List.setIfInBounds_toArray, List.set_cons_zero, List.set_cons_succ])
             go_cut [133] from 42 to 132 (fun v133 wc => ∃ (kq : Nat) (x133_56 : Bool), v133 = .bool x133_56 ∧ Aside0 (j2 kq a1 a2 l3 l0_4 (l0_4.length : Int) x41_2 x133_56 a0_0 l0_1 l0_2 l0_3 l0_4 = some r) ∧ Aside0 (kq ≤ k2) ∧ Aside0 (Kd.V (Kd.int .i64) 2 wc w.heap.size (fun k_ => k_ ≠ gb101 ∧ k_ ≠ gb131 ∧ k_ ≠ gb139 ∧ k_ ≠ gb159) (.slice Ao68 t135.length co68) t135) ∧ Aside0 (wc.heap[gb101]? = some (.cells #[.int .i64 a0_0, (.slice A0_1 l0_1.length c0_1), (.slice A0_2 l0_2.length c0_2), (.slice A0_3 l0_3.length c0_3), (.slice (some ad130) l0_4.length c0_4)] 26 (0, 0))) ∧ Aside0 (wc.heap[gb131]? = some (.cells #[.string ((rd_T33 l0_4 x41_2).f0), (.slice A130_1 ((rd_T33 l0_4 x41_2).f1).length c130_1), .string ((rd_T33 l0_4 x41_2).f2), (.slice (some ad158) ((rd_T33 l0_4 x41_2).f3).length c130_3)] 33 (0, 0))) ∧ Aside0 (wc.heap[gb139]? = some (.cells #[.string t132, .bool t133, .int .i64 t134, (.slice Ao68 t135.length co68)] 35 (0, 0))) ∧ Aside0 (wc.heap[gb159]? = some (.cells #[.string ((rd_T35 ((rd_T33 l0_4 x41_2).f3) t148).f0), .bool ((rd_T35 ((rd_T33 l0_4 x41_2).f3) t148).f1), .int .i64 ((rd_T35 ((rd_T33 l0_4 x41_2).f3) t148).f2), (.slice A158_3 ((rd_T35 ((rd_T33 l0_4 x41_2).f3) t148).f3).length c158_3)] 35 (0, 0))) ∧ Aside0 (Below w.heap.size w wc))
             case first =>
              have H := HC57.out; clear HC57
              replace H := Option.bind_eq_some_iff.mp H
              obtain ⟨t160, A830, H⟩ := H
              replace H : (if t160 = true then (if (t152 != (!((rd_T35 ((rd_T33 l0_4 x41_2).f3) t148).f1))) = true then (none) else (if t152 = true then ((agatelaw03_Ints_s.f t149 ((rd_T35 ((rd_T33 l0_4 x41_2).f3) t148).f3)).bind fun t161 => (if t161 = true then (if (rd_T35 ((rd_T33 l0_4 x41_2).f3) t148).f1 = true then (if t153 = ((rd_T35 ((rd_T33 l0_4 x41_2).f3) t148).f2) then (if ((rd_T35 ((rd_T33 l0_4 x41_2).f3) t148).f1 = true) then (j2 k2 a1 a2 l3 l0_4 (l0_4.length : Int) x41_2 false a0_0 l0_1 l0_2 l0_3 l0_4) else (j2 k2 a1 a2 l3 l0_4 (l0_4.length : Int) x41_2 (t153 != a2) a0_0 l0_1 l0_2 l0_3 l0_4)) else (none)) else (if ((rd_T35 ((rd_T33 l0_4 x41_2).f3) t148).f1 = true) then (j2 k2 a1 a2 l3 l0_4 (l0_4.length : Int) x41_2 false a0_0 l0_1 l0_2 l0_3 l0_4) else (j2 k2 a1 a2 l3 l0_4 (l0_4.length : Int) x41_2 (t153 != a2) a0_0 l0_1 l0_2 l0_3 l0_4))) else (none))) else (if (rd_T35 ((rd_T33 l0_4 x41_2).f3) t148).f1 = true then (if t153 = ((rd_T35 ((rd_T33 l0_4 x41_2).f3) t148).f2) then (if ((rd_T35 ((rd_T33 l0_4 x41_2).f3) t148).f1 = true) then (j2 k2 a1 a2 l3 l0_4 (l0_4.length : Int) x41_2 false a0_0 l0_1 l0_2 l0_3 l0_4) else (j2 k2 a1 a2 l3 l0_4 (l0_4.length : Int) x41_2 (t153 != a2) a0_0 l0_1 l0_2 l0_3 l0_4)) else (none)) else (if ((rd_T35 ((rd_T33 l0_4 x41_2).f3) t148).f1 = true) then (j2 k2 a1 a2 l3 l0_4 (l0_4.length : Int) x41_2 false a0_0 l0_1 l0_2 l0_3 l0_4) else (j2 k2 a1 a2 l3 l0_4 (l0_4.length : Int) x41_2 (t153 != a2) a0_0 l0_1 l0_2 l0_3 l0_4))))) else (none)) = some r := H
              have A83 := Aside0.mk A830
              clear A830
              by_cases c84 : t160 = true
              ·
               subst c84
               have H1 : (if (t152 != (!((rd_T35 ((rd_T33 l0_4 x41_2).f3) t148).f1))) = true then (none) else (if t152 = true then ((agatelaw03_Ints_s.f t149 ((rd_T35 ((rd_T33 l0_4 x41_2).f3) t148).f3)).bind fun t161 => (if t161 = true then (if (rd_T35 ((rd_T33 l0_4 x41_2).f3) t148).f1 = true then (if t153 = ((rd_T35 ((rd_T33 l0_4 x41_2).f3) t148).f2) then (if ((rd_T35 ((rd_T33 l0_4 x41_2).f3) t148).f1 = true) then (j2 k2 a1 a2 l3 l0_4 (l0_4.length : Int) x41_2 false a0_0 l0_1 l0_2 l0_3 l0_4) else (j2 k2 a1 a2 l3 l0_4 (l0_4.length : Int) x41_2 (t153 != a2) a0_0 l0_1 l0_2 l0_3 l0_4)) else (none)) else (if ((rd_T35 ((rd_T33 l0_4 x41_2).f3) t148).f1 = true) then (j2 k2 a1 a2 l3 l0_4 (l0_4.length : Int) x41_2 false a0_0 l0_1 l0_2 l0_3 l0_4) else (j2 k2 a1 a2 l3 l0_4 (l0_4.length : Int) x41_2 (t153 != a2) a0_0 l0_1 l0_2 l0_3 l0_4))) else (none))) else (if (rd_T35 ((rd_T33 l0_4 x41_2).f3) t148).f1 = true then (if t153 = ((rd_T35 ((rd_T33 l0_4 x41_2).f3) t148).f2) then (if ((rd_T35 ((rd_T33 l0_4 x41_2).f3) t148).f1 = true) then (j2 k2 a1 a2 l3 l0_4 (l0_4.length : Int) x41_2 false a0_0 l0_1 l0_2 l0_3 l0_4) else (j2 k2 a1 a2 l3 l0_4 (l0_4.length : Int) x41_2 (t153 != a2) a0_0 l0_1 l0_2 l0_3 l0_4)) else (none)) else (if ((rd_T35 ((rd_T33 l0_4 x41_2).f3) t148).f1 = true) then (j2 k2 a1 a2 l3 l0_4 (l0_4.length : Int) x41_2 false a0_0 l0_1 l0_2 l0_3 l0_4) else (j2 k2 a1 a2 l3 l0_4 (l0_4.length : Int) x41_2 (t153 != a2) a0_0 l0_1 l0_2 l0_3 l0_4))))) = some r := by rw [if_pos rfl] at H; exact H
               clear H
               have H := H1
               clear H1
               by_cases c85 : (t152 != (!((rd_T35 ((rd_T33 l0_4 x41_2).f3) t148).f1))) = true
               ·
                rw [if_pos c85] at H
                exact absurd H (by simp)
               ·
                rw [if_neg c85] at H
                have c85b0 : (t152 != (!((rd_T35 ((rd_T33 l0_4 x41_2).f3) t148).f1))) = false := by simpa using c85
                (try (have c85b1 : decide (t152 = (!((rd_T35 ((rd_T33 l0_4 x41_2).f3) t148).f1))) = true := by simpa using c85))
                (try (have c85b2 : (t152 == (!((rd_T35 ((rd_T33 l0_4 x41_2).f3) t148).f1))) = true := by simpa using c85))
                clear c85
                (first | rw [c85b0] | (simp only [i64_w, i32_w]; rw [c85b0]) | skip)
                by_cases c86 : t152 = true
                ·
                 subst c86
                 have H1 : ((agatelaw03_Ints_s.f t149 ((rd_T35 ((rd_T33 l0_4 x41_2).f3) t148).f3)).bind fun t161 => (if t161 = true then (if (rd_T35 ((rd_T33 l0_4 x41_2).f3) t148).f1 = true then (if t153 = ((rd_T35 ((rd_T33 l0_4 x41_2).f3) t148).f2) then (if ((rd_T35 ((rd_T33 l0_4 x41_2).f3) t148).f1 = true) then (j2 k2 a1 a2 l3 l0_4 (l0_4.length : Int) x41_2 false a0_0 l0_1 l0_2 l0_3 l0_4) else (j2 k2 a1 a2 l3 l0_4 (l0_4.length : Int) x41_2 (t153 != a2) a0_0 l0_1 l0_2 l0_3 l0_4)) else (none)) else (if ((rd_T35 ((rd_T33 l0_4 x41_2).f3) t148).f1 = true) then (j2 k2 a1 a2 l3 l0_4 (l0_4.length : Int) x41_2 false a0_0 l0_1 l0_2 l0_3 l0_4) else (j2 k2 a1 a2 l3 l0_4 (l0_4.length : Int) x41_2 (t153 != a2) a0_0 l0_1 l0_2 l0_3 l0_4))) else (none))) = some r := by rw [if_pos rfl] at H; exact H
                 clear H
                 have H := H1
                 clear H1
                 replace H := Option.bind_eq_some_iff.mp H
                 obtain ⟨t161, A870, H⟩ := H
                 replace H : (if t161 = true then (if (rd_T35 ((rd_T33 l0_4 x41_2).f3) t148).f1 = true then (if t153 = ((rd_T35 ((rd_T33 l0_4 x41_2).f3) t148).f2) then (if ((rd_T35 ((rd_T33 l0_4 x41_2).f3) t148).f1 = true) then (j2 k2 a1 a2 l3 l0_4 (l0_4.length : Int) x41_2 false a0_0 l0_1 l0_2 l0_3 l0_4) else (j2 k2 a1 a2 l3 l0_4 (l0_4.length : Int) x41_2 (t153 != a2) a0_0 l0_1 l0_2 l0_3 l0_4)) else (none)) else (if ((rd_T35 ((rd_T33 l0_4 x41_2).f3) t148).f1 = true) then (j2 k2 a1 a2 l3 l0_4 (l0_4.length : Int) x41_2 false a0_0 l0_1 l0_2 l0_3 l0_4) else (j2 k2 a1 a2 l3 l0_4 (l0_4.length : Int) x41_2 (t153 != a2) a0_0 l0_1 l0_2 l0_3 l0_4))) else (none)) = some r := H
                 have A87 := Aside0.mk A870
                 clear A870
                 by_cases c88 : t161 = true
                 ·
                  subst c88
                  have H1 : (if (rd_T35 ((rd_T33 l0_4 x41_2).f3) t148).f1 = true then (if t153 = ((rd_T35 ((rd_T33 l0_4 x41_2).f3) t148).f2) then (if ((rd_T35 ((rd_T33 l0_4 x41_2).f3) t148).f1 = true) then (j2 k2 a1 a2 l3 l0_4 (l0_4.length : Int) x41_2 false a0_0 l0_1 l0_2 l0_3 l0_4) else (j2 k2 a1 a2 l3 l0_4 (l0_4.length : Int) x41_2 (t153 != a2) a0_0 l0_1 l0_2 l0_3 l0_4)) else (none)) else (if ((rd_T35 ((rd_T33 l0_4 x41_2).f3) t148).f1 = true) then (j2 k2 a1 a2 l3 l0_4 (l0_4.length : Int) x41_2 false a0_0 l0_1 l0_2 l0_3 l0_4) else (j2 k2 a1 a2 l3 l0_4 (l0_4.length : Int) x41_2 (t153 != a2) a0_0 l0_1 l0_2 l0_3 l0_4))) = some r := by rw [if_pos rfl] at H; exact H
                  clear H
                  have H := H1
                  clear H1
                  obtain ⟨bq89, hbq89⟩ : ∃ b_ : Bool, b_ = ((rd_T35 ((rd_T33 l0_4 x41_2).f3) t148).f1) := ⟨_, rfl⟩
                  replace H : (if bq89 = true then (if t153 = ((rd_T35 ((rd_T33 l0_4 x41_2).f3) t148).f2) then (if (bq89 = true) then (j2 k2 a1 a2 l3 l0_4 (l0_4.length : Int) x41_2 false a0_0 l0_1 l0_2 l0_3 l0_4) else (j2 k2 a1 a2 l3 l0_4 (l0_4.length : Int) x41_2 (t153 != a2) a0_0 l0_1 l0_2 l0_3 l0_4)) else (none)) else (if (bq89 = true) then (j2 k2 a1 a2 l3 l0_4 (l0_4.length : Int) x41_2 false a0_0 l0_1 l0_2 l0_3 l0_4) else (j2 k2 a1 a2 l3 l0_4 (l0_4.length : Int) x41_2 (t153 != a2) a0_0 l0_1 l0_2 l0_3 l0_4))) = some r := by rw [← hbq89] at H; exact H
                  have Nbq89 := Aside0.mk hbq89
                  clear hbq89
                  by_cases c90 : bq89 = true
                  ·
                   subst c90
                   have hbt_ := Nbq89.out.symm
                   have hd_ := c85b0
                   rw [hbt_] at hd_
                   exact absurd (show (true != !true) = false from hd_) (by decide)
                  ·
                   replace c90 := Bool.eq_false_iff.mpr c90
                   subst c90
                   have hbt_ := Nbq89.out.symm
                   (try rw [hbt_] at A83)
                   have H1 : (if (false = true) then (j2 k2 a1 a2 l3 l0_4 (l0_4.length : Int) x41_2 false a0_0 l0_1 l0_2 l0_3 l0_4) else (j2 k2 a1 a2 l3 l0_4 (l0_4.length : Int) x41_2 (t153 != a2) a0_0 l0_1 l0_2 l0_3 l0_4)) = some r := by rw [if_neg (show ¬ (false = true) by decide)] at H; exact H
                   clear H
                   have H := H1
                   clear H1
                   by_cases c113 : (false = true)
                   ·
                    exact absurd c113 (by decide)
                   ·
                    have H1 : (j2 k2 a1 a2 l3 l0_4 (l0_4.length : Int) x41_2 (t153 != a2) a0_0 l0_1 l0_2 l0_3 l0_4) = some r := by rw [if_neg (show ¬ (false = true) by decide)] at H; exact H
                    clear H
                    have H := H1
                    clear H1
                    have H' := Aside0.mk H
                    clear H; have hnb124 := NB139_101.out; have hnc124 := NB101_139.out; have hnb125 := NB139_131.out; have hnc125 := NB131_139.out; have hnb126 := NB139_159.out; have hnc126 := NB159_139.out; have hcz127_0 : w78.cell? ⟨gb139, 0, none⟩ = some (.string t132) := bcA BK139 0; have hcz127_1 : w78.cell? ⟨gb139, 1, none⟩ = some (.bool t133) := bcA BK139 1; have hcz127_2 : w78.cell? ⟨gb139, 2, none⟩ = some (.int .i64 t134) := bcA BK139 2; have hcz127_3 : w78.cell? ⟨gb139, 3, none⟩ = some (.slice Ao68 t135.length co68) := bcA BK139 3; have hfz127_0 := blk_frozen BK139.out 0; have hfz127_1 := blk_frozen BK139.out 1; have hfz127_2 := blk_frozen BK139.out 2; have hfz127_3 := blk_frozen BK139.out 3; have hnb128 := NB159_101.out; have hnc128 := NB101_159.out; have hnb129 := NB159_131.out; have hnc129 := NB131_159.out; have hcz130_0 : w78.cell? ⟨gb159, 0, none⟩ = some (.string (⟨#[]⟩ : ByteArray)) := bcA BK159 0; have hcz130_1 : w78.cell? ⟨gb159, 1, none⟩ = some (.bool false) := bcA BK159 1; have hcz130_2 : w78.cell? ⟨gb159, 2, none⟩ = some (.int .i64 0) := bcA BK159 2; have hcz130_3 : w78.cell? ⟨gb159, 3, none⟩ = some (.slice none 0 0) := bcA BK159 3; have hfz130_0 := blk_frozen BK159.out 0; have hfz130_1 := blk_frozen BK159.out 1; have hfz130_2 := blk_frozen BK159.out 2; have hfz130_3 := blk_frozen BK159.out 3
                    go_wp2_with (first | ((with_reducible refine gate_callee (f := 14) rfl ?_); refine goesL_ (some 95) rfl rfl Try.func14 (by kernel_rfl) rfl #[.agg #[.string t132, .bool t133, .int .i64 t134, .slice Ao68 t135.length co68], .agg #[.string ((rd_T35 ((rd_T33 l0_4 x41_2).f3) t148).f0), .bool false, .int .i64 ((rd_T35 ((rd_T33 l0_4 x41_2).f3) t148).f2), .slice A158_3 ((rd_T35 ((rd_T33 l0_4 x41_2).f3) t148).f3).length c158_3]] rfl (by (try simp only [List.map_toArray, List.map_cons, List.map_nil]); first | done | rfl | (simp only [List.length_drop, List.length_take]; rfl)) ?_; (with_reducible refine (agateref10_Attrs.calls k2 t132 t133 t134 _ _ t135 ((rd_T35 ((rd_T33 l0_4 x41_2).f3) t148).f0) false ((rd_T35 ((rd_T33 l0_4 x41_2).f3) t148).f2) _ _ ((rd_T35 ((rd_T33 l0_4 x41_2).f3) t148).f3) true _ ?side1 ?side2 ?side3 ?side4 A83.out).mono ?_); (case side1 => exact (Kd.V_reads' (e := 2) (base := w.heap.size) (n := t135.length) (c := co68) (by (with_reducible repeat first | apply Kd.V_alloc | apply Kd.V_drewN | apply Kd.V_drew); exact (Kd.V_mono (Kd.V_far (p := ⟨gb159, 3, none⟩) (Kd.V_far (p := ⟨gb159, 2, none⟩) (Kd.V_far (p := ⟨gb159, 1, none⟩) (Kd.V_far (p := ⟨gb159, 0, none⟩) (Kd.V_mono HO137.out (fun k_ hk => (⟨hk, hk.2⟩ : _ ∧ k_ ≠ gb159))) (fun _ hk => hk.2) (.string ((rd_T35 ((rd_T33 l0_4 x41_2).f3) t148).f0))) (fun _ hk => hk.2) (.bool (false))) (fun _ hk => hk.2) (.int .i64 ((rd_T35 ((rd_T33 l0_4 x41_2).f3) t148).f2))) (fun _ hk => hk.2) (.slice A158_3 ((rd_T35 ((rd_T33 l0_4 x41_2).f3) t148).f3).length c158_3)) (fun _ h_ => h_.1)))).2.2); (case side2 => exact (Kd.V_reads' HO137.out).2.1); (case side3 => exact Kd.C_below HR158_3.out (hbA HB)); (case side4 => exact HC158_3.out); rintro e w131 ⟨rfl, hb⟩; refine ⟨_, rfl, ?_⟩; have n0_ := A0 (Kd.V_below (by (with_reducible repeat first | apply Kd.V_alloc | apply Kd.V_drewN | apply Kd.V_drew); exact (Kd.V_mono (Kd.V_far (p := ⟨gb159, 3, none⟩) (Kd.V_far (p := ⟨gb159, 2, none⟩) (Kd.V_far (p := ⟨gb159, 1, none⟩) (Kd.V_far (p := ⟨gb159, 0, none⟩) (Kd.V_mono HO137.out (fun k_ hk => (⟨hk, hk.2⟩ : _ ∧ k_ ≠ gb159))) (fun _ hk => hk.2) (.string ((rd_T35 ((rd_T33 l0_4 x41_2).f3) t148).f0))) (fun _ hk => hk.2) (.bool (false))) (fun _ hk => hk.2) (.int .i64 ((rd_T35 ((rd_T33 l0_4 x41_2).f3) t148).f2))) (fun _ hk => hk.2) (.slice A158_3 ((rd_T35 ((rd_T33 l0_4 x41_2).f3) t148).f3).length c158_3)) (fun _ h_ => h_.1))) hb); have n1_ := A0 (Kd.V_below (by (with_reducible repeat first | apply Kd.V_alloc | apply Kd.V_drewN | apply Kd.V_drew); exact (Kd.V_mono (Kd.V_far (p := ⟨gb159, 3, none⟩) (Kd.V_far (p := ⟨gb159, 2, none⟩) (Kd.V_far (p := ⟨gb159, 1, none⟩) (Kd.V_far (p := ⟨gb159, 0, none⟩) (Kd.V_mono HO143.out (fun k_ hk => (⟨hk, hk.2⟩ : _ ∧ k_ ≠ gb159))) (fun _ hk => hk.2) (.string ((rd_T35 ((rd_T33 l0_4 x41_2).f3) t148).f0))) (fun _ hk => hk.2) (.bool (false))) (fun _ hk => hk.2) (.int .i64 ((rd_T35 ((rd_T33 l0_4 x41_2).f3) t148).f2))) (fun _ hk => hk.2) (.slice A158_3 ((rd_T35 ((rd_T33 l0_4 x41_2).f3) t148).f3).length c158_3)) (fun _ h_ => h_.1))) hb); have n2_ := A0 (Kd.N_below (by (with_reducible repeat first | apply Kd.N_alloc | apply Kd.N_drewN | apply Kd.N_drew); exact (Kd.N_mono (Kd.N_far (p := ⟨gb159, 3, none⟩) (Kd.N_far (p := ⟨gb159, 2, none⟩) (Kd.N_far (p := ⟨gb159, 1, none⟩) (Kd.N_far (p := ⟨gb159, 0, none⟩) (Kd.N_mono HO147.out (fun k_ hk => (⟨hk, hk.2⟩ : _ ∧ k_ ≠ gb159))) (fun _ hk => hk.2) (.string ((rd_T35 ((rd_T33 l0_4 x41_2).f3) t148).f0))) (fun _ hk => hk.2) (.bool (false))) (fun _ hk => hk.2) (.int .i64 ((rd_T35 ((rd_T33 l0_4 x41_2).f3) t148).f2))) (fun _ hk => hk.2) (.slice A158_3 ((rd_T35 ((rd_T33 l0_4 x41_2).f3) t148).f3).length c158_3)) (fun _ h_ => h_.1))) hb); have n3_ := A0 (Kd.R_below (by (with_reducible repeat first | apply Kd.R_alloc | apply Kd.R_drewN | apply Kd.R_drew); exact (Kd.R_mono (Kd.R_far (p := ⟨gb159, 3, none⟩) (Kd.R_far (p := ⟨gb159, 2, none⟩) (Kd.R_far (p := ⟨gb159, 1, none⟩) (Kd.R_far (p := ⟨gb159, 0, none⟩) (Kd.R_types HO151.out BK159.out (by decide)) (fun _ hk => hk.2) (.string ((rd_T35 ((rd_T33 l0_4 x41_2).f3) t148).f0))) (fun _ hk => hk.2) (.bool (false))) (fun _ hk => hk.2) (.int .i64 ((rd_T35 ((rd_T33 l0_4 x41_2).f3) t148).f2))) (fun _ hk => hk.2) (.slice A158_3 ((rd_T35 ((rd_T33 l0_4 x41_2).f3) t148).f3).length c158_3)) (fun _ h_ => h_.1))) hb); have n4_ := A0 (blk_below (g := gb101) (o := .cells #[.int .i64 a0_0, .slice A0_1 l0_1.length c0_1, .slice A0_2 l0_2.length c0_2, .slice A0_3 l0_3.length c0_3, .slice (some ad130) l0_4.length c0_4] 26 (0, 0)) (bkG BK101 NB101_159) hb); have n5_ := A0 (blk_below (g := gb131) (o := .cells #[.string ((rd_T33 l0_4 x41_2).f0), .slice A130_1 ((rd_T33 l0_4 x41_2).f1).length c130_1, .string ((rd_T33 l0_4 x41_2).f2), .slice (some ad158) ((rd_T33 l0_4 x41_2).f3).length c130_3] 33 (0, 0)) (bkG BK131 NB131_159) hb); have n6_ := A0 (blk_below (g := gb139) (o := .cells #[.string t132, .bool t133, .int .i64 t134, .slice Ao68 t135.length co68] 35 (0, 0)) (bkG BK139 NB139_159) hb); have n7_ := A0 (blk_below (g := gb159) (o := .cells #[.string ((rd_T35 ((rd_T33 l0_4 x41_2).f3) t148).f0), .bool false, .int .i64 ((rd_T35 ((rd_T33 l0_4 x41_2).f3) t148).f2), .slice A158_3 ((rd_T35 ((rd_T33 l0_4 x41_2).f3) t148).f3).length c158_3] 35 (0, 0)) (by (with_reducible repeat first | apply blk_drewN | apply blk_drew | apply blk_alloc); refine blk_put (cs := #[.string ((rd_T35 ((rd_T33 l0_4 x41_2).f3) t148).f0), .bool (false), .int .i64 ((rd_T35 ((rd_T33 l0_4 x41_2).f3) t148).f2), .slice none 0 0]) ?_ 3 _ rfl; (with_reducible repeat first | apply blk_drewN | apply blk_drew | apply blk_alloc); refine blk_put (cs := #[.string ((rd_T35 ((rd_T33 l0_4 x41_2).f3) t148).f0), .bool (false), .int .i64 0, .slice none 0 0]) ?_ 2 _ rfl; (with_reducible repeat first | apply blk_drewN | apply blk_drew | apply blk_alloc); refine blk_put (cs := #[.string ((rd_T35 ((rd_T33 l0_4 x41_2).f3) t148).f0), .bool false, .int .i64 0, .slice none 0 0]) ?_ 1 _ rfl; (with_reducible repeat first | apply blk_drewN | apply blk_drew | apply blk_alloc); refine blk_put (cs := #[.string (⟨#[]⟩ : ByteArray), .bool false, .int .i64 0, .slice none 0 0]) ?_ 0 _ rfl; (with_reducible repeat first | apply blk_drewN | apply blk_drew | apply blk_alloc); exact BK159.out) hb); have n8_ := A0 (below_step (hbA HB) hb); clear HO137; clear HO143; clear HO147; clear HO151; clear BK101; clear BK131; clear BK139; clear BK159; clear HB; have HO137 := n0_; have HO143 := n1_; have HO147 := n2_; have HO151 := n3_; have BK101 := n4_; have BK131 := n5_; have BK139 := n6_; have BK159 := n7_; have HB := n8_; clear n0_ n1_ n2_ n3_ n4_ n5_ n6_ n7_ n8_; (try clear hb); (try clear hb2); (try clear hk); (try clear hi); have hcz132_0 : w131.cell? ⟨gb159, 0, none⟩ = some (.string ((rd_T35 ((rd_T33 l0_4 x41_2).f3) t148).f0)) := bcA BK159 0; have hcz132_1 : w131.cell? ⟨gb159, 1, none⟩ = some (.bool false) := bcA BK159 1; have hcz132_2 : w131.cell? ⟨gb159, 2, none⟩ = some (.int .i64 ((rd_T35 ((rd_T33 l0_4 x41_2).f3) t148).f2)) := bcA BK159 2; have hcz132_3 : w131.cell? ⟨gb159, 3, none⟩ = some (.slice A158_3 ((rd_T35 ((rd_T33 l0_4 x41_2).f3) t148).f3).length c158_3) := bcA BK159 3; have hfz132_0 := blk_frozen BK159.out 0; have hfz132_1 := blk_frozen BK159.out 1; have hfz132_2 := blk_frozen BK159.out 2; have hfz132_3 := blk_frozen BK159.out 3; obtain ⟨Ao133, co133, eo133⟩ := Kd.R_slice HO151.out; subst eo133) | (go_at_call 15; (with_reducible refine (agatelaw03_Ints_s.calls _ _ t149 _ _ ((rd_T35 ((rd_T33 l0_4 x41_2).f3) t148).f3) true _ ?side1 ?side2 ?side3 ?side4 A87.out).mono ?_); (case side1 => ((repeat first | (with_reducible refine Kd.C_alloc ?_ _) | (with_reducible refine Kd.C_drewN ?_ _) | (with_reducible refine Kd.C_drew ?_)); exact (Kd.R_reads' HO151.out).2.2)); (case side2 => exact (Kd.R_reads' HO151.out).2.1); (case side3 => ((repeat first | (with_reducible refine Kd.C_alloc ?_ _) | (with_reducible refine Kd.C_drewN ?_ _) | (with_reducible refine Kd.C_drew ?_)); exact (Kd.C_below HR158_3.out HB.out))); (case side4 => exact HC158_3.out); rintro e w' ⟨rfl, ⟨nd, rfl⟩⟩))
                    go_meet
                    case rel => exact ⟨_, ((t153 != a2)), (by first | rfl | (simp; done) | (simp [*]; done)), H', ⟨by have := HJ4.out; have := HK2.out; first | omega | exact Nat.le_refl _⟩, ⟨by (with_reducible repeat first | apply Kd.V_alloc | apply Kd.V_drewN | apply Kd.V_drew); exact Kd.V_mono HO137.out (fun _ hk => ⟨hk.1.1.1.1, ⟨hk.1.1.1.2.1, ⟨hk.1.1.1.2.2, hk.2⟩⟩⟩)⟩, ⟨bkA BK101⟩, ⟨bkA BK131⟩, ⟨bkA BK139⟩, ⟨by rw [hbt_]; exact bkA BK159⟩, ⟨hbA HB⟩⟩
                 ·
                  replace c88 := Bool.eq_false_iff.mpr c88
                  subst c88
                  have H1 : (none) = some r := by rw [if_neg (show ¬ (false = true) by decide)] at H; exact H
                  clear H
                  have H := H1
                  clear H1
                  exact absurd H (by simp)
                ·
                 replace c86 := Bool.eq_false_iff.mpr c86
                 subst c86
                 have H1 : (if (rd_T35 ((rd_T33 l0_4 x41_2).f3) t148).f1 = true then (if t153 = ((rd_T35 ((rd_T33 l0_4 x41_2).f3) t148).f2) then (if ((rd_T35 ((rd_T33 l0_4 x41_2).f3) t148).f1 = true) then (j2 k2 a1 a2 l3 l0_4 (l0_4.length : Int) x41_2 false a0_0 l0_1 l0_2 l0_3 l0_4) else (j2 k2 a1 a2 l3 l0_4 (l0_4.length : Int) x41_2 (t153 != a2) a0_0 l0_1 l0_2 l0_3 l0_4)) else (none)) else (if ((rd_T35 ((rd_T33 l0_4 x41_2).f3) t148).f1 = true) then (j2 k2 a1 a2 l3 l0_4 (l0_4.length : Int) x41_2 false a0_0 l0_1 l0_2 l0_3 l0_4) else (j2 k2 a1 a2 l3 l0_4 (l0_4.length : Int) x41_2 (t153 != a2) a0_0 l0_1 l0_2 l0_3 l0_4))) = some r := by rw [if_neg (show ¬ (false = true) by decide)] at H; exact H
                 clear H
                 have H := H1
                 clear H1
                 obtain ⟨bq134, hbq134⟩ : ∃ b_ : Bool, b_ = ((rd_T35 ((rd_T33 l0_4 x41_2).f3) t148).f1) := ⟨_, rfl⟩
                 replace H : (if bq134 = true then (if t153 = ((rd_T35 ((rd_T33 l0_4 x41_2).f3) t148).f2) then (if (bq134 = true) then (j2 k2 a1 a2 l3 l0_4 (l0_4.length : Int) x41_2 false a0_0 l0_1 l0_2 l0_3 l0_4) else (j2 k2 a1 a2 l3 l0_4 (l0_4.length : Int) x41_2 (t153 != a2) a0_0 l0_1 l0_2 l0_3 l0_4)) else (none)) else (if (bq134 = true) then (j2 k2 a1 a2 l3 l0_4 (l0_4.length : Int) x41_2 false a0_0 l0_1 l0_2 l0_3 l0_4) else (j2 k2 a1 a2 l3 l0_4 (l0_4.length : Int) x41_2 (t153 != a2) a0_0 l0_1 l0_2 l0_3 l0_4))) = some r := by rw [← hbq134] at H; exact H
                 have Nbq134 := Aside0.mk hbq134
                 clear hbq134
                 by_cases c135 : bq134 = true
                 ·
                  subst c135
                  have hbt_ := Nbq134.out.symm
                  (try rw [hbt_] at A83)
                  have H1 : (if t153 = ((rd_T35 ((rd_T33 l0_4 x41_2).f3) t148).f2) then (if (true = true) then (j2 k2 a1 a2 l3 l0_4 (l0_4.length : Int) x41_2 false a0_0 l0_1 l0_2 l0_3 l0_4) else (j2 k2 a1 a2 l3 l0_4 (l0_4.length : Int) x41_2 (t153 != a2) a0_0 l0_1 l0_2 l0_3 l0_4)) else (none)) = some r := by rw [if_pos rfl] at H; exact H
                  clear H
                  have H := H1
                  clear H1
                  by_cases c136 : t153 = ((rd_T35 ((rd_T33 l0_4 x41_2).f3) t148).f2)
                  ·
                   rw [if_pos c136] at H
                   have c136b0 : (t153 == ((rd_T35 ((rd_T33 l0_4 x41_2).f3) t148).f2)) = true := beq_iff_eq.mpr c136
                   have c136b1 : (t153 != ((rd_T35 ((rd_T33 l0_4 x41_2).f3) t148).f2)) = false := bne_eq_false_iff_eq.mpr c136
                   clear c136
                   by_cases c137 : (true = true)
                   ·
                    have H1 : (j2 k2 a1 a2 l3 l0_4 (l0_4.length : Int) x41_2 false a0_0 l0_1 l0_2 l0_3 l0_4) = some r := by rw [if_pos rfl] at H; exact H
                    clear H
                    have H := H1
                    clear H1
                    have H' := Aside0.mk H
                    clear H; have hnb138 := NB139_101.out; have hnc138 := NB101_139.out; have hnb139 := NB139_131.out; have hnc139 := NB131_139.out; have hnb140 := NB139_159.out; have hnc140 := NB159_139.out; have hcz141_0 : w78.cell? ⟨gb139, 0, none⟩ = some (.string t132) := bcA BK139 0; have hcz141_1 : w78.cell? ⟨gb139, 1, none⟩ = some (.bool t133) := bcA BK139 1; have hcz141_2 : w78.cell? ⟨gb139, 2, none⟩ = some (.int .i64 t134) := bcA BK139 2; have hcz141_3 : w78.cell? ⟨gb139, 3, none⟩ = some (.slice Ao68 t135.length co68) := bcA BK139 3; have hfz141_0 := blk_frozen BK139.out 0; have hfz141_1 := blk_frozen BK139.out 1; have hfz141_2 := blk_frozen BK139.out 2; have hfz141_3 := blk_frozen BK139.out 3; have hnb142 := NB159_101.out; have hnc142 := NB101_159.out; have hnb143 := NB159_131.out; have hnc143 := NB131_159.out; have hcz144_0 : w78.cell? ⟨gb159, 0, none⟩ = some (.string (⟨#[]⟩ : ByteArray)) := bcA BK159 0; have hcz144_1 : w78.cell? ⟨gb159, 1, none⟩ = some (.bool false) := bcA BK159 1; have hcz144_2 : w78.cell? ⟨gb159, 2, none⟩ = some (.int .i64 0) := bcA BK159 2; have hcz144_3 : w78.cell? ⟨gb159, 3, none⟩ = some (.slice none 0 0) := bcA BK159 3; have hfz144_0 := blk_frozen BK159.out 0; have hfz144_1 := blk_frozen BK159.out 1; have hfz144_2 := blk_frozen BK159.out 2; have hfz144_3 := blk_frozen BK159.out 3
                    go_wp2_with (first | ((with_reducible refine gate_callee (f := 14) rfl ?_); refine goesL_ (some 95) rfl rfl Try.func14 (by kernel_rfl) rfl #[.agg #[.string t132, .bool t133, .int .i64 t134, .slice Ao68 t135.length co68], .agg #[.string ((rd_T35 ((rd_T33 l0_4 x41_2).f3) t148).f0), .bool true, .int .i64 ((rd_T35 ((rd_T33 l0_4 x41_2).f3) t148).f2), .slice A158_3 ((rd_T35 ((rd_T33 l0_4 x41_2).f3) t148).f3).length c158_3]] rfl (by (try simp only [List.map_toArray, List.map_cons, List.map_nil]); first | done | rfl | (simp only [List.length_drop, List.length_take]; rfl)) ?_; (with_reducible refine (agateref10_Attrs.calls k2 t132 t133 t134 _ _ t135 ((rd_T35 ((rd_T33 l0_4 x41_2).f3) t148).f0) true ((rd_T35 ((rd_T33 l0_4 x41_2).f3) t148).f2) _ _ ((rd_T35 ((rd_T33 l0_4 x41_2).f3) t148).f3) true _ ?side1 ?side2 ?side3 ?side4 A83.out).mono ?_); (case side1 => exact (Kd.V_reads' (e := 2) (base := w.heap.size) (n := t135.length) (c := co68) (by (with_reducible repeat first | apply Kd.V_alloc | apply Kd.V_drewN | apply Kd.V_drew); exact (Kd.V_mono (Kd.V_far (p := ⟨gb159, 3, none⟩) (Kd.V_far (p := ⟨gb159, 2, none⟩) (Kd.V_far (p := ⟨gb159, 1, none⟩) (Kd.V_far (p := ⟨gb159, 0, none⟩) (Kd.V_mono HO137.out (fun k_ hk => (⟨hk, hk.2⟩ : _ ∧ k_ ≠ gb159))) (fun _ hk => hk.2) (.string ((rd_T35 ((rd_T33 l0_4 x41_2).f3) t148).f0))) (fun _ hk => hk.2) (.bool (true))) (fun _ hk => hk.2) (.int .i64 ((rd_T35 ((rd_T33 l0_4 x41_2).f3) t148).f2))) (fun _ hk => hk.2) (.slice A158_3 ((rd_T35 ((rd_T33 l0_4 x41_2).f3) t148).f3).length c158_3)) (fun _ h_ => h_.1)))).2.2); (case side2 => exact (Kd.V_reads' HO137.out).2.1); (case side3 => exact Kd.C_below HR158_3.out (hbA HB)); (case side4 => exact HC158_3.out); rintro e w145 ⟨rfl, hb⟩; refine ⟨_, rfl, ?_⟩; have n0_ := A0 (Kd.V_below (by (with_reducible repeat first | apply Kd.V_alloc | apply Kd.V_drewN | apply Kd.V_drew); exact (Kd.V_mono (Kd.V_far (p := ⟨gb159, 3, none⟩) (Kd.V_far (p := ⟨gb159, 2, none⟩) (Kd.V_far (p := ⟨gb159, 1, none⟩) (Kd.V_far (p := ⟨gb159, 0, none⟩) (Kd.V_mono HO137.out (fun k_ hk => (⟨hk, hk.2⟩ : _ ∧ k_ ≠ gb159))) (fun _ hk => hk.2) (.string ((rd_T35 ((rd_T33 l0_4 x41_2).f3) t148).f0))) (fun _ hk => hk.2) (.bool (true))) (fun _ hk => hk.2) (.int .i64 ((rd_T35 ((rd_T33 l0_4 x41_2).f3) t148).f2))) (fun _ hk => hk.2) (.slice A158_3 ((rd_T35 ((rd_T33 l0_4 x41_2).f3) t148).f3).length c158_3)) (fun _ h_ => h_.1))) hb); have n1_ := A0 (Kd.V_below (by (with_reducible repeat first | apply Kd.V_alloc | apply Kd.V_drewN | apply Kd.V_drew); exact (Kd.V_mono (Kd.V_far (p := ⟨gb159, 3, none⟩) (Kd.V_far (p := ⟨gb159, 2, none⟩) (Kd.V_far (p := ⟨gb159, 1, none⟩) (Kd.V_far (p := ⟨gb159, 0, none⟩) (Kd.V_mono HO143.out (fun k_ hk => (⟨hk, hk.2⟩ : _ ∧ k_ ≠ gb159))) (fun _ hk => hk.2) (.string ((rd_T35 ((rd_T33 l0_4 x41_2).f3) t148).f0))) (fun _ hk => hk.2) (.bool (true))) (fun _ hk => hk.2) (.int .i64 ((rd_T35 ((rd_T33 l0_4 x41_2).f3) t148).f2))) (fun _ hk => hk.2) (.slice A158_3 ((rd_T35 ((rd_T33 l0_4 x41_2).f3) t148).f3).length c158_3)) (fun _ h_ => h_.1))) hb); have n2_ := A0 (Kd.N_below (by (with_reducible repeat first | apply Kd.N_alloc | apply Kd.N_drewN | apply Kd.N_drew); exact (Kd.N_mono (Kd.N_far (p := ⟨gb159, 3, none⟩) (Kd.N_far (p := ⟨gb159, 2, none⟩) (Kd.N_far (p := ⟨gb159, 1, none⟩) (Kd.N_far (p := ⟨gb159, 0, none⟩) (Kd.N_mono HO147.out (fun k_ hk => (⟨hk, hk.2⟩ : _ ∧ k_ ≠ gb159))) (fun _ hk => hk.2) (.string ((rd_T35 ((rd_T33 l0_4 x41_2).f3) t148).f0))) (fun _ hk => hk.2) (.bool (true))) (fun _ hk => hk.2) (.int .i64 ((rd_T35 ((rd_T33 l0_4 x41_2).f3) t148).f2))) (fun _ hk => hk.2) (.slice A158_3 ((rd_T35 ((rd_T33 l0_4 x41_2).f3) t148).f3).length c158_3)) (fun _ h_ => h_.1))) hb); have n3_ := A0 (Kd.R_below (by (with_reducible repeat first | apply Kd.R_alloc | apply Kd.R_drewN | apply Kd.R_drew); exact (Kd.R_mono (Kd.R_far (p := ⟨gb159, 3, none⟩) (Kd.R_far (p := ⟨gb159, 2, none⟩) (Kd.R_far (p := ⟨gb159, 1, none⟩) (Kd.R_far (p := ⟨gb159, 0, none⟩) (Kd.R_types HO151.out BK159.out (by decide)) (fun _ hk => hk.2) (.string ((rd_T35 ((rd_T33 l0_4 x41_2).f3) t148).f0))) (fun _ hk => hk.2) (.bool (true))) (fun _ hk => hk.2) (.int .i64 ((rd_T35 ((rd_T33 l0_4 x41_2).f3) t148).f2))) (fun _ hk => hk.2) (.slice A158_3 ((rd_T35 ((rd_T33 l0_4 x41_2).f3) t148).f3).length c158_3)) (fun _ h_ => h_.1))) hb); have n4_ := A0 (blk_below (g := gb101) (o := .cells #[.int .i64 a0_0, .slice A0_1 l0_1.length c0_1, .slice A0_2 l0_2.length c0_2, .slice A0_3 l0_3.length c0_3, .slice (some ad130) l0_4.length c0_4] 26 (0, 0)) (bkG BK101 NB101_159) hb); have n5_ := A0 (blk_below (g := gb131) (o := .cells #[.string ((rd_T33 l0_4 x41_2).f0), .slice A130_1 ((rd_T33 l0_4 x41_2).f1).length c130_1, .string ((rd_T33 l0_4 x41_2).f2), .slice (some ad158) ((rd_T33 l0_4 x41_2).f3).length c130_3] 33 (0, 0)) (bkG BK131 NB131_159) hb); have n6_ := A0 (blk_below (g := gb139) (o := .cells #[.string t132, .bool t133, .int .i64 t134, .slice Ao68 t135.length co68] 35 (0, 0)) (bkG BK139 NB139_159) hb); have n7_ := A0 (blk_below (g := gb159) (o := .cells #[.string ((rd_T35 ((rd_T33 l0_4 x41_2).f3) t148).f0), .bool true, .int .i64 ((rd_T35 ((rd_T33 l0_4 x41_2).f3) t148).f2), .slice A158_3 ((rd_T35 ((rd_T33 l0_4 x41_2).f3) t148).f3).length c158_3] 35 (0, 0)) (by (with_reducible repeat first | apply blk_drewN | apply blk_drew | apply blk_alloc); refine blk_put (cs := #[.string ((rd_T35 ((rd_T33 l0_4 x41_2).f3) t148).f0), .bool (true), .int .i64 ((rd_T35 ((rd_T33 l0_4 x41_2).f3) t148).f2), .slice none 0 0]) ?_ 3 _ rfl; (with_reducible repeat first | apply blk_drewN | apply blk_drew | apply blk_alloc); refine blk_put (cs := #[.string ((rd_T35 ((rd_T33 l0_4 x41_2).f3) t148).f0), .bool (true), .int .i64 0, .slice none 0 0]) ?_ 2 _ rfl; (with_reducible repeat first | apply blk_drewN | apply blk_drew | apply blk_alloc); refine blk_put (cs := #[.string ((rd_T35 ((rd_T33 l0_4 x41_2).f3) t148).f0), .bool false, .int .i64 0, .slice none 0 0]) ?_ 1 _ rfl; (with_reducible repeat first | apply blk_drewN | apply blk_drew | apply blk_alloc); refine blk_put (cs := #[.string (⟨#[]⟩ : ByteArray), .bool false, .int .i64 0, .slice none 0 0]) ?_ 0 _ rfl; (with_reducible repeat first | apply blk_drewN | apply blk_drew | apply blk_alloc); exact BK159.out) hb); have n8_ := A0 (below_step (hbA HB) hb); clear HO137; clear HO143; clear HO147; clear HO151; clear BK101; clear BK131; clear BK139; clear BK159; clear HB; have HO137 := n0_; have HO143 := n1_; have HO147 := n2_; have HO151 := n3_; have BK101 := n4_; have BK131 := n5_; have BK139 := n6_; have BK159 := n7_; have HB := n8_; clear n0_ n1_ n2_ n3_ n4_ n5_ n6_ n7_ n8_; (try clear hb); (try clear hb2); (try clear hk); (try clear hi); have hcz146_0 : w145.cell? ⟨gb159, 0, none⟩ = some (.string ((rd_T35 ((rd_T33 l0_4 x41_2).f3) t148).f0)) := bcA BK159 0; have hcz146_1 : w145.cell? ⟨gb159, 1, none⟩ = some (.bool true) := bcA BK159 1; have hcz146_2 : w145.cell? ⟨gb159, 2, none⟩ = some (.int .i64 ((rd_T35 ((rd_T33 l0_4 x41_2).f3) t148).f2)) := bcA BK159 2; have hcz146_3 : w145.cell? ⟨gb159, 3, none⟩ = some (.slice A158_3 ((rd_T35 ((rd_T33 l0_4 x41_2).f3) t148).f3).length c158_3) := bcA BK159 3; have hfz146_0 := blk_frozen BK159.out 0; have hfz146_1 := blk_frozen BK159.out 1; have hfz146_2 := blk_frozen BK159.out 2; have hfz146_3 := blk_frozen BK159.out 3))
                    go_meet
                    case rel => exact ⟨_, (false), (by first | rfl | (simp; done) | (simp [*]; done)), H', ⟨by have := HJ4.out; have := HK2.out; first | omega | exact Nat.le_refl _⟩, ⟨by (with_reducible repeat first | apply Kd.V_alloc | apply Kd.V_drewN | apply Kd.V_drew); exact Kd.V_mono HO137.out (fun _ hk => ⟨hk.1.1.1.1, ⟨hk.1.1.1.2.1, ⟨hk.1.1.1.2.2, hk.2⟩⟩⟩)⟩, ⟨bkA BK101⟩, ⟨bkA BK131⟩, ⟨bkA BK139⟩, ⟨by rw [hbt_]; exact bkA BK159⟩, ⟨hbA HB⟩⟩
                   ·
                    exact absurd rfl c137
                  ·
                   rw [if_neg c136] at H
                   exact absurd H (by simp)
                 ·
                  replace c135 := Bool.eq_false_iff.mpr c135
                  subst c135
                  have hbt_ := Nbq134.out.symm
                  have hd_ := c85b0
                  rw [hbt_] at hd_
                  exact absurd (show (false != !false) = false from hd_) (by decide)
              ·
               replace c84 := Bool.eq_false_iff.mpr c84
               subst c84
               have H1 : (none) = some r := by rw [if_neg (show ¬ (false = true) by decide)] at H; exact H
               clear H
               have H := H1
               clear H1
               exact absurd H (by simp)
             case rest =>
              clear HC57
              obtain ⟨kq, x133_56, rfl, HA, HJ56, HO_140003, BK101, BK131, BK139, BK159, HB⟩ := hcut
              cases kq with
              | zero => exact absurd HA.out (by simp [j2])
              | succ kj56 =>
               have H := HA.out; clear HA
               simp only [j2] at H
               by_cases c175 : x133_56 = true
               ·
                subst c175
                have H1 : (none) = some r := by rw [if_pos rfl] at H; exact H
                clear H
                have H := H1
                clear H1
                exact absurd H (by simp)
               ·
                replace c175 := Bool.eq_false_iff.mpr c175
                subst c175
                have H1 : (l0 kj56 a1 a2 l3 l0_4 (l0_4.length : Int) (wrap64 (x41_2 + 1)) a0_0 l0_1 l0_2 l0_3 l0_4) = some r := by rw [if_neg (show ¬ (false = true) by decide)] at H; exact H
                clear H
                have H := H1
                clear H1
                have H' := Aside0.mk H
                clear H
                go_wp2
                go_roundg kj56
                case measure => have := HJ4.out; have := HK2.out; have := HJ56.out; omega
                case rel => exact ⟨(wrap64 (x41_2 + 1)), (by first | rfl | (simp; done) | (simp [*]; done)), H', ⟨by have := HJ4.out; have := HK2.out; have := HJ56.out; omega⟩, ⟨bkA BK101⟩, ⟨hbA HB⟩⟩
            ·
             rw [if_neg c56] at H
             exact absurd H (by simp)
           ·
            rw [if_neg c55] at H
            exact absurd H (by simp)
        ·
         rw [if_neg c22] at H
         exact absurd H (by simp)
       ·
        rw [if_neg c21] at H
        exact absurd H (by simp)
      ·
       rw [if_neg c20] at H
       have c20b0 : decide (x41_2 < (l0_4.length : Int)) = false := decide_eq_false c20
       clear c20
       replace H := Option.bind_eq_some_iff.mp H
       obtain ⟨⟨t193, t194, t195, t198, t199⟩, A1760, H⟩ := H
       replace H : ((agatelaw10_Of.f k2 a0_0 l0_1 l0_2 l0_3 l0_4).bind fun bt201 => ((agateref10_Init.f k2 bt201.2.2.2.1 a1).bind fun t215 => (if (t199 != (decide (t215 ≥ 0))) = true then (none) else (if t199 = true then ((agatelaw07_Of.f t193 t194 t195 t198).bind fun bt216 => (if 0 ≤ t215 then (if t215 < (bt201.2.2.2.1.length : Int) then ((agateref07_Same_s.f bt216.1 bt216.2.1 bt216.2.2.1 bt216.2.2.2 ((rd_T63 bt201.2.2.2.1 t215).f0) ((rd_T63 bt201.2.2.2.1 t215).f1) ((rd_T63 bt201.2.2.2.1 t215).f2) ((rd_T63 bt201.2.2.2.1 t215).f3)).bind fun t223 => (if t223 = true then (j3 k2 a1 a2 l3 false) else (none))) else (none)) else (none))) else (j3 k2 a1 a2 l3 (t193.toList != ([] : List UInt8))))))) = some r := H
       have A176 := Aside0.mk A1760
       clear A1760
       replace H := Option.bind_eq_some_iff.mp H
       obtain ⟨⟨t201, t202, t205, t208, t211⟩, A1770, H⟩ := H
       replace H : ((agateref10_Init.f k2 t208 a1).bind fun t215 => (if (t199 != (decide (t215 ≥ 0))) = true then (none) else (if t199 = true then ((agatelaw07_Of.f t193 t194 t195 t198).bind fun bt216 => (if 0 ≤ t215 then (if t215 < (t208.length : Int) then ((agateref07_Same_s.f bt216.1 bt216.2.1 bt216.2.2.1 bt216.2.2.2 ((rd_T63 t208 t215).f0) ((rd_T63 t208 t215).f1) ((rd_T63 t208 t215).f2) ((rd_T63 t208 t215).f3)).bind fun t223 => (if t223 = true then (j3 k2 a1 a2 l3 false) else (none))) else (none)) else (none))) else (j3 k2 a1 a2 l3 (t193.toList != ([] : List UInt8)))))) = some r := H
       have A177 := Aside0.mk A1770
       clear A1770
       replace H := Option.bind_eq_some_iff.mp H
       obtain ⟨t215, A1780, H⟩ := H
       replace H : (if (t199 != (decide (t215 ≥ 0))) = true then (none) else (if t199 = true then ((agatelaw07_Of.f t193 t194 t195 t198).bind fun bt216 => (if 0 ≤ t215 then (if t215 < (t208.length : Int) then ((agateref07_Same_s.f bt216.1 bt216.2.1 bt216.2.2.1 bt216.2.2.2 ((rd_T63 t208 t215).f0) ((rd_T63 t208 t215).f1) ((rd_T63 t208 t215).f2) ((rd_T63 t208 t215).f3)).bind fun t223 => (if t223 = true then (j3 k2 a1 a2 l3 false) else (none))) else (none)) else (none))) else (j3 k2 a1 a2 l3 (t193.toList != ([] : List UInt8))))) = some r := H
       have A178 := Aside0.mk A1780
       clear A1780
       have HC179 := Aside0.mk H
       clear H; have hcz180_0 : wr.cell? ⟨gb101, 0, none⟩ = some (.int .i64 a0_0) := bcA BK101 0; have hcz180_1 : wr.cell? ⟨gb101, 1, none⟩ = some (.slice A0_1 l0_1.length c0_1) := bcA BK101 1; have hcz180_2 : wr.cell? ⟨gb101, 2, none⟩ = some (.slice A0_2 l0_2.length c0_2) := bcA BK101 2; have hcz180_3 : wr.cell? ⟨gb101, 3, none⟩ = some (.slice A0_3 l0_3.length c0_3) := bcA BK101 3; have hcz180_4 : wr.cell? ⟨gb101, 4, none⟩ = some (.slice A0_4 l0_4.length c0_4) := bcA BK101 4; have hfz180_0 := blk_frozen BK101.out 0; have hfz180_1 := blk_frozen BK101.out 1; have hfz180_2 := blk_frozen BK101.out 2; have hfz180_3 := blk_frozen BK101.out 3; have hfz180_4 := blk_frozen BK101.out 4
       go_upto_region 22 with (first | ((with_reducible refine gate_callee (f := 16) rfl ?_); refine goesL_ (some 138) rfl rfl Try.func16 (by kernel_rfl) rfl #[.agg #[.int .i64 a0_0, .slice A0_1 l0_1.length c0_1, .slice A0_2 l0_2.length c0_2, .slice A0_3 l0_3.length c0_3, .slice A0_4 l0_4.length c0_4], .string a1] rfl (by (try simp only [List.map_toArray, List.map_cons, List.map_nil]); first | done | rfl | (simp only [List.length_drop, List.length_take]; rfl)) ?_; (with_reducible refine (model_Model_Init.calls a0_0 _ _ l0_1 _ _ l0_2 _ _ l0_3 _ _ l0_4 a1 t193 t194 t195 t198 t199 _ ?side1 ?side2 ?side3 ?side4 ?side5 ?side6 ?side7 ?side8 A176.out).mono ?_); (case side1 => ((repeat first | (with_reducible refine Kd.C_alloc ?_ _) | (with_reducible refine Kd.C_drewN ?_ _) | (with_reducible refine Kd.C_drew ?_)); exact (Kd.C_below HR0_1.out HB.out))); (case side2 => exact HC0_1.out); (case side3 => ((repeat first | (with_reducible refine Kd.C_alloc ?_ _) | (with_reducible refine Kd.C_drewN ?_ _) | (with_reducible refine Kd.C_drew ?_)); exact (Kd.C_below HR0_2.out HB.out))); (case side4 => exact HC0_2.out); (case side5 => ((repeat first | (with_reducible refine Kd.C_alloc ?_ _) | (with_reducible refine Kd.C_drewN ?_ _) | (with_reducible refine Kd.C_drew ?_)); exact (Kd.C_below HR0_3.out HB.out))); (case side6 => exact HC0_3.out); (case side7 => ((repeat first | (with_reducible refine Kd.C_alloc ?_ _) | (with_reducible refine Kd.C_drewN ?_ _) | (with_reducible refine Kd.C_drew ?_)); exact (Kd.C_below HR0_4.out HB.out))); (case side8 => exact HC0_4.out); rintro e w181 ⟨v196, rfl, ho0, hb⟩; refine ⟨_, rfl, ?_⟩; have n0_ := A0 (Kd.R_lower ho0 (below_size (hbA HB))); have n1_ := A0 (blk_below (g := gb101) (bkA BK101) hb); have n2_ := A0 (below_step (hbA HB) hb); clear BK101; clear HB; have HO197 := n0_; have BK101 := n1_; have HB := n2_; clear n0_ n1_ n2_; (try clear hb); (try clear hb2); (try clear hk); (try clear hi); (try clear ho0)) | ((with_reducible refine gate_dst (N := 18) rfl ?_); (try (refine gate_guard (by rfl) ?_; dsimp only)); refine box_event ?hg (N := 18) ?hd (cs := #[.string (⟨#[]⟩ : ByteArray), .int .i64 0, .slice none 0 0, .string (⟨#[]⟩ : ByteArray)]) (t := 51) ?hr ?_; (case hd => rfl); (case hg => rfl); (case hr => first | (go_simp; done) | (go_simp; rfl)); intro gb200 hg w182 hbox hb; have n0_ := A0 (Kd.R_below (krA HO197) hb); have n1_ := A0 (blk_below (g := gb101) (bkA BK101) hb); have n2_ := A0 (below_step (hbA HB) hb); have n3_ := A0 (hbox); have n4_ := A0 ((by rw [hg]; exact (below_size (hbA HB)) : w.heap.size ≤ gb200)); have n5_ := A0 ((by rw [hg]; exact (below_size (hbA HB)) : w.heap.size ≤ gb200)); have n6_ := A0 ((by rw [hg]; exact Nat.ne_of_lt (blk_lt (g := gb101) (bkA BK101)) : gb101 ≠ gb200)); have n7_ := A0 ((by rw [hg]; exact Nat.ne_of_gt (blk_lt (g := gb101) (bkA BK101)) : gb200 ≠ gb101)); clear HO197; clear BK101; clear HB; have HO197 := n0_; have BK101 := n1_; have HB := n2_; have BK200 := n3_; have GW200 := n4_; have GE200 := n5_; have NB101_200 := n6_; have NB200_101 := n7_; clear n0_ n1_ n2_ n3_ n4_ n5_ n6_ n7_; clear hb hbox hg; have hnb183 := NB200_101.out; have hnc183 := NB101_200.out; have hcz184_0 : w182.cell? ⟨gb200, 0, none⟩ = some (.string (⟨#[]⟩ : ByteArray)) := bcA BK200 0; have hcz184_1 : w182.cell? ⟨gb200, 1, none⟩ = some (.int .i64 0) := bcA BK200 1; have hcz184_2 : w182.cell? ⟨gb200, 2, none⟩ = some (.slice none 0 0) := bcA BK200 2; have hcz184_3 : w182.cell? ⟨gb200, 3, none⟩ = some (.string (⟨#[]⟩ : ByteArray)) := bcA BK200 3; have hfz184_0 := blk_frozen BK200.out 0; have hfz184_1 := blk_frozen BK200.out 1; have hfz184_2 := blk_frozen BK200.out 2; have hfz184_3 := blk_frozen BK200.out 3; obtain ⟨Ao185, co185, eo185⟩ := Kd.R_slice HO197.out; subst eo185) | ((with_reducible refine gate_store (t := 51) (p := 18) rfl ?_); refine store_event (t := 51) (p := 18) (v := ?vo_w186) (w1 := ((((w182.setCell ⟨gb200, 0, none⟩ (.string t193)).setCell ⟨gb200, 1, none⟩ (.int .i64 t194)).setCell ⟨gb200, 2, none⟩ (.slice Ao185 t195.length co185)).setCell ⟨gb200, 3, none⟩ (.string t198))) ?hg ?ho ?hn ?hr ?_; (case ho => rfl); (case hg => rfl); (case hn => rfl); (case hr => first | (go_simp; done) | (go_simp; rfl)); intro w186 hw; have n0_ : Aside0 (Kd.R (Kd.int .i64) 2 w186 w.heap.size (fun _ => True) (.slice Ao185 t195.length co185) t195) := ⟨(by rw [hw]; exact (by (with_reducible repeat first | apply Kd.R_alloc | apply Kd.R_drewN | apply Kd.R_drew); exact Kd.R_mono (Kd.R_far (p := ⟨gb200, 3, none⟩) (Kd.R_far (p := ⟨gb200, 2, none⟩) (Kd.R_far (p := ⟨gb200, 1, none⟩) (Kd.R_far (p := ⟨gb200, 0, none⟩) (Kd.R_types HO197.out BK200.out (by decide)) (fun _ hk => hk.2) (.string t193)) (fun _ hk => hk.2) (.int .i64 t194)) (fun _ hk => hk.2) (.slice Ao185 t195.length co185)) (fun _ hk => hk.2) (.string t198)) (fun _ hk => trivial)))⟩; have n1_ : Aside0 (w186.heap[gb101]? = some (.cells #[.int .i64 a0_0, .slice A0_1 l0_1.length c0_1, .slice A0_2 l0_2.length c0_2, .slice A0_3 l0_3.length c0_3, .slice A0_4 l0_4.length c0_4] 26 (0, 0))) := ⟨(by rw [hw]; exact (bkG BK101 NB101_200))⟩; have n2_ : Aside0 (w186.heap[gb200]? = some (.cells #[.string t193, .int .i64 t194, .slice Ao185 t195.length co185, .string t198] 51 (0, 0))) := ⟨(by rw [hw]; exact (by (with_reducible repeat first | apply blk_drewN | apply blk_drew | apply blk_alloc); refine blk_put (cs := #[.string t193, .int .i64 t194, .slice Ao185 t195.length co185, .string (⟨#[]⟩ : ByteArray)]) ?_ 3 _ rfl; (with_reducible repeat first | apply blk_drewN | apply blk_drew | apply blk_alloc); refine blk_put (cs := #[.string t193, .int .i64 t194, .slice none 0 0, .string (⟨#[]⟩ : ByteArray)]) ?_ 2 _ rfl; (with_reducible repeat first | apply blk_drewN | apply blk_drew | apply blk_alloc); refine blk_put (cs := #[.string t193, .int .i64 0, .slice none 0 0, .string (⟨#[]⟩ : ByteArray)]) ?_ 1 _ rfl; (with_reducible repeat first | apply blk_drewN | apply blk_drew | apply blk_alloc); refine blk_put (cs := #[.string (⟨#[]⟩ : ByteArray), .int .i64 0, .slice none 0 0, .string (⟨#[]⟩ : ByteArray)]) ?_ 0 _ rfl; (with_reducible repeat first | apply blk_drewN | apply blk_drew | apply blk_alloc); exact BK200.out))⟩; have n3_ : Aside0 (Below w.heap.size w w186) := ⟨(by rw [hw]; exact (hbA HB))⟩; clear hw; clear HO197; clear BK101; clear BK200; clear HB; have HO197 := n0_; have BK101 := n1_; have BK200 := n2_; have HB := n3_; clear n0_ n1_ n2_ n3_; have hcz187_0 : w186.cell? ⟨gb101, 0, none⟩ = some (.int .i64 a0_0) := bcA BK101 0; have hcz187_1 : w186.cell? ⟨gb101, 1, none⟩ = some (.slice A0_1 l0_1.length c0_1) := bcA BK101 1; have hcz187_2 : w186.cell? ⟨gb101, 2, none⟩ = some (.slice A0_2 l0_2.length c0_2) := bcA BK101 2; have hcz187_3 : w186.cell? ⟨gb101, 3, none⟩ = some (.slice A0_3 l0_3.length c0_3) := bcA BK101 3; have hcz187_4 : w186.cell? ⟨gb101, 4, none⟩ = some (.slice A0_4 l0_4.length c0_4) := bcA BK101 4; have hfz187_0 := blk_frozen BK101.out 0; have hfz187_1 := blk_frozen BK101.out 1; have hfz187_2 := blk_frozen BK101.out 2; have hfz187_3 := blk_frozen BK101.out 3; have hfz187_4 := blk_frozen BK101.out 4) | ((with_reducible refine gate_callee (f := 17) rfl ?_); refine goesL_ (some 142) rfl rfl Try.func17 (by kernel_rfl) rfl #[.agg #[.int .i64 a0_0, .slice A0_1 l0_1.length c0_1, .slice A0_2 l0_2.length c0_2, .slice A0_3 l0_3.length c0_3, .slice A0_4 l0_4.length c0_4]] rfl (by (try simp only [List.map_toArray, List.map_cons, List.map_nil]); first | done | rfl | (simp only [List.length_drop, List.length_take]; rfl)) ?_; (with_reducible refine (agatelaw10_Of.calls k2 a0_0 (fun k_ => k_ < w.heap.size) _ _ l0_1 (fun k_ => k_ < w.heap.size) _ _ l0_2 (fun k_ => k_ < w.heap.size) _ _ l0_3 (fun k_ => k_ < w.heap.size) _ _ l0_4 t201 t202 t205 t208 t211 _ ?side1 ?side2 ?side3 ?side4 A177.out).mono ?_); (case side1 => exact Kd.V_mk HC0_1.out (Kd.F_below (Kd.C_F k79_heap HR0_1.out) (hbA HB))); (case side2 => exact Kd.V_mk HC0_2.out (Kd.F_below (Kd.C_F k79_heap HR0_2.out) (hbA HB))); (case side3 => exact Kd.V_mk HC0_3.out (Kd.F_below (Kd.C_F k51_heap HR0_3.out) (hbA HB))); (case side4 => exact Kd.V_mk HC0_4.out (Kd.F_below (Kd.C_F k33_heap HR0_4.out) (hbA HB))); rintro e w188 ⟨v203, v206, v209, v212, rfl, ho0, ho1, ho2, ho3, hb⟩; refine ⟨_, rfl, ?_⟩; have n0_ := A0 (Kd.R_below (krA HO197) hb); have n1_ := A0 (Kd.N_lower (Kd.N_mono (ok' := fun k_ => some k_ ≠ (v206 : Value).ownBlock ∧ some k_ ≠ (v209 : Value).ownBlock ∧ some k_ ≠ (v212 : Value).ownBlock ∧ some k_ ≠ (.slice Ao185 t195.length co185 : Value).ownBlock ∧ k_ ≠ gb101 ∧ k_ ≠ gb200) ho0 (fun k_ hk_ => ⟨hk_.2.1, hk_.2.2.1, hk_.2.2.2, Or.elim hk_.1 (fun hs_ => Or.elim hs_ (fun hs_ => fun e_ => Nat.not_le.2 hs_ (Kd.R_base HO197.out k_ e_.symm)) (fun hs_ => Or.elim hs_ (fun hs_ => fun e_ => Nat.not_le.2 hs_ (Kd.R_base HO197.out k_ e_.symm)) (fun hs_ => Or.elim hs_ (fun hs_ => fun e_ => Nat.not_le.2 hs_ (Kd.R_base HO197.out k_ e_.symm)) (fun hs_ => fun e_ => Nat.not_le.2 hs_ (Kd.R_base HO197.out k_ e_.symm))))) (fun hn_ => (Kd.fresh' (Kd.R_lt (krA HO197)) k_ hn_)), Or.elim hk_.1 (fun hs_ => Or.elim hs_ (nleG GW101) (fun hs_ => Or.elim hs_ (nleG GW101) (fun hs_ => Or.elim hs_ (nleG GW101) (nleG GW101)))) (fun hn_ => (Kd.freshB (g := gb101) (bkA BK101) k_ hn_)), Or.elim hk_.1 (fun hs_ => Or.elim hs_ (nleG GW200) (fun hs_ => Or.elim hs_ (nleG GW200) (fun hs_ => Or.elim hs_ (nleG GW200) (nleG GW200)))) (fun hn_ => (Kd.freshB (g := gb200) (bkA BK200) k_ hn_))⟩)) (below_size (hbA HB))); have n2_ := A0 (Kd.N_lower (Kd.N_mono (ok' := fun k_ => some k_ ≠ (v203 : Value).ownBlock ∧ some k_ ≠ (v209 : Value).ownBlock ∧ some k_ ≠ (v212 : Value).ownBlock ∧ some k_ ≠ (.slice Ao185 t195.length co185 : Value).ownBlock ∧ k_ ≠ gb101 ∧ k_ ≠ gb200) ho1 (fun k_ hk_ => ⟨hk_.2.1, hk_.2.2.1, hk_.2.2.2, Or.elim hk_.1 (fun hs_ => Or.elim hs_ (fun hs_ => fun e_ => Nat.not_le.2 hs_ (Kd.R_base HO197.out k_ e_.symm)) (fun hs_ => Or.elim hs_ (fun hs_ => fun e_ => Nat.not_le.2 hs_ (Kd.R_base HO197.out k_ e_.symm)) (fun hs_ => Or.elim hs_ (fun hs_ => fun e_ => Nat.not_le.2 hs_ (Kd.R_base HO197.out k_ e_.symm)) (fun hs_ => fun e_ => Nat.not_le.2 hs_ (Kd.R_base HO197.out k_ e_.symm))))) (fun hn_ => (Kd.fresh' (Kd.R_lt (krA HO197)) k_ hn_)), Or.elim hk_.1 (fun hs_ => Or.elim hs_ (nleG GW101) (fun hs_ => Or.elim hs_ (nleG GW101) (fun hs_ => Or.elim hs_ (nleG GW101) (nleG GW101)))) (fun hn_ => (Kd.freshB (g := gb101) (bkA BK101) k_ hn_)), Or.elim hk_.1 (fun hs_ => Or.elim hs_ (nleG GW200) (fun hs_ => Or.elim hs_ (nleG GW200) (fun hs_ => Or.elim hs_ (nleG GW200) (nleG GW200)))) (fun hn_ => (Kd.freshB (g := gb200) (bkA BK200) k_ hn_))⟩)) (below_size (hbA HB))); have n3_ := A0 (Kd.N_lower (Kd.N_mono (ok' := fun k_ => some k_ ≠ (v203 : Value).ownBlock ∧ some k_ ≠ (v206 : Value).ownBlock ∧ some k_ ≠ (v212 : Value).ownBlock ∧ some k_ ≠ (.slice Ao185 t195.length co185 : Value).ownBlock ∧ k_ ≠ gb101 ∧ k_ ≠ gb200) ho2 (fun k_ hk_ => ⟨hk_.2.1, hk_.2.2.1, hk_.2.2.2, Or.elim hk_.1 (fun hs_ => Or.elim hs_ (fun hs_ => fun e_ => Nat.not_le.2 hs_ (Kd.R_base HO197.out k_ e_.symm)) (fun hs_ => Or.elim hs_ (fun hs_ => fun e_ => Nat.not_le.2 hs_ (Kd.R_base HO197.out k_ e_.symm)) (fun hs_ => Or.elim hs_ (fun hs_ => fun e_ => Nat.not_le.2 hs_ (Kd.R_base HO197.out k_ e_.symm)) (fun hs_ => fun e_ => Nat.not_le.2 hs_ (Kd.R_base HO197.out k_ e_.symm))))) (fun hn_ => (Kd.fresh' (Kd.R_lt (krA HO197)) k_ hn_)), Or.elim hk_.1 (fun hs_ => Or.elim hs_ (nleG GW101) (fun hs_ => Or.elim hs_ (nleG GW101) (fun hs_ => Or.elim hs_ (nleG GW101) (nleG GW101)))) (fun hn_ => (Kd.freshB (g := gb101) (bkA BK101) k_ hn_)), Or.elim hk_.1 (fun hs_ => Or.elim hs_ (nleG GW200) (fun hs_ => Or.elim hs_ (nleG GW200) (fun hs_ => Or.elim hs_ (nleG GW200) (nleG GW200)))) (fun hn_ => (Kd.freshB (g := gb200) (bkA BK200) k_ hn_))⟩)) (below_size (hbA HB))); have n4_ := A0 (Kd.N_lower (Kd.N_mono (ok' := fun k_ => some k_ ≠ (v203 : Value).ownBlock ∧ some k_ ≠ (v206 : Value).ownBlock ∧ some k_ ≠ (v209 : Value).ownBlock ∧ some k_ ≠ (.slice Ao185 t195.length co185 : Value).ownBlock ∧ k_ ≠ gb101 ∧ k_ ≠ gb200) ho3 (fun k_ hk_ => ⟨hk_.2.1, hk_.2.2.1, hk_.2.2.2, Or.elim hk_.1 (fun hs_ => Or.elim hs_ (fun hs_ => fun e_ => Nat.not_le.2 hs_ (Kd.R_base HO197.out k_ e_.symm)) (fun hs_ => Or.elim hs_ (fun hs_ => fun e_ => Nat.not_le.2 hs_ (Kd.R_base HO197.out k_ e_.symm)) (fun hs_ => Or.elim hs_ (fun hs_ => fun e_ => Nat.not_le.2 hs_ (Kd.R_base HO197.out k_ e_.symm)) (fun hs_ => fun e_ => Nat.not_le.2 hs_ (Kd.R_base HO197.out k_ e_.symm))))) (fun hn_ => (Kd.fresh' (Kd.R_lt (krA HO197)) k_ hn_)), Or.elim hk_.1 (fun hs_ => Or.elim hs_ (nleG GW101) (fun hs_ => Or.elim hs_ (nleG GW101) (fun hs_ => Or.elim hs_ (nleG GW101) (nleG GW101)))) (fun hn_ => (Kd.freshB (g := gb101) (bkA BK101) k_ hn_)), Or.elim hk_.1 (fun hs_ => Or.elim hs_ (nleG GW200) (fun hs_ => Or.elim hs_ (nleG GW200) (fun hs_ => Or.elim hs_ (nleG GW200) (nleG GW200)))) (fun hn_ => (Kd.freshB (g := gb200) (bkA BK200) k_ hn_))⟩)) (below_size (hbA HB))); have n5_ := A0 (blk_below (g := gb101) (bkA BK101) hb); have n6_ := A0 (blk_below (g := gb200) (bkA BK200) hb); have n7_ := A0 (below_step (hbA HB) hb); clear HO197; clear BK101; clear BK200; clear HB; have HO197 := n0_; have HO204 := n1_; have HO207 := n2_; have HO210 := n3_; have HO213 := n4_; have BK101 := n5_; have BK200 := n6_; have HB := n7_; clear n0_ n1_ n2_ n3_ n4_ n5_ n6_ n7_; (try clear hb); (try clear hb2); (try clear hk); (try clear hi); (try clear ho0); (try clear ho1); (try clear ho2); (try clear ho3)) | ((with_reducible refine gate_dst (N := 20) rfl ?_); (try (refine gate_guard (by rfl) ?_; dsimp only)); refine box_event ?hg (N := 20) ?hd (cs := #[.int .i64 0, .slice none 0 0, .slice none 0 0, .slice none 0 0, .slice none 0 0]) (t := 58) ?hr ?_; (case hd => rfl); (case hg => rfl); (case hr => first | (go_simp; done) | (go_simp; rfl)); intro gb214 hg w189 hbox hb; have n0_ := A0 (Kd.R_below (krA HO197) hb); have n1_ := A0 (Kd.N_below (Kd.N_elderB (by (with_reducible repeat first | apply Kd.N_alloc | apply Kd.N_drewN | apply Kd.N_drew); exact HO204.out) gb214 (Nat.le_of_eq hg.symm)) hb); have n2_ := A0 (Kd.N_below (Kd.N_elderB (by (with_reducible repeat first | apply Kd.N_alloc | apply Kd.N_drewN | apply Kd.N_drew); exact HO207.out) gb214 (Nat.le_of_eq hg.symm)) hb); have n3_ := A0 (Kd.N_below (Kd.N_elderB (by (with_reducible repeat first | apply Kd.N_alloc | apply Kd.N_drewN | apply Kd.N_drew); exact HO210.out) gb214 (Nat.le_of_eq hg.symm)) hb); have n4_ := A0 (Kd.N_below (Kd.N_elderB (by (with_reducible repeat first | apply Kd.N_alloc | apply Kd.N_drewN | apply Kd.N_drew); exact HO213.out) gb214 (Nat.le_of_eq hg.symm)) hb); have n5_ := A0 (blk_below (g := gb101) (bkA BK101) hb); have n6_ := A0 (blk_below (g := gb200) (bkA BK200) hb); have n7_ := A0 (below_step (hbA HB) hb); have n8_ := A0 (hbox); have n9_ := A0 ((by rw [hg]; exact (below_size (hbA HB)) : w.heap.size ≤ gb214)); have n10_ := A0 ((by rw [hg]; exact (below_size (hbA HB)) : w.heap.size ≤ gb214)); have n11_ := A0 ((by rw [hg]; exact Nat.ne_of_lt (blk_lt (g := gb101) (bkA BK101)) : gb101 ≠ gb214)); have n12_ := A0 ((by rw [hg]; exact Nat.ne_of_gt (blk_lt (g := gb101) (bkA BK101)) : gb214 ≠ gb101)); have n13_ := A0 ((by rw [hg]; exact Nat.ne_of_lt (blk_lt (g := gb200) (bkA BK200)) : gb200 ≠ gb214)); have n14_ := A0 ((by rw [hg]; exact Nat.ne_of_gt (blk_lt (g := gb200) (bkA BK200)) : gb214 ≠ gb200)); clear HO197; clear HO204; clear HO207; clear HO210; clear HO213; clear BK101; clear BK200; clear HB; have HO197 := n0_; have HO204 := n1_; have HO207 := n2_; have HO210 := n3_; have HO213 := n4_; have BK101 := n5_; have BK200 := n6_; have HB := n7_; have BK214 := n8_; have GW214 := n9_; have GE214 := n10_; have NB101_214 := n11_; have NB214_101 := n12_; have NB200_214 := n13_; have NB214_200 := n14_; clear n0_ n1_ n2_ n3_ n4_ n5_ n6_ n7_ n8_ n9_ n10_ n11_ n12_ n13_ n14_; clear hb hbox hg; have hnb190 := NB214_101.out; have hnc190 := NB101_214.out; have hnb191 := NB214_200.out; have hnc191 := NB200_214.out; have hcz192_0 : w189.cell? ⟨gb214, 0, none⟩ = some (.int .i64 0) := bcA BK214 0; have hcz192_1 : w189.cell? ⟨gb214, 1, none⟩ = some (.slice none 0 0) := bcA BK214 1; have hcz192_2 : w189.cell? ⟨gb214, 2, none⟩ = some (.slice none 0 0) := bcA BK214 2; have hcz192_3 : w189.cell? ⟨gb214, 3, none⟩ = some (.slice none 0 0) := bcA BK214 3; have hcz192_4 : w189.cell? ⟨gb214, 4, none⟩ = some (.slice none 0 0) := bcA BK214 4; have hfz192_0 := blk_frozen BK214.out 0; have hfz192_1 := blk_frozen BK214.out 1; have hfz192_2 := blk_frozen BK214.out 2; have hfz192_3 := blk_frozen BK214.out 3; have hfz192_4 := blk_frozen BK214.out 4; obtain ⟨Ao193, co193, eo193⟩ := Kd.N_slice HO204.out; subst eo193; obtain ⟨Ao194, co194, eo194⟩ := Kd.N_slice HO207.out; subst eo194; obtain ⟨Ao195, co195, eo195⟩ := Kd.N_slice HO210.out; subst eo195; obtain ⟨Ao196, co196, eo196⟩ := Kd.N_slice HO213.out; subst eo196) | ((with_reducible refine gate_callee (f := 18) rfl ?_); refine goesL_ (some 146) rfl rfl Try.func18 (by kernel_rfl) rfl #[.slice Ao195 t208.length co195, .string a1] rfl (by (try simp only [List.map_toArray, List.map_cons, List.map_nil]); first | done | rfl | (simp only [List.length_drop, List.length_take]; rfl)) ?_; (with_reducible refine (agateref10_Init.calls k2 _ _ t208 a1 t215 _ ?side1 ?side2 A178.out).mono ?_); (case side1 => refine (Kd.N_reads' (e := 63) (base := w.heap.size) (ok := fun k_ => ((some k_ ≠ (.slice Ao193 t202.length co193 : Value).ownBlock ∧ (some k_ ≠ (.slice Ao194 t205.length co194 : Value).ownBlock ∧ (some k_ ≠ (.slice Ao196 t211.length co196 : Value).ownBlock ∧ (some k_ ≠ (.slice Ao185 t195.length co185 : Value).ownBlock ∧ (k_ ≠ gb101 ∧ k_ ≠ gb200))))) ∧ k_ ≠ gb214)) (n := t208.length) (c := co195) ?_).2.2; exact (by (with_reducible repeat first | apply Kd.N_alloc | apply Kd.N_drewN | apply Kd.N_drew); exact (Kd.N_mono (Kd.N_far (p := ⟨gb214, 4, none⟩) (Kd.N_far (p := ⟨gb214, 3, none⟩) (Kd.N_far (p := ⟨gb214, 2, none⟩) (Kd.N_far (p := ⟨gb214, 1, none⟩) (Kd.N_far (p := ⟨gb214, 0, none⟩) (Kd.N_mono HO210.out (fun k_ hk => (⟨hk, hk.2⟩ : _ ∧ k_ ≠ gb214))) (fun _ hk => hk.2) (.int .i64 t201)) (fun _ hk => hk.2) (.slice Ao193 t202.length co193)) (fun _ hk => hk.2) (.slice Ao194 t205.length co194)) (fun _ hk => hk.2) (.slice Ao195 t208.length co195)) (fun _ hk => hk.2) (.slice Ao196 t211.length co196)) (fun _ h_ => h_.1)))); (case side2 => exact (Kd.N_reads' HO210.out).2.1); rintro e w' ⟨rfl, ⟨nd, rfl⟩⟩; refine ⟨_, rfl, ?_⟩))
       (try simp only [Act.put, List.setIfInBounds_toArray, List.set_cons_zero, List.set_cons_succ])
       go_cut [173] from 135 to 172 (fun v173 wc => ∃ (kq : Nat) (x173_178 : Bool), v173 = .bool x173_178 ∧ Aside0 (j3 kq a1 a2 l3 x173_178 = some r) ∧ Aside0 (kq ≤ k2) ∧ Aside0 (Kd.R (Kd.int .i64) 2 wc w.heap.size (fun _ => True) (.slice Ao185 t195.length co185) t195) ∧ Aside0 (Kd.N k130 130 wc w.heap.size (fun k_ => some k_ ≠ ((.slice Ao185 t195.length co185) : Value).ownBlock ∧ some k_ ≠ ((.slice Ao194 t205.length co194) : Value).ownBlock ∧ some k_ ≠ ((.slice Ao195 t208.length co195) : Value).ownBlock ∧ some k_ ≠ ((.slice Ao196 t211.length co196) : Value).ownBlock ∧ k_ ≠ gb101 ∧ k_ ≠ gb200 ∧ k_ ≠ gb214) (.slice Ao193 t202.length co193) t202) ∧ Aside0 (Kd.N k130 130 wc w.heap.size (fun k_ => some k_ ≠ ((.slice Ao185 t195.length co185) : Value).ownBlock ∧ some k_ ≠ ((.slice Ao193 t202.length co193) : Value).ownBlock ∧ some k_ ≠ ((.slice Ao195 t208.length co195) : Value).ownBlock ∧ some k_ ≠ ((.slice Ao196 t211.length co196) : Value).ownBlock ∧ k_ ≠ gb101 ∧ k_ ≠ gb200 ∧ k_ ≠ gb214) (.slice Ao194 t205.length co194) t205) ∧ Aside0 (Kd.N k63 63 wc w.heap.size (fun k_ => some k_ ≠ ((.slice Ao185 t195.length co185) : Value).ownBlock ∧ some k_ ≠ ((.slice Ao193 t202.length co193) : Value).ownBlock ∧ some k_ ≠ ((.slice Ao194 t205.length co194) : Value).ownBlock ∧ some k_ ≠ ((.slice Ao196 t211.length co196) : Value).ownBlock ∧ k_ ≠ gb101 ∧ k_ ≠ gb200 ∧ k_ ≠ gb214) (.slice Ao195 t208.length co195) t208) ∧ Aside0 (Kd.N k41 41 wc w.heap.size (fun k_ => some k_ ≠ ((.slice Ao185 t195.length co185) : Value).ownBlock ∧ some k_ ≠ ((.slice Ao193 t202.length co193) : Value).ownBlock ∧ some k_ ≠ ((.slice Ao194 t205.length co194) : Value).ownBlock ∧ some k_ ≠ ((.slice Ao195 t208.length co195) : Value).ownBlock ∧ k_ ≠ gb101 ∧ k_ ≠ gb200 ∧ k_ ≠ gb214) (.slice Ao196 t211.length co196) t211) ∧ Aside0 (wc.heap[gb101]? = some (.cells #[.int .i64 a0_0, (.slice A0_1 l0_1.length c0_1), (.slice A0_2 l0_2.length c0_2), (.slice A0_3 l0_3.length c0_3), (.slice A0_4 l0_4.length c0_4)] 26 (0, 0))) ∧ Aside0 (wc.heap[gb200]? = some (.cells #[.string t193, .int .i64 t194, (.slice Ao185 t195.length co185), .string t198] 51 (0, 0))) ∧ Aside0 (wc.heap[gb214]? = some (.cells #[.int .i64 t201, (.slice Ao193 t202.length co193), (.slice Ao194 t205.length co194), (.slice Ao195 t208.length co195), (.slice Ao196 t211.length co196)] 58 (0, 0))) ∧ Aside0 (Below w.heap.size w wc))
       case first =>
        have H := HC179.out; clear HC179
        by_cases c197 : (t199 != (decide (t215 ≥ 0))) = true
        ·
         rw [if_pos c197] at H
         have c197b0 : (t199 != (decide (t215 ≥ 0))) = true := c197
         have c197b0g : (t199 != decide (0 ≤ t215)) = true := c197b0
         have c197b0h : (t199 == decide (0 ≤ t215)) = false := bne_t c197b0
         (try (have c197b1 : decide (t199 = (decide (t215 ≥ 0))) = false := by simpa using c197))
         (try (have c197b2 : (t199 == (decide (t215 ≥ 0))) = false := by simpa using c197))
         (try (have c197b3 : ¬ (t199 = (decide (t215 ≥ 0))) := by simpa using c197))
         clear c197
         (first | rw [c197b0] | (simp only [i64_w, i32_w]; rw [c197b0]) | skip)
         exact absurd H (by simp)
        ·
         rw [if_neg c197] at H
         have c197b0 : (t199 != (decide (t215 ≥ 0))) = false := by simpa using c197
         have c197b0g : (t199 != decide (0 ≤ t215)) = false := c197b0
         have c197b0h : (t199 == decide (0 ≤ t215)) = true := bne_f c197b0
         (try (have c197b1 : decide (t199 = (decide (t215 ≥ 0))) = true := by simpa using c197))
         (try (have c197b2 : (t199 == (decide (t215 ≥ 0))) = true := by simpa using c197))
         clear c197
         (first | rw [c197b0] | (simp only [i64_w, i32_w]; rw [c197b0]) | skip)
         by_cases c198 : t199 = true
         ·
          subst c198
          have H1 : ((agatelaw07_Of.f t193 t194 t195 t198).bind fun bt216 => (if 0 ≤ t215 then (if t215 < (t208.length : Int) then ((agateref07_Same_s.f bt216.1 bt216.2.1 bt216.2.2.1 bt216.2.2.2 ((rd_T63 t208 t215).f0) ((rd_T63 t208 t215).f1) ((rd_T63 t208 t215).f2) ((rd_T63 t208 t215).f3)).bind fun t223 => (if t223 = true then (j3 k2 a1 a2 l3 false) else (none))) else (none)) else (none))) = some r := by rw [if_pos rfl] at H; exact H
          clear H
          have H := H1
          clear H1
          replace H := Option.bind_eq_some_iff.mp H
          obtain ⟨⟨t216, t217, t218, t221⟩, A1990, H⟩ := H
          replace H : (if 0 ≤ t215 then (if t215 < (t208.length : Int) then ((agateref07_Same_s.f t216 t217 t218 t221 ((rd_T63 t208 t215).f0) ((rd_T63 t208 t215).f1) ((rd_T63 t208 t215).f2) ((rd_T63 t208 t215).f3)).bind fun t223 => (if t223 = true then (j3 k2 a1 a2 l3 false) else (none))) else (none)) else (none)) = some r := H
          have A199 := Aside0.mk A1990
          clear A1990
          by_cases c200 : 0 ≤ t215
          ·
           rw [if_pos c200] at H
           have c200b0 : decide (0 ≤ t215) = true := decide_eq_true c200
           clear c200
           by_cases c201 : t215 < (t208.length : Int)
           ·
            rw [if_pos c201] at H
            have c201b0 : decide (t215 < (t208.length : Int)) = true := decide_eq_true c201
            clear c201
            replace H := Option.bind_eq_some_iff.mp H
            obtain ⟨t223, A2020, H⟩ := H
            replace H : (if t223 = true then (j3 k2 a1 a2 l3 false) else (none)) = some r := H
            have A202 := Aside0.mk A2020
            clear A2020
            by_cases c203 : t223 = true
            ·
             subst c203
             have H1 : (j3 k2 a1 a2 l3 false) = some r := by rw [if_pos rfl] at H; exact H
             clear H
             have H := H1
             clear H1
             have H' := Aside0.mk H
             clear H
             try go_wp2
             have n0_ : Aside0 (Kd.R (Kd.int .i64) 2 (((((w189.setCell ⟨gb214, 0, none⟩ (.int .i64 t201)).setCell ⟨gb214, 1, none⟩ (.slice Ao193 t202.length co193)).setCell ⟨gb214, 2, none⟩ (.slice Ao194 t205.length co194)).setCell ⟨gb214, 3, none⟩ (.slice Ao195 t208.length co195)).setCell ⟨gb214, 4, none⟩ (.slice Ao196 t211.length co196)) w.heap.size (fun _ => True) (.slice Ao185 t195.length co185) t195) := ⟨by (with_reducible repeat first | apply Kd.R_alloc | apply Kd.R_drewN | apply Kd.R_drew); exact Kd.R_mono (Kd.R_far (p := ⟨gb214, 4, none⟩) (Kd.R_far (p := ⟨gb214, 3, none⟩) (Kd.R_far (p := ⟨gb214, 2, none⟩) (Kd.R_far (p := ⟨gb214, 1, none⟩) (Kd.R_far (p := ⟨gb214, 0, none⟩) (Kd.R_types HO197.out BK214.out (by decide)) (fun _ hk => hk.2) (.int .i64 t201)) (fun _ hk => hk.2) (.slice Ao193 t202.length co193)) (fun _ hk => hk.2) (.slice Ao194 t205.length co194)) (fun _ hk => hk.2) (.slice Ao195 t208.length co195)) (fun _ hk => hk.2) (.slice Ao196 t211.length co196)) (fun _ hk => trivial)⟩
             have n1_ : Aside0 (Kd.N k130 130 (((((w189.setCell ⟨gb214, 0, none⟩ (.int .i64 t201)).setCell ⟨gb214, 1, none⟩ (.slice Ao193 t202.length co193)).setCell ⟨gb214, 2, none⟩ (.slice Ao194 t205.length co194)).setCell ⟨gb214, 3, none⟩ (.slice Ao195 t208.length co195)).setCell ⟨gb214, 4, none⟩ (.slice Ao196 t211.length co196)) w.heap.size (fun k_ => some k_ ≠ (.slice Ao185 t195.length co185 : Value).ownBlock ∧ some k_ ≠ (.slice Ao194 t205.length co194 : Value).ownBlock ∧ some k_ ≠ (.slice Ao195 t208.length co195 : Value).ownBlock ∧ some k_ ≠ (.slice Ao196 t211.length co196 : Value).ownBlock ∧ k_ ≠ gb101 ∧ k_ ≠ gb200 ∧ k_ ≠ gb214) (.slice Ao193 t202.length co193) t202) := ⟨by (with_reducible repeat first | apply Kd.N_alloc | apply Kd.N_drewN | apply Kd.N_drew); exact Kd.N_mono (Kd.N_far (p := ⟨gb214, 4, none⟩) (Kd.N_far (p := ⟨gb214, 3, none⟩) (Kd.N_far (p := ⟨gb214, 2, none⟩) (Kd.N_far (p := ⟨gb214, 1, none⟩) (Kd.N_far (p := ⟨gb214, 0, none⟩) (Kd.N_mono HO204.out (fun k_ hk => (⟨hk, hk.2⟩ : _ ∧ k_ ≠ gb214))) (fun _ hk => hk.2) (.int .i64 t201)) (fun _ hk => hk.2) (.slice Ao193 t202.length co193)) (fun _ hk => hk.2) (.slice Ao194 t205.length co194)) (fun _ hk => hk.2) (.slice Ao195 t208.length co195)) (fun _ hk => hk.2) (.slice Ao196 t211.length co196)) (fun _ hk => ⟨hk.1.1.2.2.2.1, ⟨hk.1.1.1, ⟨hk.1.1.2.1, ⟨hk.1.1.2.2.1, ⟨hk.1.1.2.2.2.2.1, ⟨hk.1.1.2.2.2.2.2, hk.1.2⟩⟩⟩⟩⟩⟩)⟩
             have n2_ : Aside0 (Kd.N k130 130 (((((w189.setCell ⟨gb214, 0, none⟩ (.int .i64 t201)).setCell ⟨gb214, 1, none⟩ (.slice Ao193 t202.length co193)).setCell ⟨gb214, 2, none⟩ (.slice Ao194 t205.length co194)).setCell ⟨gb214, 3, none⟩ (.slice Ao195 t208.length co195)).setCell ⟨gb214, 4, none⟩ (.slice Ao196 t211.length co196)) w.heap.size (fun k_ => some k_ ≠ (.slice Ao185 t195.length co185 : Value).ownBlock ∧ some k_ ≠ (.slice Ao193 t202.length co193 : Value).ownBlock ∧ some k_ ≠ (.slice Ao195 t208.length co195 : Value).ownBlock ∧ some k_ ≠ (.slice Ao196 t211.length co196 : Value).ownBlock ∧ k_ ≠ gb101 ∧ k_ ≠ gb200 ∧ k_ ≠ gb214) (.slice Ao194 t205.length co194) t205) := ⟨by (with_reducible repeat first | apply Kd.N_alloc | apply Kd.N_drewN | apply Kd.N_drew); exact Kd.N_mono (Kd.N_far (p := ⟨gb214, 4, none⟩) (Kd.N_far (p := ⟨gb214, 3, none⟩) (Kd.N_far (p := ⟨gb214, 2, none⟩) (Kd.N_far (p := ⟨gb214, 1, none⟩) (Kd.N_far (p := ⟨gb214, 0, none⟩) (Kd.N_mono HO207.out (fun k_ hk => (⟨hk, hk.2⟩ : _ ∧ k_ ≠ gb214))) (fun _ hk => hk.2) (.int .i64 t201)) (fun _ hk => hk.2) (.slice Ao193 t202.length co193)) (fun _ hk => hk.2) (.slice Ao194 t205.length co194)) (fun _ hk => hk.2) (.slice Ao195 t208.length co195)) (fun _ hk => hk.2) (.slice Ao196 t211.length co196)) (fun _ hk => ⟨hk.1.1.2.2.2.1, ⟨hk.1.1.1, ⟨hk.1.1.2.1, ⟨hk.1.1.2.2.1, ⟨hk.1.1.2.2.2.2.1, ⟨hk.1.1.2.2.2.2.2, hk.1.2⟩⟩⟩⟩⟩⟩)⟩
             have n3_ : Aside0 (Kd.N k63 63 (((((w189.setCell ⟨gb214, 0, none⟩ (.int .i64 t201)).setCell ⟨gb214, 1, none⟩ (.slice Ao193 t202.length co193)).setCell ⟨gb214, 2, none⟩ (.slice Ao194 t205.length co194)).setCell ⟨gb214, 3, none⟩ (.slice Ao195 t208.length co195)).setCell ⟨gb214, 4, none⟩ (.slice Ao196 t211.length co196)) w.heap.size (fun k_ => some k_ ≠ (.slice Ao185 t195.length co185 : Value).ownBlock ∧ some k_ ≠ (.slice Ao193 t202.length co193 : Value).ownBlock ∧ some k_ ≠ (.slice Ao194 t205.length co194 : Value).ownBlock ∧ some k_ ≠ (.slice Ao196 t211.length co196 : Value).ownBlock ∧ k_ ≠ gb101 ∧ k_ ≠ gb200 ∧ k_ ≠ gb214) (.slice Ao195 t208.length co195) t208) := ⟨by (with_reducible repeat first | apply Kd.N_alloc | apply Kd.N_drewN | apply Kd.N_drew); exact Kd.N_mono (Kd.N_far (p := ⟨gb214, 4, none⟩) (Kd.N_far (p := ⟨gb214, 3, none⟩) (Kd.N_far (p := ⟨gb214, 2, none⟩) (Kd.N_far (p := ⟨gb214, 1, none⟩) (Kd.N_far (p := ⟨gb214, 0, none⟩) (Kd.N_mono HO210.out (fun k_ hk => (⟨hk, hk.2⟩ : _ ∧ k_ ≠ gb214))) (fun _ hk => hk.2) (.int .i64 t201)) (fun _ hk => hk.2) (.slice Ao193 t202.length co193)) (fun _ hk => hk.2) (.slice Ao194 t205.length co194)) (fun _ hk => hk.2) (.slice Ao195 t208.length co195)) (fun _ hk => hk.2) (.slice Ao196 t211.length co196)) (fun _ hk => ⟨hk.1.1.2.2.2.1, ⟨hk.1.1.1, ⟨hk.1.1.2.1, ⟨hk.1.1.2.2.1, ⟨hk.1.1.2.2.2.2.1, ⟨hk.1.1.2.2.2.2.2, hk.1.2⟩⟩⟩⟩⟩⟩)⟩
             have n4_ : Aside0 (Kd.N k41 41 (((((w189.setCell ⟨gb214, 0, none⟩ (.int .i64 t201)).setCell ⟨gb214, 1, none⟩ (.slice Ao193 t202.length co193)).setCell ⟨gb214, 2, none⟩ (.slice Ao194 t205.length co194)).setCell ⟨gb214, 3, none⟩ (.slice Ao195 t208.length co195)).setCell ⟨gb214, 4, none⟩ (.slice Ao196 t211.length co196)) w.heap.size (fun k_ => some k_ ≠ (.slice Ao185 t195.length co185 : Value).ownBlock ∧ some k_ ≠ (.slice Ao193 t202.length co193 : Value).ownBlock ∧ some k_ ≠ (.slice Ao194 t205.length co194 : Value).ownBlock ∧ some k_ ≠ (.slice Ao195 t208.length co195 : Value).ownBlock ∧ k_ ≠ gb101 ∧ k_ ≠ gb200 ∧ k_ ≠ gb214) (.slice Ao196 t211.length co196) t211) := ⟨by (with_reducible repeat first | apply Kd.N_alloc | apply Kd.N_drewN | apply Kd.N_drew); exact Kd.N_mono (Kd.N_far (p := ⟨gb214, 4, none⟩) (Kd.N_far (p := ⟨gb214, 3, none⟩) (Kd.N_far (p := ⟨gb214, 2, none⟩) (Kd.N_far (p := ⟨gb214, 1, none⟩) (Kd.N_far (p := ⟨gb214, 0, none⟩) (Kd.N_mono HO213.out (fun k_ hk => (⟨hk, hk.2⟩ : _ ∧ k_ ≠ gb214))) (fun _ hk => hk.2) (.int .i64 t201)) (fun _ hk => hk.2) (.slice Ao193 t202.length co193)) (fun _ hk => hk.2) (.slice Ao194 t205.length co194)) (fun _ hk => hk.2) (.slice Ao195 t208.length co195)) (fun _ hk => hk.2) (.slice Ao196 t211.length co196)) (fun _ hk => ⟨hk.1.1.2.2.2.1, ⟨hk.1.1.1, ⟨hk.1.1.2.1, ⟨hk.1.1.2.2.1, ⟨hk.1.1.2.2.2.2.1, ⟨hk.1.1.2.2.2.2.2, hk.1.2⟩⟩⟩⟩⟩⟩)⟩
             have n5_ : Aside0 ((((((w189.setCell ⟨gb214, 0, none⟩ (.int .i64 t201)).setCell ⟨gb214, 1, none⟩ (.slice Ao193 t202.length co193)).setCell ⟨gb214, 2, none⟩ (.slice Ao194 t205.length co194)).setCell ⟨gb214, 3, none⟩ (.slice Ao195 t208.length co195)).setCell ⟨gb214, 4, none⟩ (.slice Ao196 t211.length co196)).heap[gb101]? = some (.cells #[.int .i64 a0_0, .slice A0_1 l0_1.length c0_1, .slice A0_2 l0_2.length c0_2, .slice A0_3 l0_3.length c0_3, .slice A0_4 l0_4.length c0_4] 26 (0, 0))) := ⟨bkG BK101 NB101_214⟩
             have n6_ : Aside0 ((((((w189.setCell ⟨gb214, 0, none⟩ (.int .i64 t201)).setCell ⟨gb214, 1, none⟩ (.slice Ao193 t202.length co193)).setCell ⟨gb214, 2, none⟩ (.slice Ao194 t205.length co194)).setCell ⟨gb214, 3, none⟩ (.slice Ao195 t208.length co195)).setCell ⟨gb214, 4, none⟩ (.slice Ao196 t211.length co196)).heap[gb200]? = some (.cells #[.string t193, .int .i64 t194, .slice Ao185 t195.length co185, .string t198] 51 (0, 0))) := ⟨bkG BK200 NB200_214⟩
             have n7_ : Aside0 ((((((w189.setCell ⟨gb214, 0, none⟩ (.int .i64 t201)).setCell ⟨gb214, 1, none⟩ (.slice Ao193 t202.length co193)).setCell ⟨gb214, 2, none⟩ (.slice Ao194 t205.length co194)).setCell ⟨gb214, 3, none⟩ (.slice Ao195 t208.length co195)).setCell ⟨gb214, 4, none⟩ (.slice Ao196 t211.length co196)).heap[gb214]? = some (.cells #[.int .i64 t201, .slice Ao193 t202.length co193, .slice Ao194 t205.length co194, .slice Ao195 t208.length co195, .slice Ao196 t211.length co196] 58 (0, 0))) := ⟨by (with_reducible repeat first | apply blk_drewN | apply blk_drew | apply blk_alloc); refine blk_put (cs := #[.int .i64 t201, .slice Ao193 t202.length co193, .slice Ao194 t205.length co194, .slice Ao195 t208.length co195, .slice none 0 0]) ?_ 4 _ rfl; (with_reducible repeat first | apply blk_drewN | apply blk_drew | apply blk_alloc); refine blk_put (cs := #[.int .i64 t201, .slice Ao193 t202.length co193, .slice Ao194 t205.length co194, .slice none 0 0, .slice none 0 0]) ?_ 3 _ rfl; (with_reducible repeat first | apply blk_drewN | apply blk_drew | apply blk_alloc); refine blk_put (cs := #[.int .i64 t201, .slice Ao193 t202.length co193, .slice none 0 0, .slice none 0 0, .slice none 0 0]) ?_ 2 _ rfl; (with_reducible repeat first | apply blk_drewN | apply blk_drew | apply blk_alloc); refine blk_put (cs := #[.int .i64 t201, .slice none 0 0, .slice none 0 0, .slice none 0 0, .slice none 0 0]) ?_ 1 _ rfl; (with_reducible repeat first | apply blk_drewN | apply blk_drew | apply blk_alloc); refine blk_put (cs := #[.int .i64 0, .slice none 0 0, .slice none 0 0, .slice none 0 0, .slice none 0 0]) ?_ 0 _ rfl; (with_reducible repeat first | apply blk_drewN | apply blk_drew | apply blk_alloc); exact BK214.out⟩
             have n8_ : Aside0 (Below w.heap.size w (((((w189.setCell ⟨gb214, 0, none⟩ (.int .i64 t201)).setCell ⟨gb214, 1, none⟩ (.slice Ao193 t202.length co193)).setCell ⟨gb214, 2, none⟩ (.slice Ao194 t205.length co194)).setCell ⟨gb214, 3, none⟩ (.slice Ao195 t208.length co195)).setCell ⟨gb214, 4, none⟩ (.slice Ao196 t211.length co196))) := ⟨hbA HB⟩
             try clear HO197; try clear HO204; try clear HO207; try clear HO210; try clear HO213; try clear BK101; try clear BK200; try clear BK214; try clear HB
             replace n0_ := Aside0.mk (Kd.R_drewN n0_.out nd)
             replace n1_ := Aside0.mk (Kd.N_drewN n1_.out nd)
             replace n2_ := Aside0.mk (Kd.N_drewN n2_.out nd)
             replace n3_ := Aside0.mk (Kd.N_drewN n3_.out nd)
             replace n4_ := Aside0.mk (Kd.N_drewN n4_.out nd)
             replace n5_ := Aside0.mk (blk_drewN n5_.out nd)
             replace n6_ := Aside0.mk (blk_drewN n6_.out nd)
             replace n7_ := Aside0.mk (blk_drewN n7_.out nd)
             replace n8_ := Aside0.mk (pw_below_drewN n8_.out nd)
             generalize ((((((w189.setCell ⟨gb214, 0, none⟩ (.int .i64 t201)).setCell ⟨gb214, 1, none⟩ (.slice Ao193 t202.length co193)).setCell ⟨gb214, 2, none⟩ (.slice Ao194 t205.length co194)).setCell ⟨gb214, 3, none⟩ (.slice Ao195 t208.length co195)).setCell ⟨gb214, 4, none⟩ (.slice Ao196 t211.length co196))).drewN nd = w204 at n0_ n1_ n2_ n3_ n4_ n5_ n6_ n7_ n8_ ⊢
             have HO197 := n0_; have HO204 := n1_; have HO207 := n2_; have HO210 := n3_; have HO213 := n4_; have BK101 := n5_; have BK200 := n6_; have BK214 := n7_; have HB := n8_; clear n0_ n1_ n2_ n3_ n4_ n5_ n6_ n7_ n8_
             have n0_ := A0 (Kd.R_drew HO197.out)
             have n1_ := A0 (Kd.N_drew HO204.out)
             have n2_ := A0 (Kd.N_drew HO207.out)
             have n3_ := A0 (Kd.N_drew HO210.out)
             have n4_ := A0 (Kd.N_drew HO213.out)
             have n5_ := A0 (blk_drew BK101.out)
             have n6_ := A0 (blk_drew BK200.out)
             have n7_ := A0 (blk_drew BK214.out)
             have n8_ := A0 (below_drew1 HB.out)
             clear HO197; clear HO204; clear HO207; clear HO210; clear HO213; clear BK101; clear BK200; clear BK214; clear HB; have HO197 := n0_; have HO204 := n1_; have HO207 := n2_; have HO210 := n3_; have HO213 := n4_; have BK101 := n5_; have BK200 := n6_; have BK214 := n7_; have HB := n8_; clear n0_ n1_ n2_ n3_ n4_ n5_ n6_ n7_ n8_
             have p222 : 0 ≤ (t215 : Int) := of_decide_eq_true (by first | (with_reducible assumption) | assumption)
             have q222 : t215 < (t208.length : Int) := of_decide_eq_true (by first | (with_reducible assumption) | assumption)
             obtain ⟨ad222, A222_2, c222_2, e222, hx222_0, hx222_1, hx222_2, hx222_3, hl222_2, hi222_2⟩ := at_T63 (Kd.N_reads' HO210.out).2.2 t215 p222 q222
             cases e222
             obtain ⟨ce222, hce222, hMe222, hcc222⟩ := Kd.N_get HO210.out z63 t215 p222 (by first | exact q222 | exact of_decide_eq_true (by first | (with_reducible assumption) | assumption) | (have e_ := (Kd.N_reads' HO210.out).1; omega))
             obtain ⟨ua222_2, uc222_2, rfl, ul222_2, ge222_2⟩ := k63_openF hMe222
             have hv222_2 := hcc222 2 _ rfl
             rw [add_field _ _ 2 (by omega)] at hv222_2
             replace hv222_2 := Option.some.inj (hv222_2.symm.trans hx222_2)
             injection hv222_2 with hva_ hvn_ hvc_
             rw [hva_] at ge222_2
             rw [hvc_] at ul222_2
             have HL222_2 := A0 (show Kd.V (Kd.int .i64) 2 _ w.heap.size _ _ ((rd_T63 t208 t215).f2) from Kd.V_mk ul222_2 ge222_2)
             clear hva_ hvn_ hvc_ ge222_2 ul222_2; clear hcc222 hce222
             have HR222_2 := Aside0.mk hi222_2
             have HC222_2 := Aside0.mk hl222_2
             clear hi222_2 hl222_2
             replace p222 := eq_true p222
             replace q222 := eq_true q222
             refine start_ (n := 27) (S := fun w' => w'.cell? ⟨gb200, 0, none⟩ = some (.string t193) ∧ w'.cell? ⟨gb200, 1, none⟩ = some (.int .i64 t194) ∧ w'.cell? ⟨gb200, 2, none⟩ = some (.slice Ao185 t195.length co185) ∧ w'.cell? ⟨gb200, 3, none⟩ = some (.string t198) ∧ w'.cell? ⟨gb214, 0, none⟩ = some (.int .i64 t201) ∧ w'.cell? ⟨gb214, 1, none⟩ = some (.slice Ao193 t202.length co193) ∧ w'.cell? ⟨gb214, 2, none⟩ = some (.slice Ao194 t205.length co194) ∧ w'.cell? ⟨gb214, 3, none⟩ = some (.slice (some ad222) t208.length co195) ∧ w'.cell? ⟨gb214, 4, none⟩ = some (.slice Ao196 t211.length co196) ∧ w'.cell? (ad222.add ((t215).toNat * 4)) = some (.string ((rd_T63 t208 t215).f0)) ∧ w'.cell? ⟨(ad222.add ((t215).toNat * 4)).block, (ad222.add ((t215).toNat * 4)).off + 1, none⟩ = some (.int .i64 ((rd_T63 t208 t215).f1)) ∧ w'.cell? ⟨(ad222.add ((t215).toNat * 4)).block, (ad222.add ((t215).toNat * 4)).off + 2, none⟩ = some (.slice A222_2 ((rd_T63 t208 t215).f2).length c222_2) ∧ w'.cell? ⟨(ad222.add ((t215).toNat * 4)).block, (ad222.add ((t215).toNat * 4)).off + 3, none⟩ = some (.string ((rd_T63 t208 t215).f3))) (ds := []) #[false, false, false, false, false, false, false, false, false, false, false, false, false, false, false, false, false, false, false, false, false, false, false, false, false, false, false] (by kernel_rfl) rfl rfl ⟨bcA BK200 0, bcA BK200 1, bcA BK200 2, bcA BK200 3, bcA BK214 0, bcA BK214 1, bcA BK214 2, bcA BK214 3, bcA BK214 4, hx222_0, hx222_1, hx222_2, hx222_3⟩ (fun hHeld => ?_); refine with_tabW tab22 bits22 (fun HT_ HW_ => ?_)
             generalize w204.drew = w205 at HO197 HO204 HO207 HO210 HO213 BK101 BK200 BK214 HB HL222_2 HR222_2 hx222_0 hx222_1 hx222_2 hx222_3 hHeld ⊢
             refine pure_ (i := 0) (N := some 147) (v := ?_) (a' := ?_) #[true, false, false, false, false, false, false, false, false, false, false, false, false, false, false, false, false, false, false, false, false, false, false, false, false, false, false] rfl rfl (any_of HT_.out (by kernel_rfl)) (fun _ _ _ h => h) (Or.inl ⟨by rfl, ?_⟩) ?_ ?_
             rotate_left
             ·
              intro w'
              go_simp
              with_reducible rfl
             rotate_left
             ·
              simp only [Act.put, List.setIfInBounds_toArray, List.set_cons_zero, List.set_cons_succ, i64_w, i32_w]
              rfl
             refine pure_ (i := 1) (N := some 148) (v := ?_) (a' := ?_) #[true, true, false, false, false, false, false, false, false, false, false, false, false, false, false, false, false, false, false, false, false, false, false, false, false, false, false] rfl rfl (any_of HT_.out (by kernel_rfl)) (fun _ _ _ h => h) (Or.inl ⟨by rfl, ?_⟩) ?_ ?_
             rotate_left
             ·
              intro w'
              go_simp
              with_reducible rfl
             rotate_left
             ·
              simp only [Act.put, List.setIfInBounds_toArray, List.set_cons_zero, List.set_cons_succ, i64_w, i32_w]
              rfl
             refine pure_ (i := 2) (N := some 149) (v := ?_) (a' := ?_) #[true, true, true, false, false, false, false, false, false, false, false, false, false, false, false, false, false, false, false, false, false, false, false, false, false, false, false] rfl rfl (any_of HT_.out (by kernel_rfl)) (fun _ _ _ h => h) (Or.inl ⟨by rfl, ?_⟩) ?_ ?_
             rotate_left
             ·
              intro w'
              go_simp
              with_reducible rfl
             rotate_left
             ·
              simp only [Act.put, List.setIfInBounds_toArray, List.set_cons_zero, List.set_cons_succ, i64_w, i32_w]
              rfl
             refine pure_ (i := 3) (N := some 150) (v := ?_) (a' := ?_) #[true, true, true, true, false, false, false, false, false, false, false, false, false, false, false, false, false, false, false, false, false, false, false, false, false, false, false] rfl rfl (any_of HT_.out (by kernel_rfl)) (fun _ _ _ h => h) (Or.inl ⟨by rfl, ?_⟩) ?_ ?_
             rotate_left
             ·
              intro w'
              go_simp
              with_reducible rfl
             rotate_left
             ·
              simp only [Act.put, List.setIfInBounds_toArray, List.set_cons_zero, List.set_cons_succ, i64_w, i32_w]
              rfl
             refine pure_ (i := 4) (N := some 151) (v := ?_) (a' := ?_) #[true, true, true, true, true, false, false, false, false, false, false, false, false, false, false, false, false, false, false, false, false, false, false, false, false, false, false] rfl rfl (any_of HT_.out (by kernel_rfl)) (fun _ _ _ h => h) (Or.inl ⟨by rfl, ?_⟩) ?_ ?_
             rotate_left
             ·
              intro w'
              go_simp
              with_reducible rfl
             rotate_left
             ·
              simp only [Act.put, List.setIfInBounds_toArray, List.set_cons_zero, List.set_cons_succ, i64_w, i32_w]
              rfl
             refine pure_ (i := 5) (N := some 152) (v := ?_) (a' := ?_) #[true, true, true, true, true, true, false, false, false, false, false, false, false, false, false, false, false, false, false, false, false, false, false, false, false, false, false] rfl rfl (any_of HT_.out (by kernel_rfl)) (fun _ _ _ h => h) (Or.inl ⟨by rfl, ?_⟩) ?_ ?_
             rotate_left
             ·
              intro w'
              go_simp
              with_reducible rfl
             rotate_left
             ·
              simp only [Act.put, List.setIfInBounds_toArray, List.set_cons_zero, List.set_cons_succ, i64_w, i32_w]
              rfl
             refine pure_ (i := 6) (N := some 153) (v := ?_) (a' := ?_) #[true, true, true, true, true, true, true, false, false, false, false, false, false, false, false, false, false, false, false, false, false, false, false, false, false, false, false] rfl rfl (any_of HT_.out (by kernel_rfl)) (fun _ _ _ h => h) (Or.inl ⟨by rfl, ?_⟩) ?_ ?_
             rotate_left
             ·
              intro w'
              go_simp
              with_reducible rfl
             rotate_left
             ·
              simp only [Act.put, List.setIfInBounds_toArray, List.set_cons_zero, List.set_cons_succ, i64_w, i32_w]
              rfl
             refine pure_ (i := 9) (N := some 156) (v := ?_) (a' := ?_) #[true, true, true, true, true, true, true, false, false, true, false, false, false, false, false, false, false, false, false, false, false, false, false, false, false, false, false] rfl rfl (any_of HT_.out (by kernel_rfl)) (fun _ _ _ h => h) (Or.inl ⟨by rfl, ?_⟩) ?_ ?_
             rotate_left
             ·
              intro w'
              go_simp
              with_reducible rfl
             rotate_left
             ·
              simp only [Act.put, List.setIfInBounds_toArray, List.set_cons_zero, List.set_cons_succ, i64_w, i32_w]
              rfl
             refine pure_ (i := 11) (N := some 158) (v := ?_) (a' := ?_) #[true, true, true, true, true, true, true, false, false, true, false, true, false, false, false, false, false, false, false, false, false, false, false, false, false, false, false] rfl rfl (any_of HT_.out (by kernel_rfl)) (fun _ _ _ h => h) (Or.inl ⟨by rfl, ?_⟩) ?_ ?_
             rotate_left
             ·
              intro w'
              go_simp
              with_reducible rfl
             rotate_left
             ·
              simp only [Act.put, List.setIfInBounds_toArray, List.set_cons_zero, List.set_cons_succ, i64_w, i32_w]
              rfl
             refine take_ (i := 7) (N := some 154) (v := ?_) (a' := ?_) #[true, true, true, true, true, true, true, true, false, true, false, true, false, false, false, false, false, false, false, false, false, false, false, false, false, false, false] rfl rfl (take_ofW HT_.out HW_.out (by kernel_rfl)) (fun _ _ _ h => h) (Or.inl ⟨by rfl, ?_⟩) hHeld ?_ ?_
             rotate_left
             ·
              rintro w' ⟨s0, s1, s2, s3, s4, s5, s6, s7, s8, s9, s10, s11, s12⟩
              go_simp
              with_reducible rfl
             rotate_left
             ·
              simp only [Act.put, List.setIfInBounds_toArray, List.set_cons_zero, List.set_cons_succ, i64_w, i32_w]
              rfl
             refine take_ (i := 10) (N := some 157) (v := ?_) (a' := ?_) #[true, true, true, true, true, true, true, true, false, true, true, true, false, false, false, false, false, false, false, false, false, false, false, false, false, false, false] rfl rfl (take_ofW HT_.out HW_.out (by kernel_rfl)) (fun _ _ _ h => h) (Or.inl ⟨by rfl, ?_⟩) hHeld ?_ ?_
             rotate_left
             ·
              rintro w' ⟨s0, s1, s2, s3, s4, s5, s6, s7, s8, s9, s10, s11, s12⟩
              go_simp
              with_reducible rfl
             rotate_left
             ·
              simp only [Act.put, List.setIfInBounds_toArray, List.set_cons_zero, List.set_cons_succ, i64_w, i32_w]
              rfl
             refine pure_ (i := 12) (N := some 159) (v := ?_) (a' := ?_) #[true, true, true, true, true, true, true, true, false, true, true, true, true, false, false, false, false, false, false, false, false, false, false, false, false, false, false] rfl rfl (any_of HT_.out (by kernel_rfl)) (fun _ _ _ h => h) (Or.inl ⟨by rfl, ?_⟩) ?_ ?_
             rotate_left
             ·
              intro w'
              go_simp
              with_reducible rfl
             rotate_left
             ·
              simp only [Act.put, List.setIfInBounds_toArray, List.set_cons_zero, List.set_cons_succ, i64_w, i32_w]
              rfl
             refine take_ (i := 13) (N := some 160) (v := ?_) (a' := ?_) #[true, true, true, true, true, true, true, true, false, true, true, true, true, true, false, false, false, false, false, false, false, false, false, false, false, false, false] rfl rfl (take_ofW HT_.out HW_.out (by kernel_rfl)) (fun _ _ _ h => h) (Or.inl ⟨by rfl, ?_⟩) hHeld ?_ ?_
             rotate_left
             ·
              rintro w' ⟨s0, s1, s2, s3, s4, s5, s6, s7, s8, s9, s10, s11, s12⟩
              go_simp
              with_reducible rfl
             rotate_left
             ·
              simp only [Act.put, List.setIfInBounds_toArray, List.set_cons_zero, List.set_cons_succ, i64_w, i32_w]
              rfl
             refine one_ (i := 8) (N := some 155) #[true, true, true, true, true, true, true, true, true, true, true, true, true, true, false, false, false, false, false, false, false, false, false, false, false, false, false] rfl rfl (one_of HT_.out (by kernel_rfl)) (by decide) (fun K hK => ?_)
             refine goes_ Try.func20 (by kernel_rfl) rfl #[.agg #[.string t193, .int .i64 t194, .slice Ao185 t195.length co185, .string t198]] (by rfl) rfl rfl (by (try simp only [List.map_toArray, List.map_cons, List.map_nil]); first | done | rfl | (simp only [List.length_drop, List.length_take]; rfl)) ?_
             with_reducible refine (agatelaw07_Of.calls t193 t194 (fun k_ => some k_ = (.slice Ao185 t195.length co185 : Value).ownBlock) _ _ t195 t198 t216 t217 t218 t221 _ ?side1 A199.out).mono ?_
             (case side1 => exact Kd.R_V (Kd.R_tight rfl (Kd.R_types (Kd.R_types (Kd.R_types (Kd.R_apart' (Kd.R_apart' (Kd.R_apart' (Kd.R_apart' (HO197.out) (Kd.N_typed HO204.out) (by decide)) (Kd.N_typed HO207.out) (by decide)) (Kd.N_typed HO210.out) (by decide)) (Kd.N_typed HO213.out) (by decide)) BK101.out (by decide)) BK200.out (by decide)) BK214.out (by decide))))
             rintro e w206 ⟨v219, rfl, ho0, hb⟩
             have HS9_ := (hb.cell (World.block_lt_of_cell? _ _ (hHeld.2.2.2.2.2.2.2.2.2.1))).trans (hHeld.2.2.2.2.2.2.2.2.2.1)
             have HS10_ := (hb.cell (World.block_lt_of_cell? _ _ (hHeld.2.2.2.2.2.2.2.2.2.2.1))).trans (hHeld.2.2.2.2.2.2.2.2.2.2.1)
             have HS11_ := (hb.cell (World.block_lt_of_cell? _ _ (hHeld.2.2.2.2.2.2.2.2.2.2.2.1))).trans (hHeld.2.2.2.2.2.2.2.2.2.2.2.1)
             have HS12_ := (hb.cell (World.block_lt_of_cell? _ _ (hHeld.2.2.2.2.2.2.2.2.2.2.2.2))).trans (hHeld.2.2.2.2.2.2.2.2.2.2.2.2)
             refine ⟨_, rfl, ?_⟩
             have n0_ := A0 (Kd.R_below (krA HO197) hb)
             have n1_ := A0 (Kd.N_below (by (with_reducible repeat first | apply Kd.N_alloc | apply Kd.N_drewN | apply Kd.N_drew); exact HO204.out) hb)
             have n2_ := A0 (Kd.N_below (by (with_reducible repeat first | apply Kd.N_alloc | apply Kd.N_drewN | apply Kd.N_drew); exact HO207.out) hb)
             have n3_ := A0 (Kd.N_below (by (with_reducible repeat first | apply Kd.N_alloc | apply Kd.N_drewN | apply Kd.N_drew); exact HO210.out) hb)
             have n4_ := A0 (Kd.N_below (by (with_reducible repeat first | apply Kd.N_alloc | apply Kd.N_drewN | apply Kd.N_drew); exact HO213.out) hb)
             have n5_ := A0 (Kd.V_below (by (with_reducible repeat first | apply Kd.V_alloc | apply Kd.V_drewN | apply Kd.V_drew); exact HL222_2.out) hb)
             have n6_ := A0 (Kd.V_lower (Kd.V_mono (ok' := fun k_ => some k_ ≠ (.slice Ao193 t202.length co193 : Value).ownBlock ∧ some k_ ≠ (.slice Ao194 t205.length co194 : Value).ownBlock ∧ some k_ ≠ (.slice (some ad222) t208.length co195 : Value).ownBlock ∧ some k_ ≠ (.slice Ao196 t211.length co196 : Value).ownBlock ∧ k_ ≠ gb101 ∧ k_ ≠ gb200 ∧ k_ ≠ gb214) ho0 (fun k_ hk_ => ⟨Or.elim hk_ (fun hs_ => ((Kd.R_types (Kd.R_types (Kd.R_types (Kd.R_apart' (Kd.R_apart' (Kd.R_apart' (Kd.R_apart' (HO197.out) (Kd.N_typed HO204.out) (by decide)) (Kd.N_typed HO207.out) (by decide)) (Kd.N_typed HO210.out) (by decide)) (Kd.N_typed HO213.out) (by decide)) BK101.out (by decide)) BK200.out (by decide)) BK214.out (by decide)).1 k_ hs_.symm).1.1.1.1.1.1.2) (fun hn_ => (Kd.fresh' (Kd.N_lt (by (with_reducible repeat first | apply Kd.N_alloc | apply Kd.N_drewN | apply Kd.N_drew); exact HO204.out)) k_ hn_)), Or.elim hk_ (fun hs_ => ((Kd.R_types (Kd.R_types (Kd.R_types (Kd.R_apart' (Kd.R_apart' (Kd.R_apart' (Kd.R_apart' (HO197.out) (Kd.N_typed HO204.out) (by decide)) (Kd.N_typed HO207.out) (by decide)) (Kd.N_typed HO210.out) (by decide)) (Kd.N_typed HO213.out) (by decide)) BK101.out (by decide)) BK200.out (by decide)) BK214.out (by decide)).1 k_ hs_.symm).1.1.1.1.1.2) (fun hn_ => (Kd.fresh' (Kd.N_lt (by (with_reducible repeat first | apply Kd.N_alloc | apply Kd.N_drewN | apply Kd.N_drew); exact HO207.out)) k_ hn_)), Or.elim hk_ (fun hs_ => ((Kd.R_types (Kd.R_types (Kd.R_types (Kd.R_apart' (Kd.R_apart' (Kd.R_apart' (Kd.R_apart' (HO197.out) (Kd.N_typed HO204.out) (by decide)) (Kd.N_typed HO207.out) (by decide)) (Kd.N_typed HO210.out) (by decide)) (Kd.N_typed HO213.out) (by decide)) BK101.out (by decide)) BK200.out (by decide)) BK214.out (by decide)).1 k_ hs_.symm).1.1.1.1.2) (fun hn_ => (Kd.fresh' (Kd.N_lt (by (with_reducible repeat first | apply Kd.N_alloc | apply Kd.N_drewN | apply Kd.N_drew); exact HO210.out)) k_ hn_)), Or.elim hk_ (fun hs_ => ((Kd.R_types (Kd.R_types (Kd.R_types (Kd.R_apart' (Kd.R_apart' (Kd.R_apart' (Kd.R_apart' (HO197.out) (Kd.N_typed HO204.out) (by decide)) (Kd.N_typed HO207.out) (by decide)) (Kd.N_typed HO210.out) (by decide)) (Kd.N_typed HO213.out) (by decide)) BK101.out (by decide)) BK200.out (by decide)) BK214.out (by decide)).1 k_ hs_.symm).1.1.1.2) (fun hn_ => (Kd.fresh' (Kd.N_lt (by (with_reducible repeat first | apply Kd.N_alloc | apply Kd.N_drewN | apply Kd.N_drew); exact HO213.out)) k_ hn_)), Or.elim hk_ (fun hs_ => ((Kd.R_types (Kd.R_types (Kd.R_types (Kd.R_apart' (Kd.R_apart' (Kd.R_apart' (Kd.R_apart' (HO197.out) (Kd.N_typed HO204.out) (by decide)) (Kd.N_typed HO207.out) (by decide)) (Kd.N_typed HO210.out) (by decide)) (Kd.N_typed HO213.out) (by decide)) BK101.out (by decide)) BK200.out (by decide)) BK214.out (by decide)).1 k_ hs_.symm).1.1.2) (fun hn_ => (Kd.freshB (g := gb101) (bkA BK101) k_ hn_)), Or.elim hk_ (fun hs_ => ((Kd.R_types (Kd.R_types (Kd.R_types (Kd.R_apart' (Kd.R_apart' (Kd.R_apart' (Kd.R_apart' (HO197.out) (Kd.N_typed HO204.out) (by decide)) (Kd.N_typed HO207.out) (by decide)) (Kd.N_typed HO210.out) (by decide)) (Kd.N_typed HO213.out) (by decide)) BK101.out (by decide)) BK200.out (by decide)) BK214.out (by decide)).1 k_ hs_.symm).1.2) (fun hn_ => (Kd.freshB (g := gb200) (bkA BK200) k_ hn_)), Or.elim hk_ (fun hs_ => ((Kd.R_types (Kd.R_types (Kd.R_types (Kd.R_apart' (Kd.R_apart' (Kd.R_apart' (Kd.R_apart' (HO197.out) (Kd.N_typed HO204.out) (by decide)) (Kd.N_typed HO207.out) (by decide)) (Kd.N_typed HO210.out) (by decide)) (Kd.N_typed HO213.out) (by decide)) BK101.out (by decide)) BK200.out (by decide)) BK214.out (by decide)).1 k_ hs_.symm).2) (fun hn_ => (Kd.freshB (g := gb214) (bkA BK214) k_ hn_))⟩)) (below_size (hbA HB)))
             have n7_ := A0 (blk_below (g := gb101) (bkA BK101) hb); have n8_ := A0 (blk_below (g := gb200) (bkA BK200) hb); have n9_ := A0 (blk_below (g := gb214) (bkA BK214) hb)
             have n10_ := A0 (Kd.C_below (by repeat (first | (with_reducible exact HR222_2.out) | (with_reducible refine Kd.C_alloc ?_ _) | (with_reducible refine Kd.C_drewN ?_ _) | (with_reducible refine Kd.C_drew ?_) | exact HR222_2.out)) hb)
             have n11_ := A0 (below_step (hbA HB) hb); clear HO197; clear HO204; clear HO207; clear HO210; clear HO213; clear HL222_2; clear BK101; clear BK200; clear BK214; clear HR222_2; clear HB; have HO197 := n0_; have HO204 := n1_; have HO207 := n2_; have HO210 := n3_; have HO213 := n4_; have HL222_2 := n5_; have HO220 := n6_; have BK101 := n7_; have BK200 := n8_; have BK214 := n9_; have HR222_2 := n10_; have HB := n11_; clear n0_ n1_ n2_ n3_ n4_ n5_ n6_ n7_ n8_ n9_ n10_ n11_; try clear hb; try clear hk; try clear ho0
             obtain ⟨Ao207, co207, eo207⟩ := Kd.V_slice HO220.out
             (first | subst eo207 | (injection eo207 with f1_ f2_ f3_; have f4_ := f1_.symm; have f5_ := f3_.symm; clear f1_ f2_ f3_; subst f4_; subst f5_))
             refine hK.out _ _ ⟨bcA BK200 0, bcA BK200 1, bcA BK200 2, bcA BK200 3, bcA BK214 0, bcA BK214 1, bcA BK214 2, bcA BK214 3, bcA BK214 4, HS9_, HS10_, HS11_, HS12_⟩ (fun hHeld => ?_)
             clear hK K
             refine norm_ (a' := ?_) ?_ ?_
             rotate_left
             ·
              show Act.put _ (some 155) _ = _
              simp only [Act.put, List.setIfInBounds_toArray, List.set_cons_zero, List.set_cons_succ, i64_w, i32_w]
              rfl
             refine one_ (i := 14) (N := some 161) #[true, true, true, true, true, true, true, true, true, true, true, true, true, true, true, false, false, false, false, false, false, false, false, false, false, false, false] rfl rfl (one_of HT_.out (by kernel_rfl)) (by decide) (fun K hK => ?_)
             refine goes_ Try.func19 (by kernel_rfl) rfl #[.agg #[.string t216, .int .i64 t217, .slice Ao207 t218.length co207, .string t221], .agg #[.string ((rd_T63 t208 t215).f0), .int .i64 ((rd_T63 t208 t215).f1), .slice A222_2 ((rd_T63 t208 t215).f2).length c222_2, .string ((rd_T63 t208 t215).f3)]] (by rfl) rfl rfl (by (try simp only [List.map_toArray, List.map_cons, List.map_nil]); first | done | rfl | (simp only [List.length_drop, List.length_take]; rfl)) ?_
             with_reducible refine (agateref07_Same_s.calls t216 t217 _ _ t218 t221 ((rd_T63 t208 t215).f0) ((rd_T63 t208 t215).f1) _ _ ((rd_T63 t208 t215).f2) ((rd_T63 t208 t215).f3) true _ ?side1 ?side2 ?side3 ?side4 A202.out).mono ?_
             (case side1 => ((repeat first | (with_reducible refine Kd.C_alloc ?_ _) | (with_reducible refine Kd.C_drewN ?_ _) | (with_reducible refine Kd.C_drew ?_)); exact (Kd.V_reads' HO220.out).2.2))
             (case side2 => exact (Kd.V_reads' HO220.out).2.1)
             (case side3 => repeat (first | exact (by repeat (first | (with_reducible exact HR222_2.out) | (with_reducible refine Kd.C_alloc ?_ _) | (with_reducible refine Kd.C_drewN ?_ _) | (with_reducible refine Kd.C_drew ?_) | exact HR222_2.out)) | (with_reducible refine Kd.C_alloc ?_ _) | (with_reducible refine Kd.C_drewN ?_ _) | (with_reducible refine Kd.C_drew ?_)))
             (case side4 => exact HC222_2.out)
             rintro e w208 ⟨rfl, hb⟩
             have HS9_ := (hb.cell (World.block_lt_of_cell? _ _ (hHeld.2.2.2.2.2.2.2.2.2.1))).trans (hHeld.2.2.2.2.2.2.2.2.2.1)
             have HS10_ := (hb.cell (World.block_lt_of_cell? _ _ (hHeld.2.2.2.2.2.2.2.2.2.2.1))).trans (hHeld.2.2.2.2.2.2.2.2.2.2.1)
             have HS11_ := (hb.cell (World.block_lt_of_cell? _ _ (hHeld.2.2.2.2.2.2.2.2.2.2.2.1))).trans (hHeld.2.2.2.2.2.2.2.2.2.2.2.1)
             have HS12_ := (hb.cell (World.block_lt_of_cell? _ _ (hHeld.2.2.2.2.2.2.2.2.2.2.2.2))).trans (hHeld.2.2.2.2.2.2.2.2.2.2.2.2)
             refine ⟨_, rfl, ?_⟩
             have n0_ := A0 (Kd.R_below (krA HO197) hb)
             have n1_ := A0 (Kd.N_below (by (with_reducible repeat first | apply Kd.N_alloc | apply Kd.N_drewN | apply Kd.N_drew); exact HO204.out) hb)
             have n2_ := A0 (Kd.N_below (by (with_reducible repeat first | apply Kd.N_alloc | apply Kd.N_drewN | apply Kd.N_drew); exact HO207.out) hb)
             have n3_ := A0 (Kd.N_below (by (with_reducible repeat first | apply Kd.N_alloc | apply Kd.N_drewN | apply Kd.N_drew); exact HO210.out) hb)
             have n4_ := A0 (Kd.N_below (by (with_reducible repeat first | apply Kd.N_alloc | apply Kd.N_drewN | apply Kd.N_drew); exact HO213.out) hb)
             have n5_ := A0 (Kd.V_below (by (with_reducible repeat first | apply Kd.V_alloc | apply Kd.V_drewN | apply Kd.V_drew); exact HL222_2.out) hb)
             have n6_ := A0 (Kd.V_below (by (with_reducible repeat first | apply Kd.V_alloc | apply Kd.V_drewN | apply Kd.V_drew); exact HO220.out) hb)
             have n7_ := A0 (blk_below (g := gb101) (bkA BK101) hb); have n8_ := A0 (blk_below (g := gb200) (bkA BK200) hb); have n9_ := A0 (blk_below (g := gb214) (bkA BK214) hb)
             have n10_ := A0 (Kd.C_below (by repeat (first | (with_reducible exact HR222_2.out) | (with_reducible refine Kd.C_alloc ?_ _) | (with_reducible refine Kd.C_drewN ?_ _) | (with_reducible refine Kd.C_drew ?_) | exact HR222_2.out)) hb)
             have n11_ := A0 (below_step (hbA HB) hb); clear HO197; clear HO204; clear HO207; clear HO210; clear HO213; clear HL222_2; clear HO220; clear BK101; clear BK200; clear BK214; clear HR222_2; clear HB; have HO197 := n0_; have HO204 := n1_; have HO207 := n2_; have HO210 := n3_; have HO213 := n4_; have HL222_2 := n5_; have HO220 := n6_; have BK101 := n7_; have BK200 := n8_; have BK214 := n9_; have HR222_2 := n10_; have HB := n11_; clear n0_ n1_ n2_ n3_ n4_ n5_ n6_ n7_ n8_ n9_ n10_ n11_; try clear hb; try clear hk
             refine hK.out _ _ ⟨bcA BK200 0, bcA BK200 1, bcA BK200 2, bcA BK200 3, bcA BK214 0, bcA BK214 1, bcA BK214 2, bcA BK214 3, bcA BK214 4, HS9_, HS10_, HS11_, HS12_⟩ (fun hHeld => ?_)
             clear hK K
             refine norm_ (a' := ?_) ?_ ?_
             rotate_left
             ·
              show Act.put _ (some 161) _ = _
              simp only [Act.put, List.setIfInBounds_toArray, List.set_cons_zero, List.set_cons_succ, i64_w, i32_w]
              rfl
             refine pure_ (i := 15) (N := some 162) (v := ?_) (a' := ?_) #[true, true, true, true, true, true, true, true, true, true, true, true, true, true, true, true, false, false, false, false, false, false, false, false, false, false, false] rfl rfl (any_of HT_.out (by kernel_rfl)) (fun _ _ _ h => h) (Or.inl ⟨by rfl, ?_⟩) ?_ ?_
             rotate_left
             ·
              intro w'
              go_simp
              with_reducible rfl
             rotate_left
             ·
              simp only [Act.put, List.setIfInBounds_toArray, List.set_cons_zero, List.set_cons_succ, i64_w, i32_w]
              rfl
             refine pure_ (i := 16) (N := some 163) (v := ?_) (a' := ?_) #[true, true, true, true, true, true, true, true, true, true, true, true, true, true, true, true, true, false, false, false, false, false, false, false, false, false, false] rfl rfl (any_of HT_.out (by kernel_rfl)) (fun _ _ _ h => h) (Or.inl ⟨by rfl, ?_⟩) ?_ ?_
             rotate_left
             ·
              intro w'
              go_simp
              with_reducible rfl
             rotate_left
             ·
              simp only [Act.put, List.setIfInBounds_toArray, List.set_cons_zero, List.set_cons_succ, i64_w, i32_w]
              rfl
             refine pure_ (i := 17) (N := some 164) (v := ?_) (a' := ?_) #[true, true, true, true, true, true, true, true, true, true, true, true, true, true, true, true, true, true, false, false, false, false, false, false, false, false, false] rfl rfl (any_of HT_.out (by kernel_rfl)) (fun _ _ _ h => h) (Or.inl ⟨by rfl, ?_⟩) ?_ ?_
             rotate_left
             ·
              intro w'
              go_simp
              with_reducible rfl
             rotate_left
             ·
              simp only [Act.put, List.setIfInBounds_toArray, List.set_cons_zero, List.set_cons_succ, i64_w, i32_w]
              rfl
             refine pure_ (i := 18) (N := some 165) (v := ?_) (a' := ?_) #[true, true, true, true, true, true, true, true, true, true, true, true, true, true, true, true, true, true, true, false, false, false, false, false, false, false, false] rfl rfl (any_of HT_.out (by kernel_rfl)) (fun _ _ _ h => h) (Or.inl ⟨by rfl, ?_⟩) ?_ ?_
             rotate_left
             ·
              intro w'
              go_simp
              with_reducible rfl
             rotate_left
             ·
              simp only [Act.put, List.setIfInBounds_toArray, List.set_cons_zero, List.set_cons_succ, i64_w, i32_w]
              rfl
             refine pure_ (i := 19) (N := some 166) (v := ?_) (a' := ?_) #[true, true, true, true, true, true, true, true, true, true, true, true, true, true, true, true, true, true, true, true, false, false, false, false, false, false, false] rfl rfl (any_of HT_.out (by kernel_rfl)) (fun _ _ _ h => h) (Or.inl ⟨by rfl, ?_⟩) ?_ ?_
             rotate_left
             ·
              intro w'
              go_simp
              with_reducible rfl
             rotate_left
             ·
              simp only [Act.put, List.setIfInBounds_toArray, List.set_cons_zero, List.set_cons_succ, i64_w, i32_w]
              rfl
             refine pure_ (i := 20) (N := some 167) (v := ?_) (a' := ?_) #[true, true, true, true, true, true, true, true, true, true, true, true, true, true, true, true, true, true, true, true, true, false, false, false, false, false, false] rfl rfl (any_of HT_.out (by kernel_rfl)) (fun _ _ _ h => h) (Or.inl ⟨by rfl, ?_⟩) ?_ ?_
             rotate_left
             ·
              intro w'
              go_simp
              with_reducible rfl
             rotate_left
             ·
              simp only [Act.put, List.setIfInBounds_toArray, List.set_cons_zero, List.set_cons_succ, i64_w, i32_w]
              rfl
             refine pure_ (i := 21) (N := some 168) (v := ?_) (a' := ?_) #[true, true, true, true, true, true, true, true, true, true, true, true, true, true, true, true, true, true, true, true, true, true, false, false, false, false, false] rfl rfl (any_of HT_.out (by kernel_rfl)) (fun _ _ _ h => h) (Or.inl ⟨by rfl, ?_⟩) ?_ ?_
             rotate_left
             ·
              intro w'
              go_simp
              with_reducible rfl
             rotate_left
             ·
              simp only [Act.put, List.setIfInBounds_toArray, List.set_cons_zero, List.set_cons_succ, i64_w, i32_w]
              rfl
             refine pure_ (i := 22) (N := some 169) (v := undef) (a' := ?_) #[true, true, true, true, true, true, true, true, true, true, true, true, true, true, true, true, true, true, true, true, true, true, true, false, false, false, false] rfl rfl (any_of HT_.out (by kernel_rfl)) (fun _ _ _ h => h) (Or.inr ⟨by rfl, rfl⟩) ?_ ?_
             rotate_left
             ·
              simp only [Act.put, List.setIfInBounds_toArray, List.set_cons_zero, List.set_cons_succ, i64_w, i32_w]
              rfl
             refine pure_ (i := 23) (N := some 170) (v := undef) (a' := ?_) #[true, true, true, true, true, true, true, true, true, true, true, true, true, true, true, true, true, true, true, true, true, true, true, true, false, false, false] rfl rfl (any_of HT_.out (by kernel_rfl)) (fun _ _ _ h => h) (Or.inr ⟨by rfl, rfl⟩) ?_ ?_
             rotate_left
             ·
              simp only [Act.put, List.setIfInBounds_toArray, List.set_cons_zero, List.set_cons_succ, i64_w, i32_w]
              rfl
             refine pure_ (i := 24) (N := some 171) (v := undef) (a' := ?_) #[true, true, true, true, true, true, true, true, true, true, true, true, true, true, true, true, true, true, true, true, true, true, true, true, true, false, false] rfl rfl (any_of HT_.out (by kernel_rfl)) (fun _ _ _ h => h) (Or.inr ⟨by rfl, rfl⟩) ?_ ?_
             rotate_left
             ·
              simp only [Act.put, List.setIfInBounds_toArray, List.set_cons_zero, List.set_cons_succ, i64_w, i32_w]
              rfl
             refine pure_ (i := 25) (N := some 172) (v := ?_) (a' := ?_) #[true, true, true, true, true, true, true, true, true, true, true, true, true, true, true, true, true, true, true, true, true, true, true, true, true, true, false] rfl rfl (any_of HT_.out (by kernel_rfl)) (fun _ _ _ h => h) (Or.inl ⟨by rfl, ?_⟩) ?_ ?_
             rotate_left
             ·
              intro w'
              go_simp
              with_reducible rfl
             rotate_left
             ·
              simp only [Act.put, List.setIfInBounds_toArray, List.set_cons_zero, List.set_cons_succ, i64_w, i32_w]
              rfl
             refine pure_ (i := 26) (N := some 173) (v := ?_) (a' := ?_) #[true, true, true, true, true, true, true, true, true, true, true, true, true, true, true, true, true, true, true, true, true, true, true, true, true, true, true] rfl rfl (any_of HT_.out (by kernel_rfl)) (fun _ _ _ h => h) (Or.inl ⟨by rfl, ?_⟩) ?_ ?_
             rotate_left
             ·
              intro w'
              go_simp
              with_reducible rfl
             rotate_left
             ·
              simp only [Act.put, List.setIfInBounds_toArray, List.set_cons_zero, List.set_cons_succ, i64_w, i32_w]
              rfl
             refine done_ (done_of HT_.out (by kernel_rfl)) ?_
             try go_wp2
             go_meet
             case rel => exact ⟨_, (false), (by first | rfl | (simp; done) | (simp [*]; done)), H', ⟨by have := HJ4.out; have := HK2.out; first | omega | exact Nat.le_refl _⟩, ⟨krA HO197⟩, ⟨by (with_reducible repeat first | apply Kd.N_alloc | apply Kd.N_drewN | apply Kd.N_drew); exact HO204.out⟩, ⟨by (with_reducible repeat first | apply Kd.N_alloc | apply Kd.N_drewN | apply Kd.N_drew); exact HO207.out⟩, ⟨by (with_reducible repeat first | apply Kd.N_alloc | apply Kd.N_drewN | apply Kd.N_drew); exact HO210.out⟩, ⟨by (with_reducible repeat first | apply Kd.N_alloc | apply Kd.N_drewN | apply Kd.N_drew); exact HO213.out⟩, ⟨bkA BK101⟩, ⟨bkA BK200⟩, ⟨bkA BK214⟩, ⟨hbA HB⟩⟩
            ·
             replace c203 := Bool.eq_false_iff.mpr c203
             subst c203
             have H1 : (none) = some r := by rw [if_neg (show ¬ (false = true) by decide)] at H; exact H
             clear H
             have H := H1
             clear H1
             exact absurd H (by simp)
           ·
            rw [if_neg c201] at H
            exact absurd H (by simp)
          ·
           rw [if_neg c200] at H
           exact absurd H (by simp)
         ·
          replace c198 := Bool.eq_false_iff.mpr c198
          subst c198
          have H1 : (j3 k2 a1 a2 l3 (t193.toList != ([] : List UInt8))) = some r := by rw [if_neg (show ¬ (false = true) by decide)] at H; exact H
          clear H
          have H := H1
          clear H1
          have H' := Aside0.mk H
          clear H
          try go_wp2
          have n0_ : Aside0 (Kd.R (Kd.int .i64) 2 (((((w189.setCell ⟨gb214, 0, none⟩ (.int .i64 t201)).setCell ⟨gb214, 1, none⟩ (.slice Ao193 t202.length co193)).setCell ⟨gb214, 2, none⟩ (.slice Ao194 t205.length co194)).setCell ⟨gb214, 3, none⟩ (.slice Ao195 t208.length co195)).setCell ⟨gb214, 4, none⟩ (.slice Ao196 t211.length co196)) w.heap.size (fun _ => True) (.slice Ao185 t195.length co185) t195) := ⟨by (with_reducible repeat first | apply Kd.R_alloc | apply Kd.R_drewN | apply Kd.R_drew); exact Kd.R_mono (Kd.R_far (p := ⟨gb214, 4, none⟩) (Kd.R_far (p := ⟨gb214, 3, none⟩) (Kd.R_far (p := ⟨gb214, 2, none⟩) (Kd.R_far (p := ⟨gb214, 1, none⟩) (Kd.R_far (p := ⟨gb214, 0, none⟩) (Kd.R_types HO197.out BK214.out (by decide)) (fun _ hk => hk.2) (.int .i64 t201)) (fun _ hk => hk.2) (.slice Ao193 t202.length co193)) (fun _ hk => hk.2) (.slice Ao194 t205.length co194)) (fun _ hk => hk.2) (.slice Ao195 t208.length co195)) (fun _ hk => hk.2) (.slice Ao196 t211.length co196)) (fun _ hk => trivial)⟩
          have n1_ : Aside0 (Kd.N k130 130 (((((w189.setCell ⟨gb214, 0, none⟩ (.int .i64 t201)).setCell ⟨gb214, 1, none⟩ (.slice Ao193 t202.length co193)).setCell ⟨gb214, 2, none⟩ (.slice Ao194 t205.length co194)).setCell ⟨gb214, 3, none⟩ (.slice Ao195 t208.length co195)).setCell ⟨gb214, 4, none⟩ (.slice Ao196 t211.length co196)) w.heap.size (fun k_ => some k_ ≠ (.slice Ao185 t195.length co185 : Value).ownBlock ∧ some k_ ≠ (.slice Ao194 t205.length co194 : Value).ownBlock ∧ some k_ ≠ (.slice Ao195 t208.length co195 : Value).ownBlock ∧ some k_ ≠ (.slice Ao196 t211.length co196 : Value).ownBlock ∧ k_ ≠ gb101 ∧ k_ ≠ gb200 ∧ k_ ≠ gb214) (.slice Ao193 t202.length co193) t202) := ⟨by (with_reducible repeat first | apply Kd.N_alloc | apply Kd.N_drewN | apply Kd.N_drew); exact Kd.N_mono (Kd.N_far (p := ⟨gb214, 4, none⟩) (Kd.N_far (p := ⟨gb214, 3, none⟩) (Kd.N_far (p := ⟨gb214, 2, none⟩) (Kd.N_far (p := ⟨gb214, 1, none⟩) (Kd.N_far (p := ⟨gb214, 0, none⟩) (Kd.N_mono HO204.out (fun k_ hk => (⟨hk, hk.2⟩ : _ ∧ k_ ≠ gb214))) (fun _ hk => hk.2) (.int .i64 t201)) (fun _ hk => hk.2) (.slice Ao193 t202.length co193)) (fun _ hk => hk.2) (.slice Ao194 t205.length co194)) (fun _ hk => hk.2) (.slice Ao195 t208.length co195)) (fun _ hk => hk.2) (.slice Ao196 t211.length co196)) (fun _ hk => ⟨hk.1.1.2.2.2.1, ⟨hk.1.1.1, ⟨hk.1.1.2.1, ⟨hk.1.1.2.2.1, ⟨hk.1.1.2.2.2.2.1, ⟨hk.1.1.2.2.2.2.2, hk.1.2⟩⟩⟩⟩⟩⟩)⟩
          have n2_ : Aside0 (Kd.N k130 130 (((((w189.setCell ⟨gb214, 0, none⟩ (.int .i64 t201)).setCell ⟨gb214, 1, none⟩ (.slice Ao193 t202.length co193)).setCell ⟨gb214, 2, none⟩ (.slice Ao194 t205.length co194)).setCell ⟨gb214, 3, none⟩ (.slice Ao195 t208.length co195)).setCell ⟨gb214, 4, none⟩ (.slice Ao196 t211.length co196)) w.heap.size (fun k_ => some k_ ≠ (.slice Ao185 t195.length co185 : Value).ownBlock ∧ some k_ ≠ (.slice Ao193 t202.length co193 : Value).ownBlock ∧ some k_ ≠ (.slice Ao195 t208.length co195 : Value).ownBlock ∧ some k_ ≠ (.slice Ao196 t211.length co196 : Value).ownBlock ∧ k_ ≠ gb101 ∧ k_ ≠ gb200 ∧ k_ ≠ gb214) (.slice Ao194 t205.length co194) t205) := ⟨by (with_reducible repeat first | apply Kd.N_alloc | apply Kd.N_drewN | apply Kd.N_drew); exact Kd.N_mono (Kd.N_far (p := ⟨gb214, 4, none⟩) (Kd.N_far (p := ⟨gb214, 3, none⟩) (Kd.N_far (p := ⟨gb214, 2, none⟩) (Kd.N_far (p := ⟨gb214, 1, none⟩) (Kd.N_far (p := ⟨gb214, 0, none⟩) (Kd.N_mono HO207.out (fun k_ hk => (⟨hk, hk.2⟩ : _ ∧ k_ ≠ gb214))) (fun _ hk => hk.2) (.int .i64 t201)) (fun _ hk => hk.2) (.slice Ao193 t202.length co193)) (fun _ hk => hk.2) (.slice Ao194 t205.length co194)) (fun _ hk => hk.2) (.slice Ao195 t208.length co195)) (fun _ hk => hk.2) (.slice Ao196 t211.length co196)) (fun _ hk => ⟨hk.1.1.2.2.2.1, ⟨hk.1.1.1, ⟨hk.1.1.2.1, ⟨hk.1.1.2.2.1, ⟨hk.1.1.2.2.2.2.1, ⟨hk.1.1.2.2.2.2.2, hk.1.2⟩⟩⟩⟩⟩⟩)⟩
          have n3_ : Aside0 (Kd.N k63 63 (((((w189.setCell ⟨gb214, 0, none⟩ (.int .i64 t201)).setCell ⟨gb214, 1, none⟩ (.slice Ao193 t202.length co193)).setCell ⟨gb214, 2, none⟩ (.slice Ao194 t205.length co194)).setCell ⟨gb214, 3, none⟩ (.slice Ao195 t208.length co195)).setCell ⟨gb214, 4, none⟩ (.slice Ao196 t211.length co196)) w.heap.size (fun k_ => some k_ ≠ (.slice Ao185 t195.length co185 : Value).ownBlock ∧ some k_ ≠ (.slice Ao193 t202.length co193 : Value).ownBlock ∧ some k_ ≠ (.slice Ao194 t205.length co194 : Value).ownBlock ∧ some k_ ≠ (.slice Ao196 t211.length co196 : Value).ownBlock ∧ k_ ≠ gb101 ∧ k_ ≠ gb200 ∧ k_ ≠ gb214) (.slice Ao195 t208.length co195) t208) := ⟨by (with_reducible repeat first | apply Kd.N_alloc | apply Kd.N_drewN | apply Kd.N_drew); exact Kd.N_mono (Kd.N_far (p := ⟨gb214, 4, none⟩) (Kd.N_far (p := ⟨gb214, 3, none⟩) (Kd.N_far (p := ⟨gb214, 2, none⟩) (Kd.N_far (p := ⟨gb214, 1, none⟩) (Kd.N_far (p := ⟨gb214, 0, none⟩) (Kd.N_mono HO210.out (fun k_ hk => (⟨hk, hk.2⟩ : _ ∧ k_ ≠ gb214))) (fun _ hk => hk.2) (.int .i64 t201)) (fun _ hk => hk.2) (.slice Ao193 t202.length co193)) (fun _ hk => hk.2) (.slice Ao194 t205.length co194)) (fun _ hk => hk.2) (.slice Ao195 t208.length co195)) (fun _ hk => hk.2) (.slice Ao196 t211.length co196)) (fun _ hk => ⟨hk.1.1.2.2.2.1, ⟨hk.1.1.1, ⟨hk.1.1.2.1, ⟨hk.1.1.2.2.1, ⟨hk.1.1.2.2.2.2.1, ⟨hk.1.1.2.2.2.2.2, hk.1.2⟩⟩⟩⟩⟩⟩)⟩
          have n4_ : Aside0 (Kd.N k41 41 (((((w189.setCell ⟨gb214, 0, none⟩ (.int .i64 t201)).setCell ⟨gb214, 1, none⟩ (.slice Ao193 t202.length co193)).setCell ⟨gb214, 2, none⟩ (.slice Ao194 t205.length co194)).setCell ⟨gb214, 3, none⟩ (.slice Ao195 t208.length co195)).setCell ⟨gb214, 4, none⟩ (.slice Ao196 t211.length co196)) w.heap.size (fun k_ => some k_ ≠ (.slice Ao185 t195.length co185 : Value).ownBlock ∧ some k_ ≠ (.slice Ao193 t202.length co193 : Value).ownBlock ∧ some k_ ≠ (.slice Ao194 t205.length co194 : Value).ownBlock ∧ some k_ ≠ (.slice Ao195 t208.length co195 : Value).ownBlock ∧ k_ ≠ gb101 ∧ k_ ≠ gb200 ∧ k_ ≠ gb214) (.slice Ao196 t211.length co196) t211) := ⟨by (with_reducible repeat first | apply Kd.N_alloc | apply Kd.N_drewN | apply Kd.N_drew); exact Kd.N_mono (Kd.N_far (p := ⟨gb214, 4, none⟩) (Kd.N_far (p := ⟨gb214, 3, none⟩) (Kd.N_far (p := ⟨gb214, 2, none⟩) (Kd.N_far (p := ⟨gb214, 1, none⟩) (Kd.N_far (p := ⟨gb214, 0, none⟩) (Kd.N_mono HO213.out (fun k_ hk => (⟨hk, hk.2⟩ : _ ∧ k_ ≠ gb214))) (fun _ hk => hk.2) (.int .i64 t201)) (fun _ hk => hk.2) (.slice Ao193 t202.length co193)) (fun _ hk => hk.2) (.slice Ao194 t205.length co194)) (fun _ hk => hk.2) (.slice Ao195 t208.length co195)) (fun _ hk => hk.2) (.slice Ao196 t211.length co196)) (fun _ hk => ⟨hk.1.1.2.2.2.1, ⟨hk.1.1.1, ⟨hk.1.1.2.1, ⟨hk.1.1.2.2.1, ⟨hk.1.1.2.2.2.2.1, ⟨hk.1.1.2.2.2.2.2, hk.1.2⟩⟩⟩⟩⟩⟩)⟩
          have n5_ : Aside0 ((((((w189.setCell ⟨gb214, 0, none⟩ (.int .i64 t201)).setCell ⟨gb214, 1, none⟩ (.slice Ao193 t202.length co193)).setCell ⟨gb214, 2, none⟩ (.slice Ao194 t205.length co194)).setCell ⟨gb214, 3, none⟩ (.slice Ao195 t208.length co195)).setCell ⟨gb214, 4, none⟩ (.slice Ao196 t211.length co196)).heap[gb101]? = some (.cells #[.int .i64 a0_0, .slice A0_1 l0_1.length c0_1, .slice A0_2 l0_2.length c0_2, .slice A0_3 l0_3.length c0_3, .slice A0_4 l0_4.length c0_4] 26 (0, 0))) := ⟨bkG BK101 NB101_214⟩
          have n6_ : Aside0 ((((((w189.setCell ⟨gb214, 0, none⟩ (.int .i64 t201)).setCell ⟨gb214, 1, none⟩ (.slice Ao193 t202.length co193)).setCell ⟨gb214, 2, none⟩ (.slice Ao194 t205.length co194)).setCell ⟨gb214, 3, none⟩ (.slice Ao195 t208.length co195)).setCell ⟨gb214, 4, none⟩ (.slice Ao196 t211.length co196)).heap[gb200]? = some (.cells #[.string t193, .int .i64 t194, .slice Ao185 t195.length co185, .string t198] 51 (0, 0))) := ⟨bkG BK200 NB200_214⟩
          have n7_ : Aside0 ((((((w189.setCell ⟨gb214, 0, none⟩ (.int .i64 t201)).setCell ⟨gb214, 1, none⟩ (.slice Ao193 t202.length co193)).setCell ⟨gb214, 2, none⟩ (.slice Ao194 t205.length co194)).setCell ⟨gb214, 3, none⟩ (.slice Ao195 t208.length co195)).setCell ⟨gb214, 4, none⟩ (.slice Ao196 t211.length co196)).heap[gb214]? = some (.cells #[.int .i64 t201, .slice Ao193 t202.length co193, .slice Ao194 t205.length co194, .slice Ao195 t208.length co195, .slice Ao196 t211.length co196] 58 (0, 0))) := ⟨by (with_reducible repeat first | apply blk_drewN | apply blk_drew | apply blk_alloc); refine blk_put (cs := #[.int .i64 t201, .slice Ao193 t202.length co193, .slice Ao194 t205.length co194, .slice Ao195 t208.length co195, .slice none 0 0]) ?_ 4 _ rfl; (with_reducible repeat first | apply blk_drewN | apply blk_drew | apply blk_alloc); refine blk_put (cs := #[.int .i64 t201, .slice Ao193 t202.length co193, .slice Ao194 t205.length co194, .slice none 0 0, .slice none 0 0]) ?_ 3 _ rfl; (with_reducible repeat first | apply blk_drewN | apply blk_drew | apply blk_alloc); refine blk_put (cs := #[.int .i64 t201, .slice Ao193 t202.length co193, .slice none 0 0, .slice none 0 0, .slice none 0 0]) ?_ 2 _ rfl; (with_reducible repeat first | apply blk_drewN | apply blk_drew | apply blk_alloc); refine blk_put (cs := #[.int .i64 t201, .slice none 0 0, .slice none 0 0, .slice none 0 0, .slice none 0 0]) ?_ 1 _ rfl; (with_reducible repeat first | apply blk_drewN | apply blk_drew | apply blk_alloc); refine blk_put (cs := #[.int .i64 0, .slice none 0 0, .slice none 0 0, .slice none 0 0, .slice none 0 0]) ?_ 0 _ rfl; (with_reducible repeat first | apply blk_drewN | apply blk_drew | apply blk_alloc); exact BK214.out⟩
          have n8_ : Aside0 (Below w.heap.size w (((((w189.setCell ⟨gb214, 0, none⟩ (.int .i64 t201)).setCell ⟨gb214, 1, none⟩ (.slice Ao193 t202.length co193)).setCell ⟨gb214, 2, none⟩ (.slice Ao194 t205.length co194)).setCell ⟨gb214, 3, none⟩ (.slice Ao195 t208.length co195)).setCell ⟨gb214, 4, none⟩ (.slice Ao196 t211.length co196))) := ⟨hbA HB⟩
          try clear HO197; try clear HO204; try clear HO207; try clear HO210; try clear HO213; try clear BK101; try clear BK200; try clear BK214; try clear HB
          replace n0_ := Aside0.mk (Kd.R_drewN n0_.out nd)
          replace n1_ := Aside0.mk (Kd.N_drewN n1_.out nd)
          replace n2_ := Aside0.mk (Kd.N_drewN n2_.out nd)
          replace n3_ := Aside0.mk (Kd.N_drewN n3_.out nd)
          replace n4_ := Aside0.mk (Kd.N_drewN n4_.out nd)
          replace n5_ := Aside0.mk (blk_drewN n5_.out nd)
          replace n6_ := Aside0.mk (blk_drewN n6_.out nd)
          replace n7_ := Aside0.mk (blk_drewN n7_.out nd)
          replace n8_ := Aside0.mk (pw_below_drewN n8_.out nd)
          generalize ((((((w189.setCell ⟨gb214, 0, none⟩ (.int .i64 t201)).setCell ⟨gb214, 1, none⟩ (.slice Ao193 t202.length co193)).setCell ⟨gb214, 2, none⟩ (.slice Ao194 t205.length co194)).setCell ⟨gb214, 3, none⟩ (.slice Ao195 t208.length co195)).setCell ⟨gb214, 4, none⟩ (.slice Ao196 t211.length co196))).drewN nd = w209 at n0_ n1_ n2_ n3_ n4_ n5_ n6_ n7_ n8_ ⊢
          have HO197 := n0_; have HO204 := n1_; have HO207 := n2_; have HO210 := n3_; have HO213 := n4_; have BK101 := n5_; have BK200 := n6_; have BK214 := n7_; have HB := n8_; clear n0_ n1_ n2_ n3_ n4_ n5_ n6_ n7_ n8_
          have n0_ := A0 (Kd.R_drew HO197.out)
          have n1_ := A0 (Kd.N_drew HO204.out)
          have n2_ := A0 (Kd.N_drew HO207.out)
          have n3_ := A0 (Kd.N_drew HO210.out)
          have n4_ := A0 (Kd.N_drew HO213.out)
          have n5_ := A0 (blk_drew BK101.out)
          have n6_ := A0 (blk_drew BK200.out)
          have n7_ := A0 (blk_drew BK214.out)
          have n8_ := A0 (below_drew1 HB.out)
          clear HO197; clear HO204; clear HO207; clear HO210; clear HO213; clear BK101; clear BK200; clear BK214; clear HB; have HO197 := n0_; have HO204 := n1_; have HO207 := n2_; have HO210 := n3_; have HO213 := n4_; have BK101 := n5_; have BK200 := n6_; have BK214 := n7_; have HB := n8_; clear n0_ n1_ n2_ n3_ n4_ n5_ n6_ n7_ n8_
          refine start_ (n := 27) (S := fun w' => w'.cell? ⟨gb200, 0, none⟩ = some (.string t193) ∧ w'.cell? ⟨gb200, 1, none⟩ = some (.int .i64 t194) ∧ w'.cell? ⟨gb200, 2, none⟩ = some (.slice Ao185 t195.length co185) ∧ w'.cell? ⟨gb200, 3, none⟩ = some (.string t198)) (ds := []) #[false, false, false, false, false, false, false, false, false, false, false, false, false, false, false, false, false, false, false, false, false, false, false, false, false, false, false] (by kernel_rfl) rfl rfl ⟨bcA BK200 0, bcA BK200 1, bcA BK200 2, bcA BK200 3⟩ (fun hHeld => ?_); refine with_tabW tab22 bits22 (fun HT_ HW_ => ?_)
          generalize w209.drew = w210 at HO197 HO204 HO207 HO210 HO213 BK101 BK200 BK214 HB hHeld ⊢
          refine pure_ (i := 0) (N := some 147) (v := ?_) (a' := ?_) #[true, false, false, false, false, false, false, false, false, false, false, false, false, false, false, false, false, false, false, false, false, false, false, false, false, false, false] rfl rfl (any_of HT_.out (by kernel_rfl)) (fun _ _ _ h => h) (Or.inl ⟨by rfl, ?_⟩) ?_ ?_
          rotate_left
          ·
           intro w'
           go_simp
           with_reducible rfl
          rotate_left
          ·
           simp only [Act.put, List.setIfInBounds_toArray, List.set_cons_zero, List.set_cons_succ, i64_w, i32_w]
           rfl
          refine pure_ (i := 1) (N := some 148) (v := ?_) (a' := ?_) #[true, true, false, false, false, false, false, false, false, false, false, false, false, false, false, false, false, false, false, false, false, false, false, false, false, false, false] rfl rfl (any_of HT_.out (by kernel_rfl)) (fun _ _ _ h => h) (Or.inl ⟨by rfl, ?_⟩) ?_ ?_
          rotate_left
          ·
           intro w'
           go_simp
           with_reducible rfl
          rotate_left
          ·
           simp only [Act.put, List.setIfInBounds_toArray, List.set_cons_zero, List.set_cons_succ, i64_w, i32_w]
           rfl
          refine pure_ (i := 2) (N := some 149) (v := ?_) (a' := ?_) #[true, true, true, false, false, false, false, false, false, false, false, false, false, false, false, false, false, false, false, false, false, false, false, false, false, false, false] rfl rfl (any_of HT_.out (by kernel_rfl)) (fun _ _ _ h => h) (Or.inl ⟨by rfl, ?_⟩) ?_ ?_
          rotate_left
          ·
           intro w'
           go_simp
           with_reducible rfl
          rotate_left
          ·
           simp only [Act.put, List.setIfInBounds_toArray, List.set_cons_zero, List.set_cons_succ, i64_w, i32_w]
           rfl
          refine pure_ (i := 3) (N := some 150) (v := ?_) (a' := ?_) #[true, true, true, true, false, false, false, false, false, false, false, false, false, false, false, false, false, false, false, false, false, false, false, false, false, false, false] rfl rfl (any_of HT_.out (by kernel_rfl)) (fun _ _ _ h => h) (Or.inl ⟨by rfl, ?_⟩) ?_ ?_
          rotate_left
          ·
           intro w'
           go_simp
           with_reducible rfl
          rotate_left
          ·
           simp only [Act.put, List.setIfInBounds_toArray, List.set_cons_zero, List.set_cons_succ, i64_w, i32_w]
           rfl
          refine pure_ (i := 4) (N := some 151) (v := ?_) (a' := ?_) #[true, true, true, true, true, false, false, false, false, false, false, false, false, false, false, false, false, false, false, false, false, false, false, false, false, false, false] rfl rfl (any_of HT_.out (by kernel_rfl)) (fun _ _ _ h => h) (Or.inl ⟨by rfl, ?_⟩) ?_ ?_
          rotate_left
          ·
           intro w'
           go_simp
           with_reducible rfl
          rotate_left
          ·
           simp only [Act.put, List.setIfInBounds_toArray, List.set_cons_zero, List.set_cons_succ, i64_w, i32_w]
           rfl
          refine pure_ (i := 5) (N := some 152) (v := ?_) (a' := ?_) #[true, true, true, true, true, true, false, false, false, false, false, false, false, false, false, false, false, false, false, false, false, false, false, false, false, false, false] rfl rfl (any_of HT_.out (by kernel_rfl)) (fun _ _ _ h => h) (Or.inl ⟨by rfl, ?_⟩) ?_ ?_
          rotate_left
          ·
           intro w'
           go_simp
           with_reducible rfl
          rotate_left
          ·
           simp only [Act.put, List.setIfInBounds_toArray, List.set_cons_zero, List.set_cons_succ, i64_w, i32_w]
           rfl
          refine pure_ (i := 6) (N := some 153) (v := ?_) (a' := ?_) #[true, true, true, true, true, true, true, false, false, false, false, false, false, false, false, false, false, false, false, false, false, false, false, false, false, false, false] rfl rfl (any_of HT_.out (by kernel_rfl)) (fun _ _ _ h => h) (Or.inl ⟨by rfl, ?_⟩) ?_ ?_
          rotate_left
          ·
           intro w'
           go_simp
           with_reducible rfl
          rotate_left
          ·
           simp only [Act.put, List.setIfInBounds_toArray, List.set_cons_zero, List.set_cons_succ, i64_w, i32_w]
           rfl
          refine pure_ (i := 7) (N := some 154) (v := undef) (a' := ?_) #[true, true, true, true, true, true, true, true, false, false, false, false, false, false, false, false, false, false, false, false, false, false, false, false, false, false, false] rfl rfl (any_of HT_.out (by kernel_rfl)) (fun _ _ _ h => h) (Or.inr ⟨by rfl, rfl⟩) ?_ ?_
          rotate_left
          ·
           simp only [Act.put, List.setIfInBounds_toArray, List.set_cons_zero, List.set_cons_succ, i64_w, i32_w]
           rfl
          refine pure_ (i := 8) (N := some 155) (v := undef) (a' := ?_) #[true, true, true, true, true, true, true, true, true, false, false, false, false, false, false, false, false, false, false, false, false, false, false, false, false, false, false] rfl rfl (any_of HT_.out (by kernel_rfl)) (fun _ _ _ h => h) (Or.inr ⟨by rfl, rfl⟩) ?_ ?_
          rotate_left
          ·
           simp only [Act.put, List.setIfInBounds_toArray, List.set_cons_zero, List.set_cons_succ, i64_w, i32_w]
           rfl
          refine pure_ (i := 9) (N := some 156) (v := undef) (a' := ?_) #[true, true, true, true, true, true, true, true, true, true, false, false, false, false, false, false, false, false, false, false, false, false, false, false, false, false, false] rfl rfl (any_of HT_.out (by kernel_rfl)) (fun _ _ _ h => h) (Or.inr ⟨by rfl, rfl⟩) ?_ ?_
          rotate_left
          ·
           simp only [Act.put, List.setIfInBounds_toArray, List.set_cons_zero, List.set_cons_succ, i64_w, i32_w]
           rfl
          refine pure_ (i := 10) (N := some 157) (v := undef) (a' := ?_) #[true, true, true, true, true, true, true, true, true, true, true, false, false, false, false, false, false, false, false, false, false, false, false, false, false, false, false] rfl rfl (any_of HT_.out (by kernel_rfl)) (fun _ _ _ h => h) (Or.inr ⟨by rfl, rfl⟩) ?_ ?_
          rotate_left
          ·
           simp only [Act.put, List.setIfInBounds_toArray, List.set_cons_zero, List.set_cons_succ, i64_w, i32_w]
           rfl
          refine pure_ (i := 11) (N := some 158) (v := undef) (a' := ?_) #[true, true, true, true, true, true, true, true, true, true, true, true, false, false, false, false, false, false, false, false, false, false, false, false, false, false, false] rfl rfl (any_of HT_.out (by kernel_rfl)) (fun _ _ _ h => h) (Or.inr ⟨by rfl, rfl⟩) ?_ ?_
          rotate_left
          ·
           simp only [Act.put, List.setIfInBounds_toArray, List.set_cons_zero, List.set_cons_succ, i64_w, i32_w]
           rfl
          refine pure_ (i := 12) (N := some 159) (v := undef) (a' := ?_) #[true, true, true, true, true, true, true, true, true, true, true, true, true, false, false, false, false, false, false, false, false, false, false, false, false, false, false] rfl rfl (any_of HT_.out (by kernel_rfl)) (fun _ _ _ h => h) (Or.inr ⟨by rfl, rfl⟩) ?_ ?_
          rotate_left
          ·
           simp only [Act.put, List.setIfInBounds_toArray, List.set_cons_zero, List.set_cons_succ, i64_w, i32_w]
           rfl
          refine pure_ (i := 13) (N := some 160) (v := undef) (a' := ?_) #[true, true, true, true, true, true, true, true, true, true, true, true, true, true, false, false, false, false, false, false, false, false, false, false, false, false, false] rfl rfl (any_of HT_.out (by kernel_rfl)) (fun _ _ _ h => h) (Or.inr ⟨by rfl, rfl⟩) ?_ ?_
          rotate_left
          ·
           simp only [Act.put, List.setIfInBounds_toArray, List.set_cons_zero, List.set_cons_succ, i64_w, i32_w]
           rfl
          refine pure_ (i := 14) (N := some 161) (v := undef) (a' := ?_) #[true, true, true, true, true, true, true, true, true, true, true, true, true, true, true, false, false, false, false, false, false, false, false, false, false, false, false] rfl rfl (any_of HT_.out (by kernel_rfl)) (fun _ _ _ h => h) (Or.inr ⟨by rfl, rfl⟩) ?_ ?_
          rotate_left
          ·
           simp only [Act.put, List.setIfInBounds_toArray, List.set_cons_zero, List.set_cons_succ, i64_w, i32_w]
           rfl
          refine pure_ (i := 15) (N := some 162) (v := undef) (a' := ?_) #[true, true, true, true, true, true, true, true, true, true, true, true, true, true, true, true, false, false, false, false, false, false, false, false, false, false, false] rfl rfl (any_of HT_.out (by kernel_rfl)) (fun _ _ _ h => h) (Or.inr ⟨by rfl, rfl⟩) ?_ ?_
          rotate_left
          ·
           simp only [Act.put, List.setIfInBounds_toArray, List.set_cons_zero, List.set_cons_succ, i64_w, i32_w]
           rfl
          refine pure_ (i := 16) (N := some 163) (v := ?_) (a' := ?_) #[true, true, true, true, true, true, true, true, true, true, true, true, true, true, true, true, true, false, false, false, false, false, false, false, false, false, false] rfl rfl (any_of HT_.out (by kernel_rfl)) (fun _ _ _ h => h) (Or.inl ⟨by rfl, ?_⟩) ?_ ?_
          rotate_left
          ·
           intro w'
           go_simp
           with_reducible rfl
          rotate_left
          ·
           simp only [Act.put, List.setIfInBounds_toArray, List.set_cons_zero, List.set_cons_succ, i64_w, i32_w]
           rfl
          refine pure_ (i := 17) (N := some 164) (v := ?_) (a' := ?_) #[true, true, true, true, true, true, true, true, true, true, true, true, true, true, true, true, true, true, false, false, false, false, false, false, false, false, false] rfl rfl (any_of HT_.out (by kernel_rfl)) (fun _ _ _ h => h) (Or.inl ⟨by rfl, ?_⟩) ?_ ?_
          rotate_left
          ·
           intro w'
           go_simp
           with_reducible rfl
          rotate_left
          ·
           simp only [Act.put, List.setIfInBounds_toArray, List.set_cons_zero, List.set_cons_succ, i64_w, i32_w]
           rfl
          refine pure_ (i := 18) (N := some 165) (v := ?_) (a' := ?_) #[true, true, true, true, true, true, true, true, true, true, true, true, true, true, true, true, true, true, true, false, false, false, false, false, false, false, false] rfl rfl (any_of HT_.out (by kernel_rfl)) (fun _ _ _ h => h) (Or.inl ⟨by rfl, ?_⟩) ?_ ?_
          rotate_left
          ·
           intro w'
           go_simp
           with_reducible rfl
          rotate_left
          ·
           simp only [Act.put, List.setIfInBounds_toArray, List.set_cons_zero, List.set_cons_succ, i64_w, i32_w]
           rfl
          refine pure_ (i := 19) (N := some 166) (v := ?_) (a' := ?_) #[true, true, true, true, true, true, true, true, true, true, true, true, true, true, true, true, true, true, true, true, false, false, false, false, false, false, false] rfl rfl (any_of HT_.out (by kernel_rfl)) (fun _ _ _ h => h) (Or.inl ⟨by rfl, ?_⟩) ?_ ?_
          rotate_left
          ·
           intro w'
           go_simp
           with_reducible rfl
          rotate_left
          ·
           simp only [Act.put, List.setIfInBounds_toArray, List.set_cons_zero, List.set_cons_succ, i64_w, i32_w]
           rfl
          refine pure_ (i := 20) (N := some 167) (v := ?_) (a' := ?_) #[true, true, true, true, true, true, true, true, true, true, true, true, true, true, true, true, true, true, true, true, true, false, false, false, false, false, false] rfl rfl (any_of HT_.out (by kernel_rfl)) (fun _ _ _ h => h) (Or.inl ⟨by rfl, ?_⟩) ?_ ?_
          rotate_left
          ·
           intro w'
           go_simp
           with_reducible rfl
          rotate_left
          ·
           simp only [Act.put, List.setIfInBounds_toArray, List.set_cons_zero, List.set_cons_succ, i64_w, i32_w]
           rfl
          refine pure_ (i := 21) (N := some 168) (v := ?_) (a' := ?_) #[true, true, true, true, true, true, true, true, true, true, true, true, true, true, true, true, true, true, true, true, true, true, false, false, false, false, false] rfl rfl (any_of HT_.out (by kernel_rfl)) (fun _ _ _ h => h) (Or.inl ⟨by rfl, ?_⟩) ?_ ?_
          rotate_left
          ·
           intro w'
           go_simp
           with_reducible rfl
          rotate_left
          ·
           simp only [Act.put, List.setIfInBounds_toArray, List.set_cons_zero, List.set_cons_succ, i64_w, i32_w]
           rfl
          refine pure_ (i := 22) (N := some 169) (v := ?_) (a' := ?_) #[true, true, true, true, true, true, true, true, true, true, true, true, true, true, true, true, true, true, true, true, true, true, true, false, false, false, false] rfl rfl (any_of HT_.out (by kernel_rfl)) (fun _ _ _ h => h) (Or.inl ⟨by rfl, ?_⟩) ?_ ?_
          rotate_left
          ·
           intro w'
           go_simp
           with_reducible rfl
          rotate_left
          ·
           simp only [Act.put, List.setIfInBounds_toArray, List.set_cons_zero, List.set_cons_succ, i64_w, i32_w]
           rfl
          refine take_ (i := 23) (N := some 170) (v := ?_) (a' := ?_) #[true, true, true, true, true, true, true, true, true, true, true, true, true, true, true, true, true, true, true, true, true, true, true, true, false, false, false] rfl rfl (take_ofW HT_.out HW_.out (by kernel_rfl)) (fun _ _ _ h => h) (Or.inl ⟨by rfl, ?_⟩) hHeld ?_ ?_
          rotate_left
          ·
           rintro w' ⟨s0, s1, s2, s3⟩
           go_simp
           with_reducible rfl
          rotate_left
          ·
           simp only [Act.put, List.setIfInBounds_toArray, List.set_cons_zero, List.set_cons_succ, i64_w, i32_w]
           rfl
          refine pure_ (i := 24) (N := some 171) (v := ?_) (a' := ?_) #[true, true, true, true, true, true, true, true, true, true, true, true, true, true, true, true, true, true, true, true, true, true, true, true, true, false, false] rfl rfl (any_of HT_.out (by kernel_rfl)) (fun _ _ _ h => h) (Or.inl ⟨by rfl, ?_⟩) ?_ ?_
          rotate_left
          ·
           intro w'
           go_simp
           with_reducible rfl
          rotate_left
          ·
           simp only [Act.put, List.setIfInBounds_toArray, List.set_cons_zero, List.set_cons_succ, i64_w, i32_w]
           rfl
          refine pure_ (i := 25) (N := some 172) (v := ?_) (a' := ?_) #[true, true, true, true, true, true, true, true, true, true, true, true, true, true, true, true, true, true, true, true, true, true, true, true, true, true, false] rfl rfl (any_of HT_.out (by kernel_rfl)) (fun _ _ _ h => h) (Or.inl ⟨by rfl, ?_⟩) ?_ ?_
          rotate_left
          ·
           intro w'
           go_simp
           with_reducible rfl
          rotate_left
          ·
           simp only [Act.put, List.setIfInBounds_toArray, List.set_cons_zero, List.set_cons_succ, i64_w, i32_w]
           rfl
          refine pure_ (i := 26) (N := some 173) (v := ?_) (a' := ?_) #[true, true, true, true, true, true, true, true, true, true, true, true, true, true, true, true, true, true, true, true, true, true, true, true, true, true, true] rfl rfl (any_of HT_.out (by kernel_rfl)) (fun _ _ _ h => h) (Or.inl ⟨by rfl, ?_⟩) ?_ ?_
          rotate_left
          ·
           intro w'
           go_simp
           with_reducible rfl
          rotate_left
          ·
           simp only [Act.put, List.setIfInBounds_toArray, List.set_cons_zero, List.set_cons_succ, i64_w, i32_w]
           rfl
          refine done_ (done_of HT_.out (by kernel_rfl)) ?_
          try go_wp2
          go_meet
          case rel => exact ⟨_, ((t193.toList != ([] : List UInt8))), (by first | rfl | (simp; exact isE_ne _) | (simp; done) | (simp [*]; done)), H', ⟨by have := HJ4.out; have := HK2.out; first | omega | exact Nat.le_refl _⟩, ⟨krA HO197⟩, ⟨by (with_reducible repeat first | apply Kd.N_alloc | apply Kd.N_drewN | apply Kd.N_drew); exact HO204.out⟩, ⟨by (with_reducible repeat first | apply Kd.N_alloc | apply Kd.N_drewN | apply Kd.N_drew); exact HO207.out⟩, ⟨by (with_reducible repeat first | apply Kd.N_alloc | apply Kd.N_drewN | apply Kd.N_drew); exact HO210.out⟩, ⟨by (with_reducible repeat first | apply Kd.N_alloc | apply Kd.N_drewN | apply Kd.N_drew); exact HO213.out⟩, ⟨bkA BK101⟩, ⟨bkA BK200⟩, ⟨bkA BK214⟩, ⟨hbA HB⟩⟩
       case rest =>
        clear HC179
        obtain ⟨kq, x173_178, rfl, HA, HJ178, HO_201002, HO_215001, HO_215002, HO_215003, HO_215004, BK101, BK200, BK214, HB⟩ := hcut
        cases kq with
        | zero => exact absurd HA.out (by simp [j3])
        | succ kj178 =>
         have H := HA.out; clear HA
         simp only [j3] at H
         by_cases c211 : x173_178 = true
         ·
          subst c211
          have H1 : (none) = some r := by rw [if_pos rfl] at H; exact H
          clear H
          have H := H1
          clear H1
          exact absurd H (by simp)
         ·
          replace c211 := Bool.eq_false_iff.mpr c211
          subst c211
          have H1 : ((model_Number.f a1 a2).bind fun bt281 => ((model_Row.f a1 l3).bind fun bt287 => ((agatelaw10_Awake.f).bind fun t295 => (if t295 = true then (if bt281.1.toList = a1.toList then (if bt281.2.1 = true then (if bt281.2.2.1 = a2 then (if bt287.1.toList = a1.toList then (if bt287.2.1 = true then (none) else ((agatelaw03_Ints_s.f bt287.2.2.2 l3).bind fun t296 => (if t296 = true then ((model_Attr_Same.f kj178 bt281.1 bt281.2.1 bt281.2.2.1 bt281.2.2.2 bt287.1 bt287.2.1 bt287.2.2.1 bt287.2.2.2).bind fun t297 => (if t297 = true then (none) else ((model_Attr_Same.f kj178 bt281.1 bt281.2.1 bt281.2.2.1 bt281.2.2.2 bt281.1 bt281.2.1 bt281.2.2.1 bt281.2.2.2).bind fun t298 => (if t298 = true then ((model_Attr_Same.f kj178 bt287.1 bt287.2.1 bt287.2.2.1 bt287.2.2.2 bt287.1 bt287.2.1 bt287.2.2.1 bt287.2.2.2).bind fun t299 => (some t299)) else (none))))) else (none)))) else (none)) else (none)) else (none)) else (none)) else (none))))) = some r := by rw [if_neg (show ¬ (false = true) by decide)] at H; exact H
          clear H
          have H := H1
          clear H1
          replace H := Option.bind_eq_some_iff.mp H
          obtain ⟨⟨t281, t282, t283, t284⟩, A2120, H⟩ := H
          replace H : ((model_Row.f a1 l3).bind fun bt287 => ((agatelaw10_Awake.f).bind fun t295 => (if t295 = true then (if t281.toList = a1.toList then (if t282 = true then (if t283 = a2 then (if bt287.1.toList = a1.toList then (if bt287.2.1 = true then (none) else ((agatelaw03_Ints_s.f bt287.2.2.2 l3).bind fun t296 => (if t296 = true then ((model_Attr_Same.f kj178 t281 t282 t283 t284 bt287.1 bt287.2.1 bt287.2.2.1 bt287.2.2.2).bind fun t297 => (if t297 = true then (none) else ((model_Attr_Same.f kj178 t281 t282 t283 t284 t281 t282 t283 t284).bind fun t298 => (if t298 = true then ((model_Attr_Same.f kj178 bt287.1 bt287.2.1 bt287.2.2.1 bt287.2.2.2 bt287.1 bt287.2.1 bt287.2.2.1 bt287.2.2.2).bind fun t299 => (some t299)) else (none))))) else (none)))) else (none)) else (none)) else (none)) else (none)) else (none)))) = some r := H
          have A212 := Aside0.mk A2120
          clear A2120
          replace H := Option.bind_eq_some_iff.mp H
          obtain ⟨⟨t287, t288, t289, t290⟩, A2130, H⟩ := H
          replace H : ((agatelaw10_Awake.f).bind fun t295 => (if t295 = true then (if t281.toList = a1.toList then (if t282 = true then (if t283 = a2 then (if t287.toList = a1.toList then (if t288 = true then (none) else ((agatelaw03_Ints_s.f t290 l3).bind fun t296 => (if t296 = true then ((model_Attr_Same.f kj178 t281 t282 t283 t284 t287 t288 t289 t290).bind fun t297 => (if t297 = true then (none) else ((model_Attr_Same.f kj178 t281 t282 t283 t284 t281 t282 t283 t284).bind fun t298 => (if t298 = true then ((model_Attr_Same.f kj178 t287 t288 t289 t290 t287 t288 t289 t290).bind fun t299 => (some t299)) else (none))))) else (none)))) else (none)) else (none)) else (none)) else (none)) else (none))) = some r := H
          have A213 := Aside0.mk A2130
          clear A2130
          replace H := Option.bind_eq_some_iff.mp H
          obtain ⟨t295, A2140, H⟩ := H
          replace H : (if t295 = true then (if t281.toList = a1.toList then (if t282 = true then (if t283 = a2 then (if t287.toList = a1.toList then (if t288 = true then (none) else ((agatelaw03_Ints_s.f t290 l3).bind fun t296 => (if t296 = true then ((model_Attr_Same.f kj178 t281 t282 t283 t284 t287 t288 t289 t290).bind fun t297 => (if t297 = true then (none) else ((model_Attr_Same.f kj178 t281 t282 t283 t284 t281 t282 t283 t284).bind fun t298 => (if t298 = true then ((model_Attr_Same.f kj178 t287 t288 t289 t290 t287 t288 t289 t290).bind fun t299 => (some t299)) else (none))))) else (none)))) else (none)) else (none)) else (none)) else (none)) else (none)) = some r := H
          have A214 := Aside0.mk A2140
          clear A2140
          by_cases c215 : t295 = true
          ·
           subst c215
           have H1 : (if t281.toList = a1.toList then (if t282 = true then (if t283 = a2 then (if t287.toList = a1.toList then (if t288 = true then (none) else ((agatelaw03_Ints_s.f t290 l3).bind fun t296 => (if t296 = true then ((model_Attr_Same.f kj178 t281 t282 t283 t284 t287 t288 t289 t290).bind fun t297 => (if t297 = true then (none) else ((model_Attr_Same.f kj178 t281 t282 t283 t284 t281 t282 t283 t284).bind fun t298 => (if t298 = true then ((model_Attr_Same.f kj178 t287 t288 t289 t290 t287 t288 t289 t290).bind fun t299 => (some t299)) else (none))))) else (none)))) else (none)) else (none)) else (none)) else (none)) = some r := by rw [if_pos rfl] at H; exact H
           clear H
           have H := H1
           clear H1
           by_cases c216 : t281.toList = a1.toList
           ·
            rw [if_pos c216] at H
            have c216b0 : (t281.toList == a1.toList) = true := beq_iff_eq.mpr c216
            have c216b1 : (t281.toList != a1.toList) = false := bne_eq_false_iff_eq.mpr c216
            clear c216
            by_cases c217 : t282 = true
            ·
             subst c217
             have H1 : (if t283 = a2 then (if t287.toList = a1.toList then (if t288 = true then (none) else ((agatelaw03_Ints_s.f t290 l3).bind fun t296 => (if t296 = true then ((model_Attr_Same.f kj178 t281 true t283 t284 t287 t288 t289 t290).bind fun t297 => (if t297 = true then (none) else ((model_Attr_Same.f kj178 t281 true t283 t284 t281 true t283 t284).bind fun t298 => (if t298 = true then ((model_Attr_Same.f kj178 t287 t288 t289 t290 t287 t288 t289 t290).bind fun t299 => (some t299)) else (none))))) else (none)))) else (none)) else (none)) = some r := by rw [if_pos rfl] at H; exact H
             clear H
             have H := H1
             clear H1
             by_cases c218 : t283 = a2
             ·
              rw [if_pos c218] at H
              have c218b0 : (t283 == a2) = true := beq_iff_eq.mpr c218
              have c218b1 : (t283 != a2) = false := bne_eq_false_iff_eq.mpr c218
              clear c218
              by_cases c219 : t287.toList = a1.toList
              ·
               rw [if_pos c219] at H
               have c219b0 : (t287.toList == a1.toList) = true := beq_iff_eq.mpr c219
               have c219b1 : (t287.toList != a1.toList) = false := bne_eq_false_iff_eq.mpr c219
               clear c219
               by_cases c220 : t288 = true
               ·
                subst c220
                have H1 : (none) = some r := by rw [if_pos rfl] at H; exact H
                clear H
                have H := H1
                clear H1
                exact absurd H (by simp)
               ·
                replace c220 := Bool.eq_false_iff.mpr c220
                subst c220
                have H1 : ((agatelaw03_Ints_s.f t290 l3).bind fun t296 => (if t296 = true then ((model_Attr_Same.f kj178 t281 true t283 t284 t287 false t289 t290).bind fun t297 => (if t297 = true then (none) else ((model_Attr_Same.f kj178 t281 true t283 t284 t281 true t283 t284).bind fun t298 => (if t298 = true then ((model_Attr_Same.f kj178 t287 false t289 t290 t287 false t289 t290).bind fun t299 => (some t299)) else (none))))) else (none))) = some r := by rw [if_neg (show ¬ (false = true) by decide)] at H; exact H
                clear H
                have H := H1
                clear H1
                replace H := Option.bind_eq_some_iff.mp H
                obtain ⟨t296, A2210, H⟩ := H
                replace H : (if t296 = true then ((model_Attr_Same.f kj178 t281 true t283 t284 t287 false t289 t290).bind fun t297 => (if t297 = true then (none) else ((model_Attr_Same.f kj178 t281 true t283 t284 t281 true t283 t284).bind fun t298 => (if t298 = true then ((model_Attr_Same.f kj178 t287 false t289 t290 t287 false t289 t290).bind fun t299 => (some t299)) else (none))))) else (none)) = some r := H
                have A221 := Aside0.mk A2210
                clear A2210
                by_cases c222 : t296 = true
                ·
                 subst c222
                 have H1 : ((model_Attr_Same.f kj178 t281 true t283 t284 t287 false t289 t290).bind fun t297 => (if t297 = true then (none) else ((model_Attr_Same.f kj178 t281 true t283 t284 t281 true t283 t284).bind fun t298 => (if t298 = true then ((model_Attr_Same.f kj178 t287 false t289 t290 t287 false t289 t290).bind fun t299 => (some t299)) else (none))))) = some r := by rw [if_pos rfl] at H; exact H
                 clear H
                 have H := H1
                 clear H1
                 replace H := Option.bind_eq_some_iff.mp H
                 obtain ⟨t297, A2230, H⟩ := H
                 replace H : (if t297 = true then (none) else ((model_Attr_Same.f kj178 t281 true t283 t284 t281 true t283 t284).bind fun t298 => (if t298 = true then ((model_Attr_Same.f kj178 t287 false t289 t290 t287 false t289 t290).bind fun t299 => (some t299)) else (none)))) = some r := H
                 have A223 := Aside0.mk A2230
                 clear A2230
                 by_cases c224 : t297 = true
                 ·
                  subst c224
                  have H1 : (none) = some r := by rw [if_pos rfl] at H; exact H
                  clear H
                  have H := H1
                  clear H1
                  exact absurd H (by simp)
                 ·
                  replace c224 := Bool.eq_false_iff.mpr c224
                  subst c224
                  have H1 : ((model_Attr_Same.f kj178 t281 true t283 t284 t281 true t283 t284).bind fun t298 => (if t298 = true then ((model_Attr_Same.f kj178 t287 false t289 t290 t287 false t289 t290).bind fun t299 => (some t299)) else (none))) = some r := by rw [if_neg (show ¬ (false = true) by decide)] at H; exact H
                  clear H
                  have H := H1
                  clear H1
                  replace H := Option.bind_eq_some_iff.mp H
                  obtain ⟨t298, A2250, H⟩ := H
                  replace H : (if t298 = true then ((model_Attr_Same.f kj178 t287 false t289 t290 t287 false t289 t290).bind fun t299 => (some t299)) else (none)) = some r := H
                  have A225 := Aside0.mk A2250
                  clear A2250
                  by_cases c226 : t298 = true
                  ·
                   subst c226
                   have H1 : ((model_Attr_Same.f kj178 t287 false t289 t290 t287 false t289 t290).bind fun t299 => (some t299)) = some r := by rw [if_pos rfl] at H; exact H
                   clear H
                   have H := H1
                   clear H1
                   replace H := Option.bind_eq_some_iff.mp H
                   obtain ⟨t299, A2270, H⟩ := H
                   replace H : (some t299) = some r := H
                   have A227 := Aside0.mk A2270
                   clear A2270
                   obtain rfl := Option.some.inj H
                   go_wp2_with (first | ((with_reducible refine gate_callee (f := 21) rfl ?_); refine goesL_ (some 176) rfl rfl Try.func21 (by kernel_rfl) rfl #[.string a1, .int .i64 a2] rfl (by (try simp only [List.map_toArray, List.map_cons, List.map_nil]); first | done | rfl | (simp only [List.length_drop, List.length_take]; rfl)) ?_; (with_reducible refine (model_Number.calls a1 a2 t281 true t283 t284 _ A212.out).mono ?_); rintro e w228 ⟨v285, rfl, ho0, hb⟩; refine ⟨_, rfl, ?_⟩; have n0_ := A0 (Kd.R_elder' (krA HO_201002) (Kd.R_base ho0) hb); have n1_ := A0 (Kd.N_elder' (by (with_reducible repeat first | apply Kd.N_alloc | apply Kd.N_drewN | apply Kd.N_drew); exact HO_215001.out) (Kd.R_base ho0) hb); have n2_ := A0 (Kd.N_elder' (by (with_reducible repeat first | apply Kd.N_alloc | apply Kd.N_drewN | apply Kd.N_drew); exact HO_215002.out) (Kd.R_base ho0) hb); have n3_ := A0 (Kd.N_elder' (by (with_reducible repeat first | apply Kd.N_alloc | apply Kd.N_drewN | apply Kd.N_drew); exact HO_215003.out) (Kd.R_base ho0) hb); have n4_ := A0 (Kd.N_elder' (by (with_reducible repeat first | apply Kd.N_alloc | apply Kd.N_drewN | apply Kd.N_drew); exact HO_215004.out) (Kd.R_base ho0) hb); have n5_ := A0 (Kd.R_lower (Kd.R_new' ho0 (Kd.R_lt (krA HO_201002))) (below_size (hbA HB))); have n6_ := A0 (blk_below (g := gb101) (bkA BK101) hb); have n7_ := A0 (blk_below (g := gb200) (bkA BK200) hb); have n8_ := A0 (blk_below (g := gb214) (bkA BK214) hb); have n9_ := A0 (below_step (hbA HB) hb); clear HO_201002; clear HO_215001; clear HO_215002; clear HO_215003; clear HO_215004; clear BK101; clear BK200; clear BK214; clear HB; have HO_201002 := n0_; have HO_215001 := n1_; have HO_215002 := n2_; have HO_215003 := n3_; have HO_215004 := n4_; have HO286 := n5_; have BK101 := n6_; have BK200 := n7_; have BK214 := n8_; have HB := n9_; clear n0_ n1_ n2_ n3_ n4_ n5_ n6_ n7_ n8_ n9_; (try clear hb); (try clear hb2); (try clear hk); (try clear hi); (try clear ho0)) | ((with_reducible refine gate_callee (f := 22) rfl ?_); refine goesL_ (some 179) rfl rfl Try.func22 (by kernel_rfl) rfl #[.string a1, .slice A3 l3.length c3] rfl (by (try simp only [List.map_toArray, List.map_cons, List.map_nil]); first | done | rfl | (simp only [List.length_drop, List.length_take]; rfl)) ?_; (with_reducible refine (model_Row.calls a1 _ _ l3 t287 false t289 t290 _ ?side1 ?side2 A213.out).mono ?_); (case side1 => ((repeat first | (with_reducible refine Kd.C_alloc ?_ _) | (with_reducible refine Kd.C_drewN ?_ _) | (with_reducible refine Kd.C_drew ?_)); exact (Kd.C_below HR3.out HB.out))); (case side2 => exact HC3.out); rintro e w229 ⟨v291, rfl, ho0, hb⟩; refine ⟨_, rfl, ?_⟩; have n0_ := A0 (Kd.R_elder' (krA HO_201002) (Kd.R_base ho0) hb); have n1_ := A0 (Kd.N_elder' (by (with_reducible repeat first | apply Kd.N_alloc | apply Kd.N_drewN | apply Kd.N_drew); exact HO_215001.out) (Kd.R_base ho0) hb); have n2_ := A0 (Kd.N_elder' (by (with_reducible repeat first | apply Kd.N_alloc | apply Kd.N_drewN | apply Kd.N_drew); exact HO_215002.out) (Kd.R_base ho0) hb); have n3_ := A0 (Kd.N_elder' (by (with_reducible repeat first | apply Kd.N_alloc | apply Kd.N_drewN | apply Kd.N_drew); exact HO_215003.out) (Kd.R_base ho0) hb); have n4_ := A0 (Kd.N_elder' (by (with_reducible repeat first | apply Kd.N_alloc | apply Kd.N_drewN | apply Kd.N_drew); exact HO_215004.out) (Kd.R_base ho0) hb); have n5_ := A0 (Kd.R_elder' (krA HO286) (Kd.R_base ho0) hb); have n6_ := A0 (Kd.R_lower (Kd.R_new' (Kd.R_new' ho0 (Kd.R_lt (krA HO_201002))) (Kd.R_lt (krA HO286))) (below_size (hbA HB))); have n7_ := A0 (blk_below (g := gb101) (bkA BK101) hb); have n8_ := A0 (blk_below (g := gb200) (bkA BK200) hb); have n9_ := A0 (blk_below (g := gb214) (bkA BK214) hb); have n10_ := A0 (below_step (hbA HB) hb); clear HO_201002; clear HO_215001; clear HO_215002; clear HO_215003; clear HO_215004; clear HO286; clear BK101; clear BK200; clear BK214; clear HB; have HO_201002 := n0_; have HO_215001 := n1_; have HO_215002 := n2_; have HO_215003 := n3_; have HO_215004 := n4_; have HO286 := n5_; have HO292 := n6_; have BK101 := n7_; have BK200 := n8_; have BK214 := n9_; have HB := n10_; clear n0_ n1_ n2_ n3_ n4_ n5_ n6_ n7_ n8_ n9_ n10_; (try clear hb); (try clear hb2); (try clear hk); (try clear hi); (try clear ho0)) | ((with_reducible refine gate_dst (N := 22) rfl ?_); (try (refine gate_guard (by rfl) ?_; dsimp only)); refine box_event ?hg (N := 22) ?hd (cs := #[.string (⟨#[]⟩ : ByteArray), .bool false, .int .i64 0, .slice none 0 0]) (t := 35) ?hr ?_; (case hd => rfl); (case hg => rfl); (case hr => first | (go_simp; done) | (go_simp; rfl)); intro gb293 hg w230 hbox hb; have n0_ := A0 (Kd.R_below (krA HO_201002) hb); have n1_ := A0 (Kd.N_below (Kd.N_elderB (by (with_reducible repeat first | apply Kd.N_alloc | apply Kd.N_drewN | apply Kd.N_drew); exact HO_215001.out) gb293 (Nat.le_of_eq hg.symm)) hb); have n2_ := A0 (Kd.N_below (Kd.N_elderB (by (with_reducible repeat first | apply Kd.N_alloc | apply Kd.N_drewN | apply Kd.N_drew); exact HO_215002.out) gb293 (Nat.le_of_eq hg.symm)) hb); have n3_ := A0 (Kd.N_below (Kd.N_elderB (by (with_reducible repeat first | apply Kd.N_alloc | apply Kd.N_drewN | apply Kd.N_drew); exact HO_215003.out) gb293 (Nat.le_of_eq hg.symm)) hb); have n4_ := A0 (Kd.N_below (Kd.N_elderB (by (with_reducible repeat first | apply Kd.N_alloc | apply Kd.N_drewN | apply Kd.N_drew); exact HO_215004.out) gb293 (Nat.le_of_eq hg.symm)) hb); have n5_ := A0 (Kd.R_below (krA HO286) hb); have n6_ := A0 (Kd.R_below (krA HO292) hb); have n7_ := A0 (blk_below (g := gb101) (bkA BK101) hb); have n8_ := A0 (blk_below (g := gb200) (bkA BK200) hb); have n9_ := A0 (blk_below (g := gb214) (bkA BK214) hb); have n10_ := A0 (below_step (hbA HB) hb); have n11_ := A0 (hbox); have n12_ := A0 ((by rw [hg]; exact (below_size (hbA HB)) : w.heap.size ≤ gb293)); have n13_ := A0 ((by rw [hg]; exact (below_size (hbA HB)) : w.heap.size ≤ gb293)); have n14_ := A0 ((by rw [hg]; exact Nat.ne_of_lt (blk_lt (g := gb101) (bkA BK101)) : gb101 ≠ gb293)); have n15_ := A0 ((by rw [hg]; exact Nat.ne_of_gt (blk_lt (g := gb101) (bkA BK101)) : gb293 ≠ gb101)); have n16_ := A0 ((by rw [hg]; exact Nat.ne_of_lt (blk_lt (g := gb200) (bkA BK200)) : gb200 ≠ gb293)); have n17_ := A0 ((by rw [hg]; exact Nat.ne_of_gt (blk_lt (g := gb200) (bkA BK200)) : gb293 ≠ gb200)); have n18_ := A0 ((by rw [hg]; exact Nat.ne_of_lt (blk_lt (g := gb214) (bkA BK214)) : gb214 ≠ gb293)); have n19_ := A0 ((by rw [hg]; exact Nat.ne_of_gt (blk_lt (g := gb214) (bkA BK214)) : gb293 ≠ gb214)); clear HO_201002; clear HO_215001; clear HO_215002; clear HO_215003; clear HO_215004; clear HO286; clear HO292; clear BK101; clear BK200; clear BK214; clear HB; have HO_201002 := n0_; have HO_215001 := n1_; have HO_215002 := n2_; have HO_215003 := n3_; have HO_215004 := n4_; have HO286 := n5_; have HO292 := n6_; have BK101 := n7_; have BK200 := n8_; have BK214 := n9_; have HB := n10_; have BK293 := n11_; have GW293 := n12_; have GE293 := n13_; have NB101_293 := n14_; have NB293_101 := n15_; have NB200_293 := n16_; have NB293_200 := n17_; have NB214_293 := n18_; have NB293_214 := n19_; clear n0_ n1_ n2_ n3_ n4_ n5_ n6_ n7_ n8_ n9_ n10_ n11_ n12_ n13_ n14_ n15_ n16_ n17_ n18_ n19_; clear hb hbox hg) | ((with_reducible refine gate_dst (N := 23) rfl ?_); (try (refine gate_guard (by rfl) ?_; dsimp only)); refine box_event ?hg (N := 23) ?hd (cs := #[.string (⟨#[]⟩ : ByteArray), .bool false, .int .i64 0, .slice none 0 0]) (t := 35) ?hr ?_; (case hd => rfl); (case hg => rfl); (case hr => first | (go_simp; done) | (go_simp; rfl)); intro gb294 hg w231 hbox hb; have n0_ := A0 (Kd.R_below (krA HO_201002) hb); have n1_ := A0 (Kd.N_below (Kd.N_elderB (by (with_reducible repeat first | apply Kd.N_alloc | apply Kd.N_drewN | apply Kd.N_drew); exact HO_215001.out) gb294 (Nat.le_of_eq hg.symm)) hb); have n2_ := A0 (Kd.N_below (Kd.N_elderB (by (with_reducible repeat first | apply Kd.N_alloc | apply Kd.N_drewN | apply Kd.N_drew); exact HO_215002.out) gb294 (Nat.le_of_eq hg.symm)) hb); have n3_ := A0 (Kd.N_below (Kd.N_elderB (by (with_reducible repeat first | apply Kd.N_alloc | apply Kd.N_drewN | apply Kd.N_drew); exact HO_215003.out) gb294 (Nat.le_of_eq hg.symm)) hb); have n4_ := A0 (Kd.N_below (Kd.N_elderB (by (with_reducible repeat first | apply Kd.N_alloc | apply Kd.N_drewN | apply Kd.N_drew); exact HO_215004.out) gb294 (Nat.le_of_eq hg.symm)) hb); have n5_ := A0 (Kd.R_below (krA HO286) hb); have n6_ := A0 (Kd.R_below (krA HO292) hb); have n7_ := A0 (blk_below (g := gb101) (bkA BK101) hb); have n8_ := A0 (blk_below (g := gb200) (bkA BK200) hb); have n9_ := A0 (blk_below (g := gb214) (bkA BK214) hb); have n10_ := A0 (blk_below (g := gb293) (o := .cells #[.string (⟨#[]⟩ : ByteArray), .bool false, .int .i64 0, .slice none 0 0] 35 (0, 0)) (bkA BK293) hb); have n11_ := A0 (below_step (hbA HB) hb); have n12_ := A0 (hbox); have n13_ := A0 ((by rw [hg]; exact (below_size (hbA HB)) : w.heap.size ≤ gb294)); have n14_ := A0 ((by rw [hg]; exact (below_size (hbA HB)) : w.heap.size ≤ gb294)); have n15_ := A0 ((by rw [hg]; exact Nat.ne_of_lt (blk_lt (g := gb101) (bkA BK101)) : gb101 ≠ gb294)); have n16_ := A0 ((by rw [hg]; exact Nat.ne_of_gt (blk_lt (g := gb101) (bkA BK101)) : gb294 ≠ gb101)); have n17_ := A0 ((by rw [hg]; exact Nat.ne_of_lt (blk_lt (g := gb200) (bkA BK200)) : gb200 ≠ gb294)); have n18_ := A0 ((by rw [hg]; exact Nat.ne_of_gt (blk_lt (g := gb200) (bkA BK200)) : gb294 ≠ gb200)); have n19_ := A0 ((by rw [hg]; exact Nat.ne_of_lt (blk_lt (g := gb214) (bkA BK214)) : gb214 ≠ gb294)); have n20_ := A0 ((by rw [hg]; exact Nat.ne_of_gt (blk_lt (g := gb214) (bkA BK214)) : gb294 ≠ gb214)); have n21_ := A0 ((by rw [hg]; exact Nat.ne_of_lt (blk_lt (g := gb293) (o := .cells #[.string (⟨#[]⟩ : ByteArray), .bool false, .int .i64 0, .slice none 0 0] 35 (0, 0)) (bkA BK293)) : gb293 ≠ gb294)); have n22_ := A0 ((by rw [hg]; exact Nat.ne_of_gt (blk_lt (g := gb293) (o := .cells #[.string (⟨#[]⟩ : ByteArray), .bool false, .int .i64 0, .slice none 0 0] 35 (0, 0)) (bkA BK293)) : gb294 ≠ gb293)); clear HO_201002; clear HO_215001; clear HO_215002; clear HO_215003; clear HO_215004; clear HO286; clear HO292; clear BK101; clear BK200; clear BK214; clear BK293; clear HB; have HO_201002 := n0_; have HO_215001 := n1_; have HO_215002 := n2_; have HO_215003 := n3_; have HO_215004 := n4_; have HO286 := n5_; have HO292 := n6_; have BK101 := n7_; have BK200 := n8_; have BK214 := n9_; have BK293 := n10_; have HB := n11_; have BK294 := n12_; have GW294 := n13_; have GE294 := n14_; have NB101_294 := n15_; have NB294_101 := n16_; have NB200_294 := n17_; have NB294_200 := n18_; have NB214_294 := n19_; have NB294_214 := n20_; have NB293_294 := n21_; have NB294_293 := n22_; clear n0_ n1_ n2_ n3_ n4_ n5_ n6_ n7_ n8_ n9_ n10_ n11_ n12_ n13_ n14_ n15_ n16_ n17_ n18_ n19_ n20_ n21_ n22_; clear hb hbox hg; have hnb232 := NB293_101.out; have hnc232 := NB101_293.out; have hnb233 := NB293_200.out; have hnc233 := NB200_293.out; have hnb234 := NB293_214.out; have hnc234 := NB214_293.out; have hnb235 := NB293_294.out; have hnc235 := NB294_293.out; have hcz236_0 : w231.cell? ⟨gb293, 0, none⟩ = some (.string (⟨#[]⟩ : ByteArray)) := bcA BK293 0; have hcz236_1 : w231.cell? ⟨gb293, 1, none⟩ = some (.bool false) := bcA BK293 1; have hcz236_2 : w231.cell? ⟨gb293, 2, none⟩ = some (.int .i64 0) := bcA BK293 2; have hcz236_3 : w231.cell? ⟨gb293, 3, none⟩ = some (.slice none 0 0) := bcA BK293 3; have hfz236_0 := blk_frozen BK293.out 0; have hfz236_1 := blk_frozen BK293.out 1; have hfz236_2 := blk_frozen BK293.out 2; have hfz236_3 := blk_frozen BK293.out 3; obtain ⟨Ao237, co237, eo237⟩ := Kd.R_slice HO286.out; subst eo237; have hnb238 := NB294_101.out; have hnc238 := NB101_294.out; have hnb239 := NB294_200.out; have hnc239 := NB200_294.out; have hnb240 := NB294_214.out; have hnc240 := NB214_294.out; have hcz241_0 : w231.cell? ⟨gb294, 0, none⟩ = some (.string (⟨#[]⟩ : ByteArray)) := bcA BK294 0; have hcz241_1 : w231.cell? ⟨gb294, 1, none⟩ = some (.bool false) := bcA BK294 1; have hcz241_2 : w231.cell? ⟨gb294, 2, none⟩ = some (.int .i64 0) := bcA BK294 2; have hcz241_3 : w231.cell? ⟨gb294, 3, none⟩ = some (.slice none 0 0) := bcA BK294 3; have hfz241_0 := blk_frozen BK294.out 0; have hfz241_1 := blk_frozen BK294.out 1; have hfz241_2 := blk_frozen BK294.out 2; have hfz241_3 := blk_frozen BK294.out 3; obtain ⟨Ao242, co242, eo242⟩ := Kd.R_slice HO292.out; subst eo242) | ((with_reducible refine gate_callee (f := 8) rfl ?_); refine goesL_ (some 180) rfl rfl Try.func8 (by kernel_rfl) rfl #[] rfl (by (try simp only [List.map_toArray, List.map_cons, List.map_nil]); first | done | rfl | (simp only [List.length_drop, List.length_take]; rfl)) ?_; (with_reducible refine (agatelaw10_Awake.calls  true _ A214.out).mono ?_); rintro e w243 ⟨rfl, hb⟩; refine ⟨_, rfl, ?_⟩; have n0_ := A0 (Kd.R_below (by (with_reducible repeat first | apply Kd.R_alloc | apply Kd.R_drewN | apply Kd.R_drew); exact (Kd.R_mono (Kd.R_mono (Kd.R_far (p := ⟨gb294, 3, none⟩) (Kd.R_far (p := ⟨gb294, 2, none⟩) (Kd.R_far (p := ⟨gb294, 1, none⟩) (Kd.R_far (p := ⟨gb294, 0, none⟩) (Kd.R_far (p := ⟨gb293, 3, none⟩) (Kd.R_far (p := ⟨gb293, 2, none⟩) (Kd.R_far (p := ⟨gb293, 1, none⟩) (Kd.R_far (p := ⟨gb293, 0, none⟩) (Kd.R_types (Kd.R_types HO_201002.out BK293.out (by decide)) BK294.out (by decide)) (fun _ hk => hk.1.2) (.string t281)) (fun _ hk => hk.1.2) (.bool true)) (fun _ hk => hk.1.2) (.int .i64 t283)) (fun _ hk => hk.1.2) (.slice Ao237 t284.length co237)) (fun _ hk => hk.2) (.string t287)) (fun _ hk => hk.2) (.bool false)) (fun _ hk => hk.2) (.int .i64 t289)) (fun _ hk => hk.2) (.slice Ao242 t290.length co242)) (fun _ h_ => h_.1)) (fun _ h_ => h_.1))) hb); have n1_ := A0 (Kd.N_below (by (with_reducible repeat first | apply Kd.N_alloc | apply Kd.N_drewN | apply Kd.N_drew); exact (Kd.N_mono (Kd.N_mono (Kd.N_far (p := ⟨gb294, 3, none⟩) (Kd.N_far (p := ⟨gb294, 2, none⟩) (Kd.N_far (p := ⟨gb294, 1, none⟩) (Kd.N_far (p := ⟨gb294, 0, none⟩) (Kd.N_far (p := ⟨gb293, 3, none⟩) (Kd.N_far (p := ⟨gb293, 2, none⟩) (Kd.N_far (p := ⟨gb293, 1, none⟩) (Kd.N_far (p := ⟨gb293, 0, none⟩) (Kd.N_mono (Kd.N_mono HO_215001.out (fun k_ hk => (⟨hk, hk.1.2⟩ : _ ∧ k_ ≠ gb293))) (fun k_ hk => (⟨hk, hk.1.2⟩ : _ ∧ k_ ≠ gb294))) (fun _ hk => hk.1.2) (.string t281)) (fun _ hk => hk.1.2) (.bool true)) (fun _ hk => hk.1.2) (.int .i64 t283)) (fun _ hk => hk.1.2) (.slice Ao237 t284.length co237)) (fun _ hk => hk.2) (.string t287)) (fun _ hk => hk.2) (.bool false)) (fun _ hk => hk.2) (.int .i64 t289)) (fun _ hk => hk.2) (.slice Ao242 t290.length co242)) (fun _ h_ => h_.1)) (fun _ h_ => h_.1))) hb); have n2_ := A0 (Kd.N_below (by (with_reducible repeat first | apply Kd.N_alloc | apply Kd.N_drewN | apply Kd.N_drew); exact (Kd.N_mono (Kd.N_mono (Kd.N_far (p := ⟨gb294, 3, none⟩) (Kd.N_far (p := ⟨gb294, 2, none⟩) (Kd.N_far (p := ⟨gb294, 1, none⟩) (Kd.N_far (p := ⟨gb294, 0, none⟩) (Kd.N_far (p := ⟨gb293, 3, none⟩) (Kd.N_far (p := ⟨gb293, 2, none⟩) (Kd.N_far (p := ⟨gb293, 1, none⟩) (Kd.N_far (p := ⟨gb293, 0, none⟩) (Kd.N_mono (Kd.N_mono HO_215002.out (fun k_ hk => (⟨hk, hk.1.2⟩ : _ ∧ k_ ≠ gb293))) (fun k_ hk => (⟨hk, hk.1.2⟩ : _ ∧ k_ ≠ gb294))) (fun _ hk => hk.1.2) (.string t281)) (fun _ hk => hk.1.2) (.bool true)) (fun _ hk => hk.1.2) (.int .i64 t283)) (fun _ hk => hk.1.2) (.slice Ao237 t284.length co237)) (fun _ hk => hk.2) (.string t287)) (fun _ hk => hk.2) (.bool false)) (fun _ hk => hk.2) (.int .i64 t289)) (fun _ hk => hk.2) (.slice Ao242 t290.length co242)) (fun _ h_ => h_.1)) (fun _ h_ => h_.1))) hb); have n3_ := A0 (Kd.N_below (by (with_reducible repeat first | apply Kd.N_alloc | apply Kd.N_drewN | apply Kd.N_drew); exact (Kd.N_mono (Kd.N_mono (Kd.N_far (p := ⟨gb294, 3, none⟩) (Kd.N_far (p := ⟨gb294, 2, none⟩) (Kd.N_far (p := ⟨gb294, 1, none⟩) (Kd.N_far (p := ⟨gb294, 0, none⟩) (Kd.N_far (p := ⟨gb293, 3, none⟩) (Kd.N_far (p := ⟨gb293, 2, none⟩) (Kd.N_far (p := ⟨gb293, 1, none⟩) (Kd.N_far (p := ⟨gb293, 0, none⟩) (Kd.N_mono (Kd.N_mono HO_215003.out (fun k_ hk => (⟨hk, hk.1.2⟩ : _ ∧ k_ ≠ gb293))) (fun k_ hk => (⟨hk, hk.1.2⟩ : _ ∧ k_ ≠ gb294))) (fun _ hk => hk.1.2) (.string t281)) (fun _ hk => hk.1.2) (.bool true)) (fun _ hk => hk.1.2) (.int .i64 t283)) (fun _ hk => hk.1.2) (.slice Ao237 t284.length co237)) (fun _ hk => hk.2) (.string t287)) (fun _ hk => hk.2) (.bool false)) (fun _ hk => hk.2) (.int .i64 t289)) (fun _ hk => hk.2) (.slice Ao242 t290.length co242)) (fun _ h_ => h_.1)) (fun _ h_ => h_.1))) hb); have n4_ := A0 (Kd.N_below (by (with_reducible repeat first | apply Kd.N_alloc | apply Kd.N_drewN | apply Kd.N_drew); exact (Kd.N_mono (Kd.N_mono (Kd.N_far (p := ⟨gb294, 3, none⟩) (Kd.N_far (p := ⟨gb294, 2, none⟩) (Kd.N_far (p := ⟨gb294, 1, none⟩) (Kd.N_far (p := ⟨gb294, 0, none⟩) (Kd.N_far (p := ⟨gb293, 3, none⟩) (Kd.N_far (p := ⟨gb293, 2, none⟩) (Kd.N_far (p := ⟨gb293, 1, none⟩) (Kd.N_far (p := ⟨gb293, 0, none⟩) (Kd.N_mono (Kd.N_mono HO_215004.out (fun k_ hk => (⟨hk, hk.1.2⟩ : _ ∧ k_ ≠ gb293))) (fun k_ hk => (⟨hk, hk.1.2⟩ : _ ∧ k_ ≠ gb294))) (fun _ hk => hk.1.2) (.string t281)) (fun _ hk => hk.1.2) (.bool true)) (fun _ hk => hk.1.2) (.int .i64 t283)) (fun _ hk => hk.1.2) (.slice Ao237 t284.length co237)) (fun _ hk => hk.2) (.string t287)) (fun _ hk => hk.2) (.bool false)) (fun _ hk => hk.2) (.int .i64 t289)) (fun _ hk => hk.2) (.slice Ao242 t290.length co242)) (fun _ h_ => h_.1)) (fun _ h_ => h_.1))) hb); have n5_ := A0 (Kd.R_below (by (with_reducible repeat first | apply Kd.R_alloc | apply Kd.R_drewN | apply Kd.R_drew); exact (Kd.R_mono (Kd.R_mono (Kd.R_far (p := ⟨gb294, 3, none⟩) (Kd.R_far (p := ⟨gb294, 2, none⟩) (Kd.R_far (p := ⟨gb294, 1, none⟩) (Kd.R_far (p := ⟨gb294, 0, none⟩) (Kd.R_far (p := ⟨gb293, 3, none⟩) (Kd.R_far (p := ⟨gb293, 2, none⟩) (Kd.R_far (p := ⟨gb293, 1, none⟩) (Kd.R_far (p := ⟨gb293, 0, none⟩) (Kd.R_types (Kd.R_types HO286.out BK293.out (by decide)) BK294.out (by decide)) (fun _ hk => hk.1.2) (.string t281)) (fun _ hk => hk.1.2) (.bool true)) (fun _ hk => hk.1.2) (.int .i64 t283)) (fun _ hk => hk.1.2) (.slice Ao237 t284.length co237)) (fun _ hk => hk.2) (.string t287)) (fun _ hk => hk.2) (.bool false)) (fun _ hk => hk.2) (.int .i64 t289)) (fun _ hk => hk.2) (.slice Ao242 t290.length co242)) (fun _ h_ => h_.1)) (fun _ h_ => h_.1))) hb); have n6_ := A0 (Kd.R_below (by (with_reducible repeat first | apply Kd.R_alloc | apply Kd.R_drewN | apply Kd.R_drew); exact (Kd.R_mono (Kd.R_mono (Kd.R_far (p := ⟨gb294, 3, none⟩) (Kd.R_far (p := ⟨gb294, 2, none⟩) (Kd.R_far (p := ⟨gb294, 1, none⟩) (Kd.R_far (p := ⟨gb294, 0, none⟩) (Kd.R_far (p := ⟨gb293, 3, none⟩) (Kd.R_far (p := ⟨gb293, 2, none⟩) (Kd.R_far (p := ⟨gb293, 1, none⟩) (Kd.R_far (p := ⟨gb293, 0, none⟩) (Kd.R_types (Kd.R_types HO292.out BK293.out (by decide)) BK294.out (by decide)) (fun _ hk => hk.1.2) (.string t281)) (fun _ hk => hk.1.2) (.bool true)) (fun _ hk => hk.1.2) (.int .i64 t283)) (fun _ hk => hk.1.2) (.slice Ao237 t284.length co237)) (fun _ hk => hk.2) (.string t287)) (fun _ hk => hk.2) (.bool false)) (fun _ hk => hk.2) (.int .i64 t289)) (fun _ hk => hk.2) (.slice Ao242 t290.length co242)) (fun _ h_ => h_.1)) (fun _ h_ => h_.1))) hb); have n7_ := A0 (blk_below (g := gb101) (o := .cells #[.int .i64 a0_0, .slice A0_1 l0_1.length c0_1, .slice A0_2 l0_2.length c0_2, .slice A0_3 l0_3.length c0_3, .slice A0_4 l0_4.length c0_4] 26 (0, 0)) (bkG2 BK101 NB101_294 NB101_293) hb); have n8_ := A0 (blk_below (g := gb200) (o := .cells #[.string t193, .int .i64 t194, .slice Ao185 t195.length co185, .string t198] 51 (0, 0)) (bkG2 BK200 NB200_294 NB200_293) hb); have n9_ := A0 (blk_below (g := gb214) (o := .cells #[.int .i64 t201, .slice Ao193 t202.length co193, .slice Ao194 t205.length co194, .slice Ao195 t208.length co195, .slice Ao196 t211.length co196] 58 (0, 0)) (bkG2 BK214 NB214_294 NB214_293) hb); have n10_ := A0 (blk_below (g := gb293) (o := .cells #[.string t281, .bool true, .int .i64 t283, .slice Ao237 t284.length co237] 35 (0, 0)) (by (with_reducible repeat first | apply blk_drewN | apply blk_drew | apply blk_alloc); refine blk_far ?_ NB293_294.out _; (with_reducible repeat first | apply blk_drewN | apply blk_drew | apply blk_alloc); refine blk_far ?_ NB293_294.out _; (with_reducible repeat first | apply blk_drewN | apply blk_drew | apply blk_alloc); refine blk_far ?_ NB293_294.out _; (with_reducible repeat first | apply blk_drewN | apply blk_drew | apply blk_alloc); refine blk_far ?_ NB293_294.out _; (with_reducible repeat first | apply blk_drewN | apply blk_drew | apply blk_alloc); refine blk_put (cs := #[.string t281, .bool true, .int .i64 t283, .slice none 0 0]) ?_ 3 _ rfl; (with_reducible repeat first | apply blk_drewN | apply blk_drew | apply blk_alloc); refine blk_put (cs := #[.string t281, .bool true, .int .i64 0, .slice none 0 0]) ?_ 2 _ rfl; (with_reducible repeat first | apply blk_drewN | apply blk_drew | apply blk_alloc); refine blk_put (cs := #[.string t281, .bool false, .int .i64 0, .slice none 0 0]) ?_ 1 _ rfl; (with_reducible repeat first | apply blk_drewN | apply blk_drew | apply blk_alloc); refine blk_put (cs := #[.string (⟨#[]⟩ : ByteArray), .bool false, .int .i64 0, .slice none 0 0]) ?_ 0 _ rfl; (with_reducible repeat first | apply blk_drewN | apply blk_drew | apply blk_alloc); exact BK293.out) hb); have n11_ := A0 (blk_below (g := gb294) (o := .cells #[.string t287, .bool false, .int .i64 t289, .slice Ao242 t290.length co242] 35 (0, 0)) (by (with_reducible repeat first | apply blk_drewN | apply blk_drew | apply blk_alloc); refine blk_put (cs := #[.string t287, .bool false, .int .i64 t289, .slice none 0 0]) ?_ 3 _ rfl; (with_reducible repeat first | apply blk_drewN | apply blk_drew | apply blk_alloc); refine blk_put (cs := #[.string t287, .bool false, .int .i64 0, .slice none 0 0]) ?_ 2 _ rfl; (with_reducible repeat first | apply blk_drewN | apply blk_drew | apply blk_alloc); refine blk_put (cs := #[.string t287, .bool false, .int .i64 0, .slice none 0 0]) ?_ 1 _ rfl; (with_reducible repeat first | apply blk_drewN | apply blk_drew | apply blk_alloc); refine blk_put (cs := #[.string (⟨#[]⟩ : ByteArray), .bool false, .int .i64 0, .slice none 0 0]) ?_ 0 _ rfl; (with_reducible repeat first | apply blk_drewN | apply blk_drew | apply blk_alloc); refine blk_far ?_ NB294_293.out _; (with_reducible repeat first | apply blk_drewN | apply blk_drew | apply blk_alloc); refine blk_far ?_ NB294_293.out _; (with_reducible repeat first | apply blk_drewN | apply blk_drew | apply blk_alloc); refine blk_far ?_ NB294_293.out _; (with_reducible repeat first | apply blk_drewN | apply blk_drew | apply blk_alloc); refine blk_far ?_ NB294_293.out _; (with_reducible repeat first | apply blk_drewN | apply blk_drew | apply blk_alloc); exact BK294.out) hb); have n12_ := A0 (below_step (hbA HB) hb); clear HO_201002; clear HO_215001; clear HO_215002; clear HO_215003; clear HO_215004; clear HO286; clear HO292; clear BK101; clear BK200; clear BK214; clear BK293; clear BK294; clear HB; have HO_201002 := n0_; have HO_215001 := n1_; have HO_215002 := n2_; have HO_215003 := n3_; have HO_215004 := n4_; have HO286 := n5_; have HO292 := n6_; have BK101 := n7_; have BK200 := n8_; have BK214 := n9_; have BK293 := n10_; have BK294 := n11_; have HB := n12_; clear n0_ n1_ n2_ n3_ n4_ n5_ n6_ n7_ n8_ n9_ n10_ n11_ n12_; (try clear hb); (try clear hb2); (try clear hk); (try clear hi); have hcz244_0 : w243.cell? ⟨gb293, 0, none⟩ = some (.string t281) := bcA BK293 0; have hcz244_1 : w243.cell? ⟨gb293, 1, none⟩ = some (.bool true) := bcA BK293 1; have hcz244_2 : w243.cell? ⟨gb293, 2, none⟩ = some (.int .i64 t283) := bcA BK293 2; have hcz244_3 : w243.cell? ⟨gb293, 3, none⟩ = some (.slice Ao237 t284.length co237) := bcA BK293 3; have hfz244_0 := blk_frozen BK293.out 0; have hfz244_1 := blk_frozen BK293.out 1; have hfz244_2 := blk_frozen BK293.out 2; have hfz244_3 := blk_frozen BK293.out 3; have hcz245_0 : w243.cell? ⟨gb294, 0, none⟩ = some (.string t287) := bcA BK294 0; have hcz245_1 : w243.cell? ⟨gb294, 1, none⟩ = some (.bool false) := bcA BK294 1; have hcz245_2 : w243.cell? ⟨gb294, 2, none⟩ = some (.int .i64 t289) := bcA BK294 2; have hcz245_3 : w243.cell? ⟨gb294, 3, none⟩ = some (.slice Ao242 t290.length co242) := bcA BK294 3; have hfz245_0 := blk_frozen BK294.out 0; have hfz245_1 := blk_frozen BK294.out 1; have hfz245_2 := blk_frozen BK294.out 2; have hfz245_3 := blk_frozen BK294.out 3) | (go_at_call 15; (with_reducible refine (agatelaw03_Ints_s.calls _ _ t290 _ _ l3 true _ ?side1 ?side2 ?side3 ?side4 A221.out).mono ?_); (case side1 => ((repeat first | (with_reducible refine Kd.C_alloc ?_ _) | (with_reducible refine Kd.C_drewN ?_ _) | (with_reducible refine Kd.C_drew ?_)); exact (Kd.R_reads' HO292.out).2.2)); (case side2 => exact (Kd.R_reads' HO292.out).2.1); (case side3 => ((repeat first | (with_reducible refine Kd.C_alloc ?_ _) | (with_reducible refine Kd.C_drewN ?_ _) | (with_reducible refine Kd.C_drew ?_)); exact (Kd.C_below HR3.out HB.out))); (case side4 => exact HC3.out); rintro e w' ⟨rfl, ⟨nd, rfl⟩⟩))
                   clear HO_201002 HO_215001 HO_215002 HO_215003 HO_215004 BK101 BK200 BK214
                   (with_reducible refine (model_Attr_Same.calls kj178 t281 true t283 _ _ t284 t287 false t289 _ _ t290 false _ ?side1 ?side2 ?side3 ?side4 A223.out).mono ?_)
                   (case side1 => ((repeat first | (with_reducible refine Kd.C_alloc ?_ _) | (with_reducible refine Kd.C_drewN ?_ _) | (with_reducible refine Kd.C_drew ?_)); exact (Kd.R_reads' HO286.out).2.2))
                   (case side2 => exact (Kd.R_reads' HO286.out).2.1)
                   (case side3 => ((repeat first | (with_reducible refine Kd.C_alloc ?_ _) | (with_reducible refine Kd.C_drewN ?_ _) | (with_reducible refine Kd.C_drew ?_)); exact (Kd.R_reads' HO292.out).2.2))
                   (case side4 => exact (Kd.R_reads' HO292.out).2.1)
                   rintro e w246 ⟨rfl, hb⟩
                   have n5_ := A0 (Kd.R_below (Kd.R_drewN HO286.out _) hb)
                   have n6_ := A0 (Kd.R_below (Kd.R_drewN HO292.out _) hb)
                   have n10_ := A0 (blk_below (g := gb293) (blk_drewN BK293.out _) hb)
                   have n11_ := A0 (blk_below (g := gb294) (blk_drewN BK294.out _) hb)
                   have n12_ := A0 (below_step (pw_below_drewN HB.out _) hb)
                   clear HO286
                   clear HO292
                   clear BK293
                   clear BK294
                   clear HB
                   have HO286 := n5_
                   have HO292 := n6_
                   have BK293 := n10_
                   have BK294 := n11_
                   have HB := n12_
                   clear n5_ n6_ n10_ n11_ n12_
                   (try clear hb)
                   (try clear hb2)
                   (try clear hk)
                   (try clear hi)
                   have hcz247_0 : w246.cell? ⟨gb293, 0, none⟩ = some (.string t281) := bcA BK293 0
                   have hcz247_1 : w246.cell? ⟨gb293, 1, none⟩ = some (.bool true) := bcA BK293 1
                   have hcz247_2 : w246.cell? ⟨gb293, 2, none⟩ = some (.int .i64 t283) := bcA BK293 2
                   have hcz247_3 : w246.cell? ⟨gb293, 3, none⟩ = some (.slice Ao237 t284.length co237) := bcA BK293 3
                   have hfz247_0 := blk_frozen BK293.out 0
                   have hfz247_1 := blk_frozen BK293.out 1
                   have hfz247_2 := blk_frozen BK293.out 2
                   have hfz247_3 := blk_frozen BK293.out 3
                   go_wp2_with (first | (fail))
                   (with_reducible refine (model_Attr_Same.calls kj178 t281 true t283 _ _ t284 t281 true t283 _ _ t284 true _ ?side1 ?side2 ?side3 ?side4 A225.out).mono ?_)
                   (case side1 => ((repeat first | (with_reducible refine Kd.C_alloc ?_ _) | (with_reducible refine Kd.C_drewN ?_ _) | (with_reducible refine Kd.C_drew ?_)); exact (Kd.R_reads' HO286.out).2.2))
                   (case side2 => exact (Kd.R_reads' HO286.out).2.1)
                   (case side3 => ((repeat first | (with_reducible refine Kd.C_alloc ?_ _) | (with_reducible refine Kd.C_drewN ?_ _) | (with_reducible refine Kd.C_drew ?_)); exact (Kd.R_reads' HO286.out).2.2))
                   (case side4 => exact (Kd.R_reads' HO286.out).2.1)
                   rintro e w248 ⟨rfl, hb⟩
                   have n5_ := A0 (Kd.R_below HO286.out hb)
                   have n6_ := A0 (Kd.R_below HO292.out hb)
                   have n10_ := A0 (blk_below (g := gb293) BK293.out hb)
                   have n11_ := A0 (blk_below (g := gb294) BK294.out hb)
                   have n12_ := A0 (below_step HB.out hb)
                   clear HO286
                   clear HO292
                   clear BK293
                   clear BK294
                   clear HB
                   have HO286 := n5_
                   have HO292 := n6_
                   have BK293 := n10_
                   have BK294 := n11_
                   have HB := n12_
                   clear n5_ n6_ n10_ n11_ n12_
                   (try clear hb)
                   (try clear hb2)
                   (try clear hk)
                   (try clear hi)
                   have hcz249_0 : w248.cell? ⟨gb294, 0, none⟩ = some (.string t287) := bcA BK294 0
                   have hcz249_1 : w248.cell? ⟨gb294, 1, none⟩ = some (.bool false) := bcA BK294 1
                   have hcz249_2 : w248.cell? ⟨gb294, 2, none⟩ = some (.int .i64 t289) := bcA BK294 2
                   have hcz249_3 : w248.cell? ⟨gb294, 3, none⟩ = some (.slice Ao242 t290.length co242) := bcA BK294 3
                   have hfz249_0 := blk_frozen BK294.out 0
                   have hfz249_1 := blk_frozen BK294.out 1
                   have hfz249_2 := blk_frozen BK294.out 2
                   have hfz249_3 := blk_frozen BK294.out 3
                   go_wp2_with (first | (fail))
                   (with_reducible refine (model_Attr_Same.calls kj178 t287 false t289 _ _ t290 t287 false t289 _ _ t290 t299 _ ?side1 ?side2 ?side3 ?side4 A227.out).mono ?_)
                   (case side1 => ((repeat first | (with_reducible refine Kd.C_alloc ?_ _) | (with_reducible refine Kd.C_drewN ?_ _) | (with_reducible refine Kd.C_drew ?_)); exact (Kd.R_reads' HO292.out).2.2))
                   (case side2 => exact (Kd.R_reads' HO292.out).2.1)
                   (case side3 => ((repeat first | (with_reducible refine Kd.C_alloc ?_ _) | (with_reducible refine Kd.C_drewN ?_ _) | (with_reducible refine Kd.C_drew ?_)); exact (Kd.R_reads' HO292.out).2.2))
                   (case side4 => exact (Kd.R_reads' HO292.out).2.1)
                   rintro e w250 ⟨rfl, hb⟩
                   have n5_ := A0 (Kd.R_below HO286.out hb)
                   have n6_ := A0 (Kd.R_below HO292.out hb)
                   have n10_ := A0 (blk_below (g := gb293) BK293.out hb)
                   have n11_ := A0 (blk_below (g := gb294) BK294.out hb)
                   have n12_ := A0 (below_step HB.out hb)
                   clear HO286
                   clear HO292
                   clear BK293
                   clear BK294
                   clear HB
                   have HO286 := n5_
                   have HO292 := n6_
                   have BK293 := n10_
                   have BK294 := n11_
                   have HB := n12_
                   clear n5_ n6_ n10_ n11_ n12_
                   (try clear hb)
                   (try clear hb2)
                   (try clear hk)
                   (try clear hi)
                   go_wp2_with (first | (fail))
                   go_ret
                   exact ⟨by first | rfl | (simp [errW_none, errW_some] <;> rfl) | (simp [*, errW_none, errW_some] <;> rfl), hbA HB⟩
                  ·
                   replace c226 := Bool.eq_false_iff.mpr c226
                   subst c226
                   have H1 : (none) = some r := by rw [if_neg (show ¬ (false = true) by decide)] at H; exact H
                   clear H
                   have H := H1
                   clear H1
                   exact absurd H (by simp)
                ·
                 replace c222 := Bool.eq_false_iff.mpr c222
                 subst c222
                 have H1 : (none) = some r := by rw [if_neg (show ¬ (false = true) by decide)] at H; exact H
                 clear H
                 have H := H1
                 clear H1
                 exact absurd H (by simp)
              ·
               rw [if_neg c219] at H
               exact absurd H (by simp)
             ·
              rw [if_neg c218] at H
              exact absurd H (by simp)
            ·
             replace c217 := Bool.eq_false_iff.mpr c217
             subst c217
             have H1 : (none) = some r := by rw [if_neg (show ¬ (false = true) by decide)] at H; exact H
             clear H
             have H := H1
             clear H1
             exact absurd H (by simp)
           ·
            rw [if_neg c216] at H
            exact absurd H (by simp)
          ·
           replace c215 := Bool.eq_false_iff.mpr c215
           subst c215
           have H1 : (none) = some r := by rw [if_neg (show ¬ (false = true) by decide)] at H; exact H
           clear H
           have H := H1
           clear H1
           exact absurd H (by simp)
end Go.Proofs.Ytdemgfbolcmcdaa.X
