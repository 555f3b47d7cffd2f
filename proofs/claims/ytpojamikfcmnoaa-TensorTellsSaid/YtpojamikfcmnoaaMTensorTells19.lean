import Derived.Test.YtpojamikfcmnoaaMTensorTells2
import Derived.Test.YtpojamikfcmnoaaMTensorTells3
import Derived.Test.YtpojamikfcmnoaaMTensorTells10
import Derived.Test.YtpojamikfcmnoaaMTensorTells18
import Derived.Test.YtpojamikfcmnoaaMTensorTells11
import Derived.Test.YtpojamikfcmnoaaMTensorTells12
import Derived.Test.YtpojamikfcmnoaaMTensorTells13
import Derived.Test.YtpojamikfcmnoaaMTensorTells14
import Derived.Test.YtpojamikfcmnoaaMTensorTells7
import Derived.Test.YtpojamikfcmnoaaMTensorTells15
import Derived.Test.YtpojamikfcmnoaaMTensorTells17
import Derived.Test.YtpojamikfcmnoaaMTensorTells16
import Derived.Test.YtpojamikfcmnoaaMTensorTells6
namespace Go.Proofs.Ytpojamikfcmnoaa.X
open Go.RowKit Go.Proofs.YtpojamikfcmnoaaW.PrintWords Go.Proofs.YtpojamikfcmnoaaW.PrintLast Go.Proofs.YtpojamikfcmnoaaW.PrintMore
attribute [local go_sem] max2_int min2_int max_two min_two max_three min_three max_four min_four
set_option linter.unusedVariables false
set_option linter.unusedSimpArgs false
attribute [local go_sem] ceq_fold
set_option maxHeartbeats 8000000 in
set_option maxRecDepth 100000 in
theorem agatelaw07_TensorTells.calls (k : Nat) (a0_0 : ByteArray) (a0_1 : Int) (A0_2 : Option Addr) (c0_2 : Nat) (l0_2 : List Int) (a0_3 : ByteArray) (a1_0 : ByteArray) (a1_1 : Int) (A1_2 : Option Addr) (c1_2 : Nat) (l1_2 : List Int) (a1_3 : ByteArray) (a2 : Int) (r : Bool) (w : World) (hr0_2 : Kd.C (Kd.int .i64) w A0_2 l0_2.length l0_2) (hc0_2 : l0_2.length ≤ c0_2) (hr1_2 : Kd.C (Kd.int .i64) w A1_2 l1_2.length l1_2) (hc1_2 : l1_2.length ≤ c1_2) (h : agatelaw07_TensorTells.f k a0_0 a0_1 l0_2 a0_3 a1_0 a1_1 l1_2 a1_3 a2 = some r) :
  Calls Try.prog 9 #[.agg #[.string a0_0, .int .i64 a0_1, .slice A0_2 l0_2.length c0_2, .string a0_3], .agg #[.string a1_0, .int .i64 a1_1, .slice A1_2 l1_2.length c1_2, .string a1_3], .int .i64 a2] w fun e w' => e = .returned (.bool r) ∧ Below w.heap.size w w' := by
 have hu62 := Try.underlying62
 have hu64 := Try.underlying64
 have hu23 := Try.underlying23
 have HR0_2 := Aside0.mk hr0_2
 have HC0_2 := Aside0.mk hc0_2
 clear hr0_2 hc0_2
 have HR1_2 := Aside0.mk hr1_2
 have HC1_2 := Aside0.mk hc1_2
 clear hr1_2 hc1_2
 have HB := Aside0.mk (Below.refl w.heap.size w)
 have H : (if (a0_3.size : Int) > 4000 then (agatelaw07_TensorTells.j0 k a2 true a0_0 a0_1 l0_2 a0_3 a1_0 a1_1 l1_2 a1_3) else (if (a1_3.size : Int) > 4000 then (agatelaw07_TensorTells.j0 k a2 true a0_0 a0_1 l0_2 a0_3 a1_0 a1_1 l1_2 a1_3) else (if (l0_2.length : Int) > 20 then (agatelaw07_TensorTells.j0 k a2 true a0_0 a0_1 l0_2 a0_3 a1_0 a1_1 l1_2 a1_3) else (if (l1_2.length : Int) > 20 then (agatelaw07_TensorTells.j0 k a2 true a0_0 a0_1 l0_2 a0_3 a1_0 a1_1 l1_2 a1_3) else (agatelaw07_TensorTells.j0 k a2 (decide ((a0_0.size : Int) > 200)) a0_0 a0_1 l0_2 a0_3 a1_0 a1_1 l1_2 a1_3))))) = some r := h
 clear h
 have HC4 := Aside0.mk H
 clear H
 go_enter Try.func9, Try.ntmps9
 go_upto_region 1 with (first | ((with_reducible refine gate_dst (N := 3) rfl ?_); (try (refine gate_guard (by rfl) ?_; dsimp only)); refine box_event ?hg (N := 3) ?hd (cs := #[.string a0_0, .int .i64 a0_1, .slice A0_2 l0_2.length c0_2, .string a0_3]) (t := 62) ?hr ?_; (case hd => rfl); (case hg => rfl); (case hr => first | (go_simp; done) | (go_simp; rfl)); intro gb101 hg w5 hbox hb; have n0_ := Aside0.mk (below_step (hbA HB) hb); have n1_ := Aside0.mk (hbox); have n2_ := Aside0.mk ((by rw [hg]; exact (below_size (hbA HB)) : w.heap.size ≤ gb101)); have n3_ := Aside0.mk ((by rw [hg]; exact (below_size (hbA HB)) : w.heap.size ≤ gb101)); clear HB; have HB := n0_; have BK101 := n1_; have GW101 := n2_; have GE101 := n3_; clear n0_ n1_ n2_ n3_; clear hb hbox hg) | ((with_reducible refine gate_dst (N := 4) rfl ?_); (try (refine gate_guard (by rfl) ?_; dsimp only)); refine box_event ?hg (N := 4) ?hd (cs := #[.string a1_0, .int .i64 a1_1, .slice A1_2 l1_2.length c1_2, .string a1_3]) (t := 62) ?hr ?_; (case hd => rfl); (case hg => rfl); (case hr => first | (go_simp; done) | (go_simp; rfl)); intro gb102 hg w6 hbox hb; have n0_ := Aside0.mk (blk_below (g := gb101) (bkA BK101) hb); have n1_ := Aside0.mk (below_step (hbA HB) hb); have n2_ := Aside0.mk (hbox); have n3_ := Aside0.mk ((by rw [hg]; exact (below_size (hbA HB)) : w.heap.size ≤ gb102)); have n4_ := Aside0.mk ((by rw [hg]; exact (below_size (hbA HB)) : w.heap.size ≤ gb102)); have n5_ := Aside0.mk ((by rw [hg]; exact Nat.ne_of_lt (blk_lt (g := gb101) (bkA BK101)) : gb101 ≠ gb102)); have n6_ := Aside0.mk ((by rw [hg]; exact Nat.ne_of_gt (blk_lt (g := gb101) (bkA BK101)) : gb102 ≠ gb101)); clear BK101; clear HB; have BK101 := n0_; have HB := n1_; have BK102 := n2_; have GW102 := n3_; have GE102 := n4_; have NB101_102 := n5_; have NB102_101 := n6_; clear n0_ n1_ n2_ n3_ n4_ n5_ n6_; clear hb hbox hg))
 (try simp only [Act.put, List.setIfInBounds_toArray, List.set_cons_zero, List.set_cons_succ])
 go_cut [54] from 5 to 53 (fun v54 wc => ∃ (kq : Nat) (x54_3 : Bool), v54 = .bool x54_3 ∧ Aside0 (agatelaw07_TensorTells.j0 kq a2 x54_3 a0_0 a0_1 l0_2 a0_3 a1_0 a1_1 l1_2 a1_3 = some r) ∧ Aside0 (kq ≤ k) ∧ Aside0 (wc.heap[gb101]? = some (.cells #[.string a0_0, .int .i64 a0_1, (.slice A0_2 l0_2.length c0_2), .string a0_3] 62 (0, 0))) ∧ Aside0 (wc.heap[gb102]? = some (.cells #[.string a1_0, .int .i64 a1_1, (.slice A1_2 l1_2.length c1_2), .string a1_3] 62 (0, 0))) ∧ Aside0 (Below w.heap.size w wc))
 case first =>
  have H := HC4.out; clear HC4
  by_cases c7 : (a0_3.size : Int) > 4000
  ·
   rw [if_pos c7] at H
   have c7b0 : decide (4000 < (a0_3.size : Int)) = true := decide_eq_true c7
   have c7b1 : decide (4000 < a0_3.size) = true := decide_eq_true (by omega)
   clear c7
   (first | rw [c7b0] | (simp only [i64_w, i32_w]; rw [c7b0]) | skip)
   have H' := Aside0.mk H
   clear H; have hnb8 := NB101_102.out; have hnc8 := NB102_101.out; have hcz9_0 : w6.cell? ⟨gb101, 0, none⟩ = some (.string a0_0) := bcA BK101 0; have hcz9_1 : w6.cell? ⟨gb101, 1, none⟩ = some (.int .i64 a0_1) := bcA BK101 1; have hcz9_2 : w6.cell? ⟨gb101, 2, none⟩ = some (.slice A0_2 l0_2.length c0_2) := bcA BK101 2; have hcz9_3 : w6.cell? ⟨gb101, 3, none⟩ = some (.string a0_3) := bcA BK101 3; have hfz9_0 := blk_frozen BK101.out 0; have hfz9_1 := blk_frozen BK101.out 1; have hfz9_2 := blk_frozen BK101.out 2; have hfz9_3 := blk_frozen BK101.out 3
   go_wp2
   go_meet
   case rel => exact ⟨_, (true), (by first | rfl | (simp; done) | (simp [*]; done)), H', ⟨by first | omega | exact Nat.le_refl _⟩, ⟨bkA BK101⟩, ⟨bkA BK102⟩, ⟨hbA HB⟩⟩
  ·
   rw [if_neg c7] at H
   have c7b0 : decide (4000 < (a0_3.size : Int)) = false := decide_eq_false c7
   have c7b1 : decide (4000 < a0_3.size) = false := decide_eq_false (by omega)
   clear c7
   (first | rw [c7b0] | (simp only [i64_w, i32_w]; rw [c7b0]) | skip)
   by_cases c10 : (a1_3.size : Int) > 4000
   ·
    rw [if_pos c10] at H
    have c10b0 : decide (4000 < (a1_3.size : Int)) = true := decide_eq_true c10
    have c10b1 : decide (4000 < a1_3.size) = true := decide_eq_true (by omega)
    clear c10
    have H' := Aside0.mk H
    clear H; have hnb11 := NB101_102.out; have hnc11 := NB102_101.out; have hcz12_0 : w6.cell? ⟨gb101, 0, none⟩ = some (.string a0_0) := bcA BK101 0; have hcz12_1 : w6.cell? ⟨gb101, 1, none⟩ = some (.int .i64 a0_1) := bcA BK101 1; have hcz12_2 : w6.cell? ⟨gb101, 2, none⟩ = some (.slice A0_2 l0_2.length c0_2) := bcA BK101 2; have hcz12_3 : w6.cell? ⟨gb101, 3, none⟩ = some (.string a0_3) := bcA BK101 3; have hfz12_0 := blk_frozen BK101.out 0; have hfz12_1 := blk_frozen BK101.out 1; have hfz12_2 := blk_frozen BK101.out 2; have hfz12_3 := blk_frozen BK101.out 3; have hcz13_0 : w6.cell? ⟨gb102, 0, none⟩ = some (.string a1_0) := bcA BK102 0; have hcz13_1 : w6.cell? ⟨gb102, 1, none⟩ = some (.int .i64 a1_1) := bcA BK102 1; have hcz13_2 : w6.cell? ⟨gb102, 2, none⟩ = some (.slice A1_2 l1_2.length c1_2) := bcA BK102 2; have hcz13_3 : w6.cell? ⟨gb102, 3, none⟩ = some (.string a1_3) := bcA BK102 3; have hfz13_0 := blk_frozen BK102.out 0; have hfz13_1 := blk_frozen BK102.out 1; have hfz13_2 := blk_frozen BK102.out 2; have hfz13_3 := blk_frozen BK102.out 3
    go_wp2
    go_meet
    case rel => exact ⟨_, (true), (by first | rfl | (simp; done) | (simp [*]; done)), H', ⟨by first | omega | exact Nat.le_refl _⟩, ⟨bkA BK101⟩, ⟨bkA BK102⟩, ⟨hbA HB⟩⟩
   ·
    rw [if_neg c10] at H
    have c10b0 : decide (4000 < (a1_3.size : Int)) = false := decide_eq_false c10
    have c10b1 : decide (4000 < a1_3.size) = false := decide_eq_false (by omega)
    clear c10
    by_cases c14 : (l0_2.length : Int) > 20
    ·
     rw [if_pos c14] at H
     have c14b0 : decide (20 < (l0_2.length : Int)) = true := decide_eq_true c14
     have c14b1 : decide (20 < l0_2.length) = true := decide_eq_true (by omega)
     clear c14
     have H' := Aside0.mk H
     clear H; have hnb15 := NB101_102.out; have hnc15 := NB102_101.out; have hcz16_0 : w6.cell? ⟨gb101, 0, none⟩ = some (.string a0_0) := bcA BK101 0; have hcz16_1 : w6.cell? ⟨gb101, 1, none⟩ = some (.int .i64 a0_1) := bcA BK101 1; have hcz16_2 : w6.cell? ⟨gb101, 2, none⟩ = some (.slice A0_2 l0_2.length c0_2) := bcA BK101 2; have hcz16_3 : w6.cell? ⟨gb101, 3, none⟩ = some (.string a0_3) := bcA BK101 3; have hfz16_0 := blk_frozen BK101.out 0; have hfz16_1 := blk_frozen BK101.out 1; have hfz16_2 := blk_frozen BK101.out 2; have hfz16_3 := blk_frozen BK101.out 3; have hcz17_0 : w6.cell? ⟨gb102, 0, none⟩ = some (.string a1_0) := bcA BK102 0; have hcz17_1 : w6.cell? ⟨gb102, 1, none⟩ = some (.int .i64 a1_1) := bcA BK102 1; have hcz17_2 : w6.cell? ⟨gb102, 2, none⟩ = some (.slice A1_2 l1_2.length c1_2) := bcA BK102 2; have hcz17_3 : w6.cell? ⟨gb102, 3, none⟩ = some (.string a1_3) := bcA BK102 3; have hfz17_0 := blk_frozen BK102.out 0; have hfz17_1 := blk_frozen BK102.out 1; have hfz17_2 := blk_frozen BK102.out 2; have hfz17_3 := blk_frozen BK102.out 3
     go_wp2
     go_meet
     case rel => exact ⟨_, (true), (by first | rfl | (simp; done) | (simp [*]; done)), H', ⟨by first | omega | exact Nat.le_refl _⟩, ⟨bkA BK101⟩, ⟨bkA BK102⟩, ⟨hbA HB⟩⟩
    ·
     rw [if_neg c14] at H
     have c14b0 : decide (20 < (l0_2.length : Int)) = false := decide_eq_false c14
     have c14b1 : decide (20 < l0_2.length) = false := decide_eq_false (by omega)
     clear c14
     by_cases c18 : (l1_2.length : Int) > 20
     ·
      rw [if_pos c18] at H
      have c18b0 : decide (20 < (l1_2.length : Int)) = true := decide_eq_true c18
      have c18b1 : decide (20 < l1_2.length) = true := decide_eq_true (by omega)
      clear c18
      have H' := Aside0.mk H
      clear H; have hnb19 := NB101_102.out; have hnc19 := NB102_101.out; have hcz20_0 : w6.cell? ⟨gb101, 0, none⟩ = some (.string a0_0) := bcA BK101 0; have hcz20_1 : w6.cell? ⟨gb101, 1, none⟩ = some (.int .i64 a0_1) := bcA BK101 1; have hcz20_2 : w6.cell? ⟨gb101, 2, none⟩ = some (.slice A0_2 l0_2.length c0_2) := bcA BK101 2; have hcz20_3 : w6.cell? ⟨gb101, 3, none⟩ = some (.string a0_3) := bcA BK101 3; have hfz20_0 := blk_frozen BK101.out 0; have hfz20_1 := blk_frozen BK101.out 1; have hfz20_2 := blk_frozen BK101.out 2; have hfz20_3 := blk_frozen BK101.out 3; have hcz21_0 : w6.cell? ⟨gb102, 0, none⟩ = some (.string a1_0) := bcA BK102 0; have hcz21_1 : w6.cell? ⟨gb102, 1, none⟩ = some (.int .i64 a1_1) := bcA BK102 1; have hcz21_2 : w6.cell? ⟨gb102, 2, none⟩ = some (.slice A1_2 l1_2.length c1_2) := bcA BK102 2; have hcz21_3 : w6.cell? ⟨gb102, 3, none⟩ = some (.string a1_3) := bcA BK102 3; have hfz21_0 := blk_frozen BK102.out 0; have hfz21_1 := blk_frozen BK102.out 1; have hfz21_2 := blk_frozen BK102.out 2; have hfz21_3 := blk_frozen BK102.out 3
      go_wp2
      go_meet
      case rel => exact ⟨_, (true), (by first | rfl | (simp; done) | (simp [*]; done)), H', ⟨by first | omega | exact Nat.le_refl _⟩, ⟨bkA BK101⟩, ⟨bkA BK102⟩, ⟨hbA HB⟩⟩
     ·
      rw [if_neg c18] at H
      have c18b0 : decide (20 < (l1_2.length : Int)) = false := decide_eq_false c18
      have c18b1 : decide (20 < l1_2.length) = false := decide_eq_false (by omega)
      clear c18
      have H' := Aside0.mk H
      clear H; have hnb22 := NB101_102.out; have hnc22 := NB102_101.out; have hcz23_0 : w6.cell? ⟨gb101, 0, none⟩ = some (.string a0_0) := bcA BK101 0; have hcz23_1 : w6.cell? ⟨gb101, 1, none⟩ = some (.int .i64 a0_1) := bcA BK101 1; have hcz23_2 : w6.cell? ⟨gb101, 2, none⟩ = some (.slice A0_2 l0_2.length c0_2) := bcA BK101 2; have hcz23_3 : w6.cell? ⟨gb101, 3, none⟩ = some (.string a0_3) := bcA BK101 3; have hfz23_0 := blk_frozen BK101.out 0; have hfz23_1 := blk_frozen BK101.out 1; have hfz23_2 := blk_frozen BK101.out 2; have hfz23_3 := blk_frozen BK101.out 3; have hcz24_0 : w6.cell? ⟨gb102, 0, none⟩ = some (.string a1_0) := bcA BK102 0; have hcz24_1 : w6.cell? ⟨gb102, 1, none⟩ = some (.int .i64 a1_1) := bcA BK102 1; have hcz24_2 : w6.cell? ⟨gb102, 2, none⟩ = some (.slice A1_2 l1_2.length c1_2) := bcA BK102 2; have hcz24_3 : w6.cell? ⟨gb102, 3, none⟩ = some (.string a1_3) := bcA BK102 3; have hfz24_0 := blk_frozen BK102.out 0; have hfz24_1 := blk_frozen BK102.out 1; have hfz24_2 := blk_frozen BK102.out 2; have hfz24_3 := blk_frozen BK102.out 3
      go_wp2
      go_meet
      case rel => exact ⟨_, (decide ((a0_0.size : Int) > 200)), (by first | rfl | (simp; done) | (simp [*]; done)), H', ⟨by first | omega | exact Nat.le_refl _⟩, ⟨bkA BK101⟩, ⟨bkA BK102⟩, ⟨hbA HB⟩⟩
 case rest =>
  clear HC4; try clear c7; try clear c7b0; try clear c7b1; try clear c10; try clear c10b0; try clear c10b1; try clear c14; try clear c14b0; try clear c14b1; try clear c18; try clear c18b0; try clear c18b1; try clear hcz12_0; try clear hcz12_1; try clear hcz12_2; try clear hcz12_3; try clear hcz13_0; try clear hcz13_1; try clear hcz13_2; try clear hcz13_3; try clear hcz16_0; try clear hcz16_1; try clear hcz16_2; try clear hcz16_3; try clear hcz17_0; try clear hcz17_1; try clear hcz17_2; try clear hcz17_3; try clear hcz20_0; try clear hcz20_1; try clear hcz20_2; try clear hcz20_3; try clear hcz21_0; try clear hcz21_1; try clear hcz21_2; try clear hcz21_3; try clear hcz23_0; try clear hcz23_1; try clear hcz23_2; try clear hcz23_3; try clear hcz24_0; try clear hcz24_1; try clear hcz24_2; try clear hcz24_3; try clear hcz9_0; try clear hcz9_1; try clear hcz9_2; try clear hcz9_3; try clear hfz12_0; try clear hfz12_1; try clear hfz12_2; try clear hfz12_3; try clear hfz13_0; try clear hfz13_1; try clear hfz13_2; try clear hfz13_3; try clear hfz16_0; try clear hfz16_1; try clear hfz16_2; try clear hfz16_3; try clear hfz17_0; try clear hfz17_1; try clear hfz17_2; try clear hfz17_3; try clear hfz20_0; try clear hfz20_1; try clear hfz20_2; try clear hfz20_3; try clear hfz21_0; try clear hfz21_1; try clear hfz21_2; try clear hfz21_3; try clear hfz23_0; try clear hfz23_1; try clear hfz23_2; try clear hfz23_3; try clear hfz24_0; try clear hfz24_1; try clear hfz24_2; try clear hfz24_3; try clear hfz9_0; try clear hfz9_1; try clear hfz9_2; try clear hfz9_3
  obtain ⟨kq, x54_3, rfl, HA, HJ3, BK101, BK102, HB⟩ := hcut
  cases kq with
  | zero => exact absurd HA.out (by simp [agatelaw07_TensorTells.j0])
  | succ kj3 =>
   have H := HA.out; clear HA
   simp only [agatelaw07_TensorTells.j0] at H
   by_cases c25 : x54_3 = true
   ·
    subst c25
    have H1 : ((agatelaw07_Awake.f).bind fun t122 => (some t122)) = some r := by rw [if_pos rfl] at H; exact H
    clear H
    have H := H1
    clear H1
    replace H := Option.bind_eq_some_iff.mp H
    obtain ⟨t122, A260, H⟩ := H
    replace H : (some t122) = some r := H
    have A26 := Aside0.mk A260
    clear A260
    obtain rfl := Option.some.inj H
    go_wp2_with (first | ((with_reducible refine gate_callee (f := 35) rfl ?_); refine goesL_ (some 55) rfl rfl Try.func35 (by kernel_rfl) rfl #[] rfl (by (try simp only [List.map_toArray, List.map_cons, List.map_nil]); first | done | rfl | (simp only [List.length_drop, List.length_take]; rfl)) ?_; (with_reducible refine (agatelaw07_Awake.calls  t122 _ A26.out).mono ?_); rintro e w27 ⟨rfl, hb⟩; refine ⟨_, rfl, ?_⟩; have n0_ := Aside0.mk (blk_below (g := gb101) (bkA BK101) hb); have n1_ := Aside0.mk (blk_below (g := gb102) (bkA BK102) hb); have n2_ := Aside0.mk (below_step (hbA HB) hb); clear BK101; clear BK102; clear HB; have BK101 := n0_; have BK102 := n1_; have HB := n2_; clear n0_ n1_ n2_; (try clear hb); (try clear hb2); (try clear hk); (try clear hi)))
    go_ret
    exact ⟨by first | rfl | (simp [errW_none, errW_some] <;> rfl) | (simp [*, errW_none, errW_some] <;> rfl), hbA HB⟩
   ·
    replace c25 := Bool.eq_false_iff.mpr c25
    subst c25
    have H1 : ((agatelaw07_Of.f a0_0 a0_1 l0_2 a0_3).bind fun bt137 => ((agatelaw07_Of.f a1_0 a1_1 l1_2 a1_3).bind fun bt140 => ((agateref07_Check_s.f bt137.1 bt137.2.1 l0_2 bt137.2.2).bind fun t145 => ((tensor_Tensor_Check_s.f a0_0 a0_1 l0_2 a0_3).bind fun t146 => (if t146 = t145 then ((tensor_Tensor_Same.f a0_0 a0_1 l0_2 a0_3 a1_0 a1_1 l1_2 a1_3).bind fun t147 => ((agateref07_Same_s.f bt137.1 bt137.2.1 l0_2 bt137.2.2 bt140.1 bt140.2.1 l1_2 bt140.2.2).bind fun t148 => (if (t147 != t148) = true then (none) else ((tensor_Name_s.f a0_0).bind fun t149 => ((agateref07_Name_s.f a0_0).bind fun t150 => (if (t149 != t150) = true then (none) else ((agateref04_Size_s.f bt137.2.1).bind fun t153 => (if t153 > 0 then (if a2 ≥ 0 then (if t153 = 0 then (none) else (agatelaw07_TensorTells.j1 kj3 a2 t145 t153 (⟨#[]⟩ : ByteArray) (decide (a2 < (wrap64 ((a0_3.size : Int) / t153)))) a0_0 a0_1 l0_2 a0_3 bt137.1 bt137.2.1 l0_2 bt137.2.2)) else (agatelaw07_TensorTells.j1 kj3 a2 t145 t153 (⟨#[]⟩ : ByteArray) false a0_0 a0_1 l0_2 a0_3 bt137.1 bt137.2.1 l0_2 bt137.2.2)) else (agatelaw07_TensorTells.j1 kj3 a2 t145 t153 (⟨#[]⟩ : ByteArray) false a0_0 a0_1 l0_2 a0_3 bt137.1 bt137.2.1 l0_2 bt137.2.2))))))))) else (none)))))) = some r := by rw [if_neg (show ¬ (false = true) by decide)] at H; exact H
    clear H
    have H := H1
    clear H1
    replace H := Option.bind_eq_some_iff.mp H
    obtain ⟨⟨t137, t138, t139⟩, A280, H⟩ := H
    replace H : ((agatelaw07_Of.f a1_0 a1_1 l1_2 a1_3).bind fun bt140 => ((agateref07_Check_s.f t137 t138 l0_2 t139).bind fun t145 => ((tensor_Tensor_Check_s.f a0_0 a0_1 l0_2 a0_3).bind fun t146 => (if t146 = t145 then ((tensor_Tensor_Same.f a0_0 a0_1 l0_2 a0_3 a1_0 a1_1 l1_2 a1_3).bind fun t147 => ((agateref07_Same_s.f t137 t138 l0_2 t139 bt140.1 bt140.2.1 l1_2 bt140.2.2).bind fun t148 => (if (t147 != t148) = true then (none) else ((tensor_Name_s.f a0_0).bind fun t149 => ((agateref07_Name_s.f a0_0).bind fun t150 => (if (t149 != t150) = true then (none) else ((agateref04_Size_s.f t138).bind fun t153 => (if t153 > 0 then (if a2 ≥ 0 then (if t153 = 0 then (none) else (agatelaw07_TensorTells.j1 kj3 a2 t145 t153 (⟨#[]⟩ : ByteArray) (decide (a2 < (wrap64 ((a0_3.size : Int) / t153)))) a0_0 a0_1 l0_2 a0_3 t137 t138 l0_2 t139)) else (agatelaw07_TensorTells.j1 kj3 a2 t145 t153 (⟨#[]⟩ : ByteArray) false a0_0 a0_1 l0_2 a0_3 t137 t138 l0_2 t139)) else (agatelaw07_TensorTells.j1 kj3 a2 t145 t153 (⟨#[]⟩ : ByteArray) false a0_0 a0_1 l0_2 a0_3 t137 t138 l0_2 t139))))))))) else (none))))) = some r := H
    have A28 := Aside0.mk A280
    clear A280
    replace H := Option.bind_eq_some_iff.mp H
    obtain ⟨⟨t140, t141, t142⟩, A290, H⟩ := H
    replace H : ((agateref07_Check_s.f t137 t138 l0_2 t139).bind fun t145 => ((tensor_Tensor_Check_s.f a0_0 a0_1 l0_2 a0_3).bind fun t146 => (if t146 = t145 then ((tensor_Tensor_Same.f a0_0 a0_1 l0_2 a0_3 a1_0 a1_1 l1_2 a1_3).bind fun t147 => ((agateref07_Same_s.f t137 t138 l0_2 t139 t140 t141 l1_2 t142).bind fun t148 => (if (t147 != t148) = true then (none) else ((tensor_Name_s.f a0_0).bind fun t149 => ((agateref07_Name_s.f a0_0).bind fun t150 => (if (t149 != t150) = true then (none) else ((agateref04_Size_s.f t138).bind fun t153 => (if t153 > 0 then (if a2 ≥ 0 then (if t153 = 0 then (none) else (agatelaw07_TensorTells.j1 kj3 a2 t145 t153 (⟨#[]⟩ : ByteArray) (decide (a2 < (wrap64 ((a0_3.size : Int) / t153)))) a0_0 a0_1 l0_2 a0_3 t137 t138 l0_2 t139)) else (agatelaw07_TensorTells.j1 kj3 a2 t145 t153 (⟨#[]⟩ : ByteArray) false a0_0 a0_1 l0_2 a0_3 t137 t138 l0_2 t139)) else (agatelaw07_TensorTells.j1 kj3 a2 t145 t153 (⟨#[]⟩ : ByteArray) false a0_0 a0_1 l0_2 a0_3 t137 t138 l0_2 t139))))))))) else (none)))) = some r := H
    have A29 := Aside0.mk A290
    clear A290
    replace H := Option.bind_eq_some_iff.mp H
    obtain ⟨t145, A300, H⟩ := H
    replace H : ((tensor_Tensor_Check_s.f a0_0 a0_1 l0_2 a0_3).bind fun t146 => (if t146 = t145 then ((tensor_Tensor_Same.f a0_0 a0_1 l0_2 a0_3 a1_0 a1_1 l1_2 a1_3).bind fun t147 => ((agateref07_Same_s.f t137 t138 l0_2 t139 t140 t141 l1_2 t142).bind fun t148 => (if (t147 != t148) = true then (none) else ((tensor_Name_s.f a0_0).bind fun t149 => ((agateref07_Name_s.f a0_0).bind fun t150 => (if (t149 != t150) = true then (none) else ((agateref04_Size_s.f t138).bind fun t153 => (if t153 > 0 then (if a2 ≥ 0 then (if t153 = 0 then (none) else (agatelaw07_TensorTells.j1 kj3 a2 t145 t153 (⟨#[]⟩ : ByteArray) (decide (a2 < (wrap64 ((a0_3.size : Int) / t153)))) a0_0 a0_1 l0_2 a0_3 t137 t138 l0_2 t139)) else (agatelaw07_TensorTells.j1 kj3 a2 t145 t153 (⟨#[]⟩ : ByteArray) false a0_0 a0_1 l0_2 a0_3 t137 t138 l0_2 t139)) else (agatelaw07_TensorTells.j1 kj3 a2 t145 t153 (⟨#[]⟩ : ByteArray) false a0_0 a0_1 l0_2 a0_3 t137 t138 l0_2 t139))))))))) else (none))) = some r := H
    have A30 := Aside0.mk A300
    clear A300
    replace H := Option.bind_eq_some_iff.mp H
    obtain ⟨t146, A310, H⟩ := H
    replace H : (if t146 = t145 then ((tensor_Tensor_Same.f a0_0 a0_1 l0_2 a0_3 a1_0 a1_1 l1_2 a1_3).bind fun t147 => ((agateref07_Same_s.f t137 t138 l0_2 t139 t140 t141 l1_2 t142).bind fun t148 => (if (t147 != t148) = true then (none) else ((tensor_Name_s.f a0_0).bind fun t149 => ((agateref07_Name_s.f a0_0).bind fun t150 => (if (t149 != t150) = true then (none) else ((agateref04_Size_s.f t138).bind fun t153 => (if t153 > 0 then (if a2 ≥ 0 then (if t153 = 0 then (none) else (agatelaw07_TensorTells.j1 kj3 a2 t145 t153 (⟨#[]⟩ : ByteArray) (decide (a2 < (wrap64 ((a0_3.size : Int) / t153)))) a0_0 a0_1 l0_2 a0_3 t137 t138 l0_2 t139)) else (agatelaw07_TensorTells.j1 kj3 a2 t145 t153 (⟨#[]⟩ : ByteArray) false a0_0 a0_1 l0_2 a0_3 t137 t138 l0_2 t139)) else (agatelaw07_TensorTells.j1 kj3 a2 t145 t153 (⟨#[]⟩ : ByteArray) false a0_0 a0_1 l0_2 a0_3 t137 t138 l0_2 t139))))))))) else (none)) = some r := H
    have A31 := Aside0.mk A310
    clear A310
    by_cases c32 : t146 = t145
    ·
     rw [if_pos c32] at H
     have c32b0 : (t146 == t145) = true := beq_iff_eq.mpr c32
     have c32b1 : (t146 != t145) = false := bne_eq_false_iff_eq.mpr c32
     clear c32
     replace H := Option.bind_eq_some_iff.mp H
     obtain ⟨t147, A330, H⟩ := H
     replace H : ((agateref07_Same_s.f t137 t138 l0_2 t139 t140 t141 l1_2 t142).bind fun t148 => (if (t147 != t148) = true then (none) else ((tensor_Name_s.f a0_0).bind fun t149 => ((agateref07_Name_s.f a0_0).bind fun t150 => (if (t149 != t150) = true then (none) else ((agateref04_Size_s.f t138).bind fun t153 => (if t153 > 0 then (if a2 ≥ 0 then (if t153 = 0 then (none) else (agatelaw07_TensorTells.j1 kj3 a2 t145 t153 (⟨#[]⟩ : ByteArray) (decide (a2 < (wrap64 ((a0_3.size : Int) / t153)))) a0_0 a0_1 l0_2 a0_3 t137 t138 l0_2 t139)) else (agatelaw07_TensorTells.j1 kj3 a2 t145 t153 (⟨#[]⟩ : ByteArray) false a0_0 a0_1 l0_2 a0_3 t137 t138 l0_2 t139)) else (agatelaw07_TensorTells.j1 kj3 a2 t145 t153 (⟨#[]⟩ : ByteArray) false a0_0 a0_1 l0_2 a0_3 t137 t138 l0_2 t139)))))))) = some r := H
     have A33 := Aside0.mk A330
     clear A330
     replace H := Option.bind_eq_some_iff.mp H
     obtain ⟨t148, A340, H⟩ := H
     replace H : (if (t147 != t148) = true then (none) else ((tensor_Name_s.f a0_0).bind fun t149 => ((agateref07_Name_s.f a0_0).bind fun t150 => (if (t149 != t150) = true then (none) else ((agateref04_Size_s.f t138).bind fun t153 => (if t153 > 0 then (if a2 ≥ 0 then (if t153 = 0 then (none) else (agatelaw07_TensorTells.j1 kj3 a2 t145 t153 (⟨#[]⟩ : ByteArray) (decide (a2 < (wrap64 ((a0_3.size : Int) / t153)))) a0_0 a0_1 l0_2 a0_3 t137 t138 l0_2 t139)) else (agatelaw07_TensorTells.j1 kj3 a2 t145 t153 (⟨#[]⟩ : ByteArray) false a0_0 a0_1 l0_2 a0_3 t137 t138 l0_2 t139)) else (agatelaw07_TensorTells.j1 kj3 a2 t145 t153 (⟨#[]⟩ : ByteArray) false a0_0 a0_1 l0_2 a0_3 t137 t138 l0_2 t139))))))) = some r := H
     have A34 := Aside0.mk A340
     clear A340
     by_cases c35 : (t147 != t148) = true
     ·
      rw [if_pos c35] at H
      have c35b0 : (t147 != t148) = true := c35
      (try (have c35b1 : decide (t147 = t148) = false := by simpa using c35))
      (try (have c35b2 : (t147 == t148) = false := by simpa using c35))
      (try (have c35b3 : ¬ (t147 = t148) := by simpa using c35))
      clear c35
      exact absurd H (by simp)
     ·
      rw [if_neg c35] at H
      have c35b0 : (t147 != t148) = false := by simpa using c35
      (try (have c35b1 : decide (t147 = t148) = true := by simpa using c35))
      (try (have c35b2 : (t147 == t148) = true := by simpa using c35))
      clear c35
      replace H := Option.bind_eq_some_iff.mp H
      obtain ⟨t149, A360, H⟩ := H
      replace H : ((agateref07_Name_s.f a0_0).bind fun t150 => (if (t149 != t150) = true then (none) else ((agateref04_Size_s.f t138).bind fun t153 => (if t153 > 0 then (if a2 ≥ 0 then (if t153 = 0 then (none) else (agatelaw07_TensorTells.j1 kj3 a2 t145 t153 (⟨#[]⟩ : ByteArray) (decide (a2 < (wrap64 ((a0_3.size : Int) / t153)))) a0_0 a0_1 l0_2 a0_3 t137 t138 l0_2 t139)) else (agatelaw07_TensorTells.j1 kj3 a2 t145 t153 (⟨#[]⟩ : ByteArray) false a0_0 a0_1 l0_2 a0_3 t137 t138 l0_2 t139)) else (agatelaw07_TensorTells.j1 kj3 a2 t145 t153 (⟨#[]⟩ : ByteArray) false a0_0 a0_1 l0_2 a0_3 t137 t138 l0_2 t139))))) = some r := H
      have A36 := Aside0.mk A360
      clear A360
      replace H := Option.bind_eq_some_iff.mp H
      obtain ⟨t150, A370, H⟩ := H
      replace H : (if (t149 != t150) = true then (none) else ((agateref04_Size_s.f t138).bind fun t153 => (if t153 > 0 then (if a2 ≥ 0 then (if t153 = 0 then (none) else (agatelaw07_TensorTells.j1 kj3 a2 t145 t153 (⟨#[]⟩ : ByteArray) (decide (a2 < (wrap64 ((a0_3.size : Int) / t153)))) a0_0 a0_1 l0_2 a0_3 t137 t138 l0_2 t139)) else (agatelaw07_TensorTells.j1 kj3 a2 t145 t153 (⟨#[]⟩ : ByteArray) false a0_0 a0_1 l0_2 a0_3 t137 t138 l0_2 t139)) else (agatelaw07_TensorTells.j1 kj3 a2 t145 t153 (⟨#[]⟩ : ByteArray) false a0_0 a0_1 l0_2 a0_3 t137 t138 l0_2 t139)))) = some r := H
      have A37 := Aside0.mk A370
      clear A370
      by_cases c38 : (t149 != t150) = true
      ·
       rw [if_pos c38] at H
       exact absurd H (by simp)
      ·
       rw [if_neg c38] at H
       have c38b0 : (t149 != t150) = false := by simpa using c38
       (try (have c38b1 : decide (t149 = t150) = true := by simpa using c38))
       (try (have c38b2 : (t149 == t150) = true := by simpa using c38))
       clear c38
       replace H := Option.bind_eq_some_iff.mp H
       obtain ⟨t153, A390, H⟩ := H
       replace H : (if t153 > 0 then (if a2 ≥ 0 then (if t153 = 0 then (none) else (agatelaw07_TensorTells.j1 kj3 a2 t145 t153 (⟨#[]⟩ : ByteArray) (decide (a2 < (wrap64 ((a0_3.size : Int) / t153)))) a0_0 a0_1 l0_2 a0_3 t137 t138 l0_2 t139)) else (agatelaw07_TensorTells.j1 kj3 a2 t145 t153 (⟨#[]⟩ : ByteArray) false a0_0 a0_1 l0_2 a0_3 t137 t138 l0_2 t139)) else (agatelaw07_TensorTells.j1 kj3 a2 t145 t153 (⟨#[]⟩ : ByteArray) false a0_0 a0_1 l0_2 a0_3 t137 t138 l0_2 t139)) = some r := H
       have A39 := Aside0.mk A390
       clear A390
       have HC40 := Aside0.mk H
       clear H
       try go_wp2
       have n0_ := Aside0.mk (blk_drew BK101.out)
       have n1_ := Aside0.mk (blk_drew BK102.out)
       have n2_ := Aside0.mk (below_drew1 HB.out)
       clear BK101; clear BK102; clear HB; have BK101 := n0_; have BK102 := n1_; have HB := n2_; clear n0_ n1_ n2_
       refine start_ (n := 8) (S := fun w' => w'.cell? ⟨gb101, 0, none⟩ = some (.string a0_0) ∧ w'.cell? ⟨gb101, 1, none⟩ = some (.int .i64 a0_1) ∧ w'.cell? ⟨gb101, 2, none⟩ = some (.slice A0_2 l0_2.length c0_2) ∧ w'.cell? ⟨gb101, 3, none⟩ = some (.string a0_3) ∧ w'.cell? ⟨gb102, 0, none⟩ = some (.string a1_0) ∧ w'.cell? ⟨gb102, 1, none⟩ = some (.int .i64 a1_1) ∧ w'.cell? ⟨gb102, 2, none⟩ = some (.slice A1_2 l1_2.length c1_2) ∧ w'.cell? ⟨gb102, 3, none⟩ = some (.string a1_3)) (ds := []) #[false, false, false, false, false, false, false, false] (by kernel_rfl) rfl rfl ⟨bcA BK101 0, bcA BK101 1, bcA BK101 2, bcA BK101 3, bcA BK102 0, bcA BK102 1, bcA BK102 2, bcA BK102 3⟩ (fun hHeld => ?_); refine with_tabW agatelaw07_TensorTells.tab3 agatelaw07_TensorTells.bits3 (fun HT_ HW_ => ?_)
       generalize wc.drew = w41 at BK101 BK102 HB hHeld ⊢
       refine take_ (i := 0) (N := some 56) (v := ?_) (a' := ?_) #[true, false, false, false, false, false, false, false] rfl rfl (take_ofW HT_.out HW_.out (by kernel_rfl)) (fun _ _ _ h => h) (Or.inl ⟨by rfl, ?_⟩) hHeld ?_ ?_
       rotate_left
       ·
        rintro w' ⟨s0, s1, s2, s3, s4, s5, s6, s7⟩
        go_simp
        with_reducible rfl
       rotate_left
       ·
        simp only [Act.put, List.setIfInBounds_toArray, List.set_cons_zero, List.set_cons_succ, i64_w, i32_w]
        rfl
       refine take_ (i := 2) (N := some 58) (v := ?_) (a' := ?_) #[true, false, true, false, false, false, false, false] rfl rfl (take_ofW HT_.out HW_.out (by kernel_rfl)) (fun _ _ _ h => h) (Or.inl ⟨by rfl, ?_⟩) hHeld ?_ ?_
       rotate_left
       ·
        rintro w' ⟨s0, s1, s2, s3, s4, s5, s6, s7⟩
        go_simp
        with_reducible rfl
       rotate_left
       ·
        simp only [Act.put, List.setIfInBounds_toArray, List.set_cons_zero, List.set_cons_succ, i64_w, i32_w]
        rfl
       refine join_ (σ := Nat × Nat) 2 #[true, true, true, true, true, true, false, false] (fun s_ => [(57, .agg #[.string t137, .int .i64 t138, .slice A0_2 l0_2.length c0_2, .string t139]), (59, .agg #[.string t140, .int .i64 t141, .slice A1_2 l1_2.length c1_2, .string t142]), (7, .pointer (some ⟨s_.1, 0, none⟩)), (8, .pointer (some ⟨s_.2, 0, none⟩))]) (fun s_ w' => (w'.cell? ⟨gb101, 0, none⟩ = some (.string a0_0) ∧ w'.cell? ⟨gb101, 1, none⟩ = some (.int .i64 a0_1) ∧ w'.cell? ⟨gb101, 2, none⟩ = some (.slice A0_2 l0_2.length c0_2) ∧ w'.cell? ⟨gb101, 3, none⟩ = some (.string a0_3) ∧ w'.cell? ⟨gb102, 0, none⟩ = some (.string a1_0) ∧ w'.cell? ⟨gb102, 1, none⟩ = some (.int .i64 a1_1) ∧ w'.cell? ⟨gb102, 2, none⟩ = some (.slice A1_2 l1_2.length c1_2) ∧ w'.cell? ⟨gb102, 3, none⟩ = some (.string a1_3)) ∧ (w'.heap[gb101]? = some (.cells #[.string a0_0, .int .i64 a0_1, .slice A0_2 l0_2.length c0_2, .string a0_3] 62 (0, 0))) ∧ (w'.heap[gb102]? = some (.cells #[.string a1_0, .int .i64 a1_1, .slice A1_2 l1_2.length c1_2, .string a1_3] 62 (0, 0))) ∧ (w'.heap[s_.1]? = some (.cells #[.string (⟨#[]⟩ : ByteArray), .int .i64 0, .slice none 0 0, .string (⟨#[]⟩ : ByteArray)] 64 (0, 0))) ∧ (w'.heap[s_.2]? = some (.cells #[.string (⟨#[]⟩ : ByteArray), .int .i64 0, .slice none 0 0, .string (⟨#[]⟩ : ByteArray)] 64 (0, 0))) ∧ (w.heap.size ≤ s_.1) ∧ (w.heap.size ≤ s_.1) ∧ (gb101 ≠ s_.1) ∧ (s_.1 ≠ gb101) ∧ (gb102 ≠ s_.1) ∧ (s_.1 ≠ gb102) ∧ (s_.2 ≠ s_.1) ∧ (s_.1 ≠ s_.2) ∧ (w.heap.size ≤ s_.2) ∧ (w.heap.size ≤ s_.2) ∧ (gb101 ≠ s_.2) ∧ (s_.2 ≠ gb101) ∧ (gb102 ≠ s_.2) ∧ (s_.2 ≠ gb102) ∧ (Below w.heap.size w w')) ?_ ?_
       rotate_left
       ·
        intro hJ1_3_4_5
        refine join_ (σ := Nat) 3 #[true, true, true, true, true, false, false, false] (fun s_ => [(57, .agg #[.string t137, .int .i64 t138, .slice A0_2 l0_2.length c0_2, .string t139]), (59, .agg #[.string t140, .int .i64 t141, .slice A1_2 l1_2.length c1_2, .string t142]), (7, .pointer (some ⟨s_, 0, none⟩))]) (fun s_ w' => (w'.cell? ⟨gb101, 0, none⟩ = some (.string a0_0) ∧ w'.cell? ⟨gb101, 1, none⟩ = some (.int .i64 a0_1) ∧ w'.cell? ⟨gb101, 2, none⟩ = some (.slice A0_2 l0_2.length c0_2) ∧ w'.cell? ⟨gb101, 3, none⟩ = some (.string a0_3) ∧ w'.cell? ⟨gb102, 0, none⟩ = some (.string a1_0) ∧ w'.cell? ⟨gb102, 1, none⟩ = some (.int .i64 a1_1) ∧ w'.cell? ⟨gb102, 2, none⟩ = some (.slice A1_2 l1_2.length c1_2) ∧ w'.cell? ⟨gb102, 3, none⟩ = some (.string a1_3)) ∧ (w'.heap[gb101]? = some (.cells #[.string a0_0, .int .i64 a0_1, .slice A0_2 l0_2.length c0_2, .string a0_3] 62 (0, 0))) ∧ (w'.heap[gb102]? = some (.cells #[.string a1_0, .int .i64 a1_1, .slice A1_2 l1_2.length c1_2, .string a1_3] 62 (0, 0))) ∧ (w'.heap[s_]? = some (.cells #[.string (⟨#[]⟩ : ByteArray), .int .i64 0, .slice none 0 0, .string (⟨#[]⟩ : ByteArray)] 64 (0, 0))) ∧ (w.heap.size ≤ s_) ∧ (w.heap.size ≤ s_) ∧ (gb101 ≠ s_) ∧ (s_ ≠ gb101) ∧ (gb102 ≠ s_) ∧ (s_ ≠ gb102) ∧ (Below w.heap.size w w')) ?_ ?_
        rotate_left
        ·
         intro hJ1_3_4
         refine join_ (σ := Nat) 3 #[true, true, true, true, false, true, false, false] (fun s_ => [(57, .agg #[.string t137, .int .i64 t138, .slice A0_2 l0_2.length c0_2, .string t139]), (59, .agg #[.string t140, .int .i64 t141, .slice A1_2 l1_2.length c1_2, .string t142]), (8, .pointer (some ⟨s_, 0, none⟩))]) (fun s_ w' => (w'.cell? ⟨gb101, 0, none⟩ = some (.string a0_0) ∧ w'.cell? ⟨gb101, 1, none⟩ = some (.int .i64 a0_1) ∧ w'.cell? ⟨gb101, 2, none⟩ = some (.slice A0_2 l0_2.length c0_2) ∧ w'.cell? ⟨gb101, 3, none⟩ = some (.string a0_3) ∧ w'.cell? ⟨gb102, 0, none⟩ = some (.string a1_0) ∧ w'.cell? ⟨gb102, 1, none⟩ = some (.int .i64 a1_1) ∧ w'.cell? ⟨gb102, 2, none⟩ = some (.slice A1_2 l1_2.length c1_2) ∧ w'.cell? ⟨gb102, 3, none⟩ = some (.string a1_3)) ∧ (w'.heap[gb101]? = some (.cells #[.string a0_0, .int .i64 a0_1, .slice A0_2 l0_2.length c0_2, .string a0_3] 62 (0, 0))) ∧ (w'.heap[gb102]? = some (.cells #[.string a1_0, .int .i64 a1_1, .slice A1_2 l1_2.length c1_2, .string a1_3] 62 (0, 0))) ∧ (w'.heap[s_]? = some (.cells #[.string (⟨#[]⟩ : ByteArray), .int .i64 0, .slice none 0 0, .string (⟨#[]⟩ : ByteArray)] 64 (0, 0))) ∧ (w.heap.size ≤ s_) ∧ (w.heap.size ≤ s_) ∧ (gb101 ≠ s_) ∧ (s_ ≠ gb101) ∧ (gb102 ≠ s_) ∧ (s_ ≠ gb102) ∧ (Below w.heap.size w w')) ?_ ?_
         rotate_left
         ·
          intro hJ1_3_5
          refine join_ (σ := Nat × Nat) 3 #[true, true, true, false, true, true, false, false] (fun s_ => [(57, .agg #[.string t137, .int .i64 t138, .slice A0_2 l0_2.length c0_2, .string t139]), (7, .pointer (some ⟨s_.1, 0, none⟩)), (8, .pointer (some ⟨s_.2, 0, none⟩))]) (fun s_ w' => (w'.cell? ⟨gb101, 0, none⟩ = some (.string a0_0) ∧ w'.cell? ⟨gb101, 1, none⟩ = some (.int .i64 a0_1) ∧ w'.cell? ⟨gb101, 2, none⟩ = some (.slice A0_2 l0_2.length c0_2) ∧ w'.cell? ⟨gb101, 3, none⟩ = some (.string a0_3) ∧ w'.cell? ⟨gb102, 0, none⟩ = some (.string a1_0) ∧ w'.cell? ⟨gb102, 1, none⟩ = some (.int .i64 a1_1) ∧ w'.cell? ⟨gb102, 2, none⟩ = some (.slice A1_2 l1_2.length c1_2) ∧ w'.cell? ⟨gb102, 3, none⟩ = some (.string a1_3)) ∧ (w'.heap[gb101]? = some (.cells #[.string a0_0, .int .i64 a0_1, .slice A0_2 l0_2.length c0_2, .string a0_3] 62 (0, 0))) ∧ (w'.heap[gb102]? = some (.cells #[.string a1_0, .int .i64 a1_1, .slice A1_2 l1_2.length c1_2, .string a1_3] 62 (0, 0))) ∧ (w'.heap[s_.1]? = some (.cells #[.string (⟨#[]⟩ : ByteArray), .int .i64 0, .slice none 0 0, .string (⟨#[]⟩ : ByteArray)] 64 (0, 0))) ∧ (w'.heap[s_.2]? = some (.cells #[.string (⟨#[]⟩ : ByteArray), .int .i64 0, .slice none 0 0, .string (⟨#[]⟩ : ByteArray)] 64 (0, 0))) ∧ (w.heap.size ≤ s_.1) ∧ (w.heap.size ≤ s_.1) ∧ (gb101 ≠ s_.1) ∧ (s_.1 ≠ gb101) ∧ (gb102 ≠ s_.1) ∧ (s_.1 ≠ gb102) ∧ (s_.2 ≠ s_.1) ∧ (s_.1 ≠ s_.2) ∧ (w.heap.size ≤ s_.2) ∧ (w.heap.size ≤ s_.2) ∧ (gb101 ≠ s_.2) ∧ (s_.2 ≠ gb101) ∧ (gb102 ≠ s_.2) ∧ (s_.2 ≠ gb102) ∧ (Below w.heap.size w w')) ?_ ?_
          rotate_left
          ·
           intro hJ1_4_5
           refine join_ (σ := Unit) 4 #[true, true, true, true, false, false, false, false] (fun s_ => [(57, .agg #[.string t137, .int .i64 t138, .slice A0_2 l0_2.length c0_2, .string t139]), (59, .agg #[.string t140, .int .i64 t141, .slice A1_2 l1_2.length c1_2, .string t142])]) (fun s_ w' => (w'.cell? ⟨gb101, 0, none⟩ = some (.string a0_0) ∧ w'.cell? ⟨gb101, 1, none⟩ = some (.int .i64 a0_1) ∧ w'.cell? ⟨gb101, 2, none⟩ = some (.slice A0_2 l0_2.length c0_2) ∧ w'.cell? ⟨gb101, 3, none⟩ = some (.string a0_3) ∧ w'.cell? ⟨gb102, 0, none⟩ = some (.string a1_0) ∧ w'.cell? ⟨gb102, 1, none⟩ = some (.int .i64 a1_1) ∧ w'.cell? ⟨gb102, 2, none⟩ = some (.slice A1_2 l1_2.length c1_2) ∧ w'.cell? ⟨gb102, 3, none⟩ = some (.string a1_3)) ∧ (w'.heap[gb101]? = some (.cells #[.string a0_0, .int .i64 a0_1, .slice A0_2 l0_2.length c0_2, .string a0_3] 62 (0, 0))) ∧ (w'.heap[gb102]? = some (.cells #[.string a1_0, .int .i64 a1_1, .slice A1_2 l1_2.length c1_2, .string a1_3] 62 (0, 0))) ∧ (Below w.heap.size w w')) ?_ ?_
           rotate_left
           ·
            intro hJ1_3
            refine join_ (σ := Nat) 4 #[true, true, true, false, true, false, false, false] (fun s_ => [(57, .agg #[.string t137, .int .i64 t138, .slice A0_2 l0_2.length c0_2, .string t139]), (7, .pointer (some ⟨s_, 0, none⟩))]) (fun s_ w' => (w'.cell? ⟨gb101, 0, none⟩ = some (.string a0_0) ∧ w'.cell? ⟨gb101, 1, none⟩ = some (.int .i64 a0_1) ∧ w'.cell? ⟨gb101, 2, none⟩ = some (.slice A0_2 l0_2.length c0_2) ∧ w'.cell? ⟨gb101, 3, none⟩ = some (.string a0_3) ∧ w'.cell? ⟨gb102, 0, none⟩ = some (.string a1_0) ∧ w'.cell? ⟨gb102, 1, none⟩ = some (.int .i64 a1_1) ∧ w'.cell? ⟨gb102, 2, none⟩ = some (.slice A1_2 l1_2.length c1_2) ∧ w'.cell? ⟨gb102, 3, none⟩ = some (.string a1_3)) ∧ (w'.heap[gb101]? = some (.cells #[.string a0_0, .int .i64 a0_1, .slice A0_2 l0_2.length c0_2, .string a0_3] 62 (0, 0))) ∧ (w'.heap[gb102]? = some (.cells #[.string a1_0, .int .i64 a1_1, .slice A1_2 l1_2.length c1_2, .string a1_3] 62 (0, 0))) ∧ (w'.heap[s_]? = some (.cells #[.string (⟨#[]⟩ : ByteArray), .int .i64 0, .slice none 0 0, .string (⟨#[]⟩ : ByteArray)] 64 (0, 0))) ∧ (w.heap.size ≤ s_) ∧ (w.heap.size ≤ s_) ∧ (gb101 ≠ s_) ∧ (s_ ≠ gb101) ∧ (gb102 ≠ s_) ∧ (s_ ≠ gb102) ∧ (Below w.heap.size w w')) ?_ ?_
            rotate_left
            ·
             intro hJ1_4
             refine join_ (σ := Nat) 4 #[true, true, true, false, false, true, false, false] (fun s_ => [(57, .agg #[.string t137, .int .i64 t138, .slice A0_2 l0_2.length c0_2, .string t139]), (8, .pointer (some ⟨s_, 0, none⟩))]) (fun s_ w' => (w'.cell? ⟨gb101, 0, none⟩ = some (.string a0_0) ∧ w'.cell? ⟨gb101, 1, none⟩ = some (.int .i64 a0_1) ∧ w'.cell? ⟨gb101, 2, none⟩ = some (.slice A0_2 l0_2.length c0_2) ∧ w'.cell? ⟨gb101, 3, none⟩ = some (.string a0_3) ∧ w'.cell? ⟨gb102, 0, none⟩ = some (.string a1_0) ∧ w'.cell? ⟨gb102, 1, none⟩ = some (.int .i64 a1_1) ∧ w'.cell? ⟨gb102, 2, none⟩ = some (.slice A1_2 l1_2.length c1_2) ∧ w'.cell? ⟨gb102, 3, none⟩ = some (.string a1_3)) ∧ (w'.heap[gb101]? = some (.cells #[.string a0_0, .int .i64 a0_1, .slice A0_2 l0_2.length c0_2, .string a0_3] 62 (0, 0))) ∧ (w'.heap[gb102]? = some (.cells #[.string a1_0, .int .i64 a1_1, .slice A1_2 l1_2.length c1_2, .string a1_3] 62 (0, 0))) ∧ (w'.heap[s_]? = some (.cells #[.string (⟨#[]⟩ : ByteArray), .int .i64 0, .slice none 0 0, .string (⟨#[]⟩ : ByteArray)] 64 (0, 0))) ∧ (w.heap.size ≤ s_) ∧ (w.heap.size ≤ s_) ∧ (gb101 ≠ s_) ∧ (s_ ≠ gb101) ∧ (gb102 ≠ s_) ∧ (s_ ≠ gb102) ∧ (Below w.heap.size w w')) ?_ ?_
             rotate_left
             ·
              intro hJ1_5
              refine join_ (σ := Nat × Nat) 4 #[true, false, true, false, true, true, false, false] (fun s_ => [(7, .pointer (some ⟨s_.1, 0, none⟩)), (8, .pointer (some ⟨s_.2, 0, none⟩))]) (fun s_ w' => (w'.cell? ⟨gb101, 0, none⟩ = some (.string a0_0) ∧ w'.cell? ⟨gb101, 1, none⟩ = some (.int .i64 a0_1) ∧ w'.cell? ⟨gb101, 2, none⟩ = some (.slice A0_2 l0_2.length c0_2) ∧ w'.cell? ⟨gb101, 3, none⟩ = some (.string a0_3) ∧ w'.cell? ⟨gb102, 0, none⟩ = some (.string a1_0) ∧ w'.cell? ⟨gb102, 1, none⟩ = some (.int .i64 a1_1) ∧ w'.cell? ⟨gb102, 2, none⟩ = some (.slice A1_2 l1_2.length c1_2) ∧ w'.cell? ⟨gb102, 3, none⟩ = some (.string a1_3)) ∧ (w'.heap[gb101]? = some (.cells #[.string a0_0, .int .i64 a0_1, .slice A0_2 l0_2.length c0_2, .string a0_3] 62 (0, 0))) ∧ (w'.heap[gb102]? = some (.cells #[.string a1_0, .int .i64 a1_1, .slice A1_2 l1_2.length c1_2, .string a1_3] 62 (0, 0))) ∧ (w'.heap[s_.1]? = some (.cells #[.string (⟨#[]⟩ : ByteArray), .int .i64 0, .slice none 0 0, .string (⟨#[]⟩ : ByteArray)] 64 (0, 0))) ∧ (w'.heap[s_.2]? = some (.cells #[.string (⟨#[]⟩ : ByteArray), .int .i64 0, .slice none 0 0, .string (⟨#[]⟩ : ByteArray)] 64 (0, 0))) ∧ (w.heap.size ≤ s_.1) ∧ (w.heap.size ≤ s_.1) ∧ (gb101 ≠ s_.1) ∧ (s_.1 ≠ gb101) ∧ (gb102 ≠ s_.1) ∧ (s_.1 ≠ gb102) ∧ (s_.2 ≠ s_.1) ∧ (s_.1 ≠ s_.2) ∧ (w.heap.size ≤ s_.2) ∧ (w.heap.size ≤ s_.2) ∧ (gb101 ≠ s_.2) ∧ (s_.2 ≠ gb101) ∧ (gb102 ≠ s_.2) ∧ (s_.2 ≠ gb102) ∧ (Below w.heap.size w w')) ?_ ?_
              rotate_left
              ·
               intro hJ4_5
               refine join_ (σ := Unit) 5 #[true, true, true, false, false, false, false, false] (fun s_ => [(57, .agg #[.string t137, .int .i64 t138, .slice A0_2 l0_2.length c0_2, .string t139])]) (fun s_ w' => (w'.cell? ⟨gb101, 0, none⟩ = some (.string a0_0) ∧ w'.cell? ⟨gb101, 1, none⟩ = some (.int .i64 a0_1) ∧ w'.cell? ⟨gb101, 2, none⟩ = some (.slice A0_2 l0_2.length c0_2) ∧ w'.cell? ⟨gb101, 3, none⟩ = some (.string a0_3) ∧ w'.cell? ⟨gb102, 0, none⟩ = some (.string a1_0) ∧ w'.cell? ⟨gb102, 1, none⟩ = some (.int .i64 a1_1) ∧ w'.cell? ⟨gb102, 2, none⟩ = some (.slice A1_2 l1_2.length c1_2) ∧ w'.cell? ⟨gb102, 3, none⟩ = some (.string a1_3)) ∧ (w'.heap[gb101]? = some (.cells #[.string a0_0, .int .i64 a0_1, .slice A0_2 l0_2.length c0_2, .string a0_3] 62 (0, 0))) ∧ (w'.heap[gb102]? = some (.cells #[.string a1_0, .int .i64 a1_1, .slice A1_2 l1_2.length c1_2, .string a1_3] 62 (0, 0))) ∧ (Below w.heap.size w w')) ?_ ?_
               rotate_left
               ·
                intro hJ1
                refine join_ (σ := Nat) 5 #[true, false, true, false, true, false, false, false] (fun s_ => [(7, .pointer (some ⟨s_, 0, none⟩))]) (fun s_ w' => (w'.cell? ⟨gb101, 0, none⟩ = some (.string a0_0) ∧ w'.cell? ⟨gb101, 1, none⟩ = some (.int .i64 a0_1) ∧ w'.cell? ⟨gb101, 2, none⟩ = some (.slice A0_2 l0_2.length c0_2) ∧ w'.cell? ⟨gb101, 3, none⟩ = some (.string a0_3) ∧ w'.cell? ⟨gb102, 0, none⟩ = some (.string a1_0) ∧ w'.cell? ⟨gb102, 1, none⟩ = some (.int .i64 a1_1) ∧ w'.cell? ⟨gb102, 2, none⟩ = some (.slice A1_2 l1_2.length c1_2) ∧ w'.cell? ⟨gb102, 3, none⟩ = some (.string a1_3)) ∧ (w'.heap[gb101]? = some (.cells #[.string a0_0, .int .i64 a0_1, .slice A0_2 l0_2.length c0_2, .string a0_3] 62 (0, 0))) ∧ (w'.heap[gb102]? = some (.cells #[.string a1_0, .int .i64 a1_1, .slice A1_2 l1_2.length c1_2, .string a1_3] 62 (0, 0))) ∧ (w'.heap[s_]? = some (.cells #[.string (⟨#[]⟩ : ByteArray), .int .i64 0, .slice none 0 0, .string (⟨#[]⟩ : ByteArray)] 64 (0, 0))) ∧ (w.heap.size ≤ s_) ∧ (w.heap.size ≤ s_) ∧ (gb101 ≠ s_) ∧ (s_ ≠ gb101) ∧ (gb102 ≠ s_) ∧ (s_ ≠ gb102) ∧ (Below w.heap.size w w')) ?_ ?_
                rotate_left
                ·
                 intro hJ4
                 refine join_ (σ := Nat) 5 #[true, false, true, false, false, true, false, false] (fun s_ => [(8, .pointer (some ⟨s_, 0, none⟩))]) (fun s_ w' => (w'.cell? ⟨gb101, 0, none⟩ = some (.string a0_0) ∧ w'.cell? ⟨gb101, 1, none⟩ = some (.int .i64 a0_1) ∧ w'.cell? ⟨gb101, 2, none⟩ = some (.slice A0_2 l0_2.length c0_2) ∧ w'.cell? ⟨gb101, 3, none⟩ = some (.string a0_3) ∧ w'.cell? ⟨gb102, 0, none⟩ = some (.string a1_0) ∧ w'.cell? ⟨gb102, 1, none⟩ = some (.int .i64 a1_1) ∧ w'.cell? ⟨gb102, 2, none⟩ = some (.slice A1_2 l1_2.length c1_2) ∧ w'.cell? ⟨gb102, 3, none⟩ = some (.string a1_3)) ∧ (w'.heap[gb101]? = some (.cells #[.string a0_0, .int .i64 a0_1, .slice A0_2 l0_2.length c0_2, .string a0_3] 62 (0, 0))) ∧ (w'.heap[gb102]? = some (.cells #[.string a1_0, .int .i64 a1_1, .slice A1_2 l1_2.length c1_2, .string a1_3] 62 (0, 0))) ∧ (w'.heap[s_]? = some (.cells #[.string (⟨#[]⟩ : ByteArray), .int .i64 0, .slice none 0 0, .string (⟨#[]⟩ : ByteArray)] 64 (0, 0))) ∧ (w.heap.size ≤ s_) ∧ (w.heap.size ≤ s_) ∧ (gb101 ≠ s_) ∧ (s_ ≠ gb101) ∧ (gb102 ≠ s_) ∧ (s_ ≠ gb102) ∧ (Below w.heap.size w w')) ?_ ?_
                 rotate_left
                 ·
                  intro hJ5
                  refine three_ (i := 1) (j := 4) (k := 5) (Ni := some 57) (Nj := some 7) (Nk := some 8) #[true, true, true, false, false, false, false, false] #[true, false, true, false, true, false, false, false] #[true, false, true, false, false, true, false, false] rfl rfl rfl rfl rfl rfl (three_of HT_.out (by kernel_rfl)) (by decide) (by decide) (by decide) (fun K hK => ?_) (fun K hK => ?_) (fun K hK => ?_)
                  ·
                   skip
                   refine goes_ Try.func36 (by kernel_rfl) rfl #[.agg #[.string a0_0, .int .i64 a0_1, .slice A0_2 l0_2.length c0_2, .string a0_3]] (by rfl) rfl rfl (by (try simp only [List.map_toArray, List.map_cons, List.map_nil]); first | done | rfl | (simp only [List.length_drop, List.length_take]; rfl)) ?_
                   with_reducible refine (agatelaw07_Of.calls a0_0 a0_1 _ _ l0_2 a0_3 t137 t138 t139 _ ?side1 ?side2 A28.out).mono ?_
                   (case side1 => repeat (first | exact (Kd.C_below HR0_2.out HB.out) | (with_reducible refine Kd.C_alloc ?_ _) | (with_reducible refine Kd.C_drewN ?_ _) | (with_reducible refine Kd.C_drew ?_)))
                   (case side2 => exact HC0_2.out)
                   rintro e w42 ⟨rfl, hb⟩
                   refine ⟨_, rfl, ?_⟩
                   have n0_ := Aside0.mk (blk_below (g := gb101) (bkA BK101) hb); have n1_ := Aside0.mk (blk_below (g := gb102) (bkA BK102) hb); have n2_ := Aside0.mk (below_step (hbA HB) hb); clear BK101; clear BK102; clear HB; have BK101 := n0_; have BK102 := n1_; have HB := n2_; clear n0_ n1_ n2_; try clear hb; try clear hk
                   refine hK.out _ _ ⟨bcA BK101 0, bcA BK101 1, bcA BK101 2, bcA BK101 3, bcA BK102 0, bcA BK102 1, bcA BK102 2, bcA BK102 3⟩ (fun hHeld => ?_)
                   clear hK K
                   refine norm_ (a' := ?_) ?_ ?_
                   rotate_left
                   ·
                    show Act.put _ (some 57) _ = _
                    simp only [Act.put, List.setIfInBounds_toArray, List.set_cons_zero, List.set_cons_succ, i64_w, i32_w]
                    rfl
                   exact normA (hJ1 () _ ⟨hHeld, (bkA BK101), (bkA BK102), (hbA HB)⟩)
                  ·
                   skip
                   refine box_step ?hg (N := 7) ?hd (cs := #[.string (⟨#[]⟩ : ByteArray), .int .i64 0, .slice none 0 0, .string (⟨#[]⟩ : ByteArray)]) (t := 64) ?hr ?_; (case hd => rfl); (case hg => rfl); (case hr => first | (go_simp; done) | (go_simp; rfl))
                   intro gb143 hg w42 hbox hb
                   have n0_ := Aside0.mk (blk_below (g := gb101) (bkA BK101) hb); have n1_ := Aside0.mk (blk_below (g := gb102) (bkA BK102) hb); have n2_ := Aside0.mk (below_step (hbA HB) hb); have n3_ := Aside0.mk (hbox)
                   have n4_ := Aside0.mk ((by rw [hg]; exact (below_size (hbA HB)) : w.heap.size ≤ gb143))
                   have n5_ := Aside0.mk ((by rw [hg]; exact (below_size (hbA HB)) : w.heap.size ≤ gb143))
                   have n6_ := Aside0.mk ((by rw [hg]; exact Nat.ne_of_lt (blk_lt (g := gb101) (bkA BK101)) : gb101 ≠ gb143))
                   have n7_ := Aside0.mk ((by rw [hg]; exact Nat.ne_of_gt (blk_lt (g := gb101) (bkA BK101)) : gb143 ≠ gb101))
                   have n8_ := Aside0.mk ((by rw [hg]; exact Nat.ne_of_lt (blk_lt (g := gb102) (bkA BK102)) : gb102 ≠ gb143))
                   have n9_ := Aside0.mk ((by rw [hg]; exact Nat.ne_of_gt (blk_lt (g := gb102) (bkA BK102)) : gb143 ≠ gb102))
                   clear BK101; clear BK102; clear HB; have BK101 := n0_; have BK102 := n1_; have HB := n2_; have BK143 := n3_; have GW143 := n4_; have GE143 := n5_; have NB101_143 := n6_; have NB143_101 := n7_; have NB102_143 := n8_; have NB143_102 := n9_; clear n0_ n1_ n2_ n3_ n4_ n5_ n6_ n7_ n8_ n9_; clear hb hbox hg
                   refine hK.out _ _ ⟨bcA BK101 0, bcA BK101 1, bcA BK101 2, bcA BK101 3, bcA BK102 0, bcA BK102 1, bcA BK102 2, bcA BK102 3⟩ (fun hHeld => ?_)
                   clear hK K
                   refine norm_ (a' := ?_) ?_ ?_
                   rotate_left
                   ·
                    show Act.put _ (some 7) _ = _
                    simp only [Act.put, List.setIfInBounds_toArray, List.set_cons_zero, List.set_cons_succ, i64_w, i32_w]
                    rfl
                   exact normA (hJ4 (gb143) _ ⟨hHeld, (bkA BK101), (bkA BK102), (bkA BK143), GW143.out, GE143.out, NB101_143.out, NB143_101.out, NB102_143.out, NB143_102.out, (hbA HB)⟩)
                  ·
                   skip
                   refine box_step ?hg (N := 8) ?hd (cs := #[.string (⟨#[]⟩ : ByteArray), .int .i64 0, .slice none 0 0, .string (⟨#[]⟩ : ByteArray)]) (t := 64) ?hr ?_; (case hd => rfl); (case hg => rfl); (case hr => first | (go_simp; done) | (go_simp; rfl))
                   intro gb144 hg w42 hbox hb
                   have n0_ := Aside0.mk (blk_below (g := gb101) (bkA BK101) hb); have n1_ := Aside0.mk (blk_below (g := gb102) (bkA BK102) hb); have n2_ := Aside0.mk (below_step (hbA HB) hb); have n3_ := Aside0.mk (hbox)
                   have n4_ := Aside0.mk ((by rw [hg]; exact (below_size (hbA HB)) : w.heap.size ≤ gb144))
                   have n5_ := Aside0.mk ((by rw [hg]; exact (below_size (hbA HB)) : w.heap.size ≤ gb144))
                   have n6_ := Aside0.mk ((by rw [hg]; exact Nat.ne_of_lt (blk_lt (g := gb101) (bkA BK101)) : gb101 ≠ gb144))
                   have n7_ := Aside0.mk ((by rw [hg]; exact Nat.ne_of_gt (blk_lt (g := gb101) (bkA BK101)) : gb144 ≠ gb101))
                   have n8_ := Aside0.mk ((by rw [hg]; exact Nat.ne_of_lt (blk_lt (g := gb102) (bkA BK102)) : gb102 ≠ gb144))
                   have n9_ := Aside0.mk ((by rw [hg]; exact Nat.ne_of_gt (blk_lt (g := gb102) (bkA BK102)) : gb144 ≠ gb102))
                   clear BK101; clear BK102; clear HB; have BK101 := n0_; have BK102 := n1_; have HB := n2_; have BK144 := n3_; have GW144 := n4_; have GE144 := n5_; have NB101_144 := n6_; have NB144_101 := n7_; have NB102_144 := n8_; have NB144_102 := n9_; clear n0_ n1_ n2_ n3_ n4_ n5_ n6_ n7_ n8_ n9_; clear hb hbox hg
                   refine hK.out _ _ ⟨bcA BK101 0, bcA BK101 1, bcA BK101 2, bcA BK101 3, bcA BK102 0, bcA BK102 1, bcA BK102 2, bcA BK102 3⟩ (fun hHeld => ?_)
                   clear hK K
                   refine norm_ (a' := ?_) ?_ ?_
                   rotate_left
                   ·
                    show Act.put _ (some 8) _ = _
                    simp only [Act.put, List.setIfInBounds_toArray, List.set_cons_zero, List.set_cons_succ, i64_w, i32_w]
                    rfl
                   exact normA (hJ5 (gb144) _ ⟨hHeld, (bkA BK101), (bkA BK102), (bkA BK144), GW144.out, GE144.out, NB101_144.out, NB144_101.out, NB102_144.out, NB144_102.out, (hbA HB)⟩)
                 ·
                  skip
                  rintro gb144 w43 ⟨hS_, h0_, h1_, h2_, h3_, h4_, h5_, h6_, h7_, h8_, h9_⟩
                  have n0_ : Aside0 (w43.heap[gb101]? = some (.cells #[.string a0_0, .int .i64 a0_1, .slice A0_2 l0_2.length c0_2, .string a0_3] 62 (0, 0))) := ⟨h0_⟩
                  have n1_ : Aside0 (w43.heap[gb102]? = some (.cells #[.string a1_0, .int .i64 a1_1, .slice A1_2 l1_2.length c1_2, .string a1_3] 62 (0, 0))) := ⟨h1_⟩
                  have n2_ : Aside0 (w43.heap[gb144]? = some (.cells #[.string (⟨#[]⟩ : ByteArray), .int .i64 0, .slice none 0 0, .string (⟨#[]⟩ : ByteArray)] 64 (0, 0))) := ⟨h2_⟩
                  have n3_ : Aside0 (w.heap.size ≤ gb144) := ⟨h3_⟩
                  have n4_ : Aside0 (w.heap.size ≤ gb144) := ⟨h4_⟩
                  have n5_ : Aside0 (gb101 ≠ gb144) := ⟨h5_⟩
                  have n6_ : Aside0 (gb144 ≠ gb101) := ⟨h6_⟩
                  have n7_ : Aside0 (gb102 ≠ gb144) := ⟨h7_⟩
                  have n8_ : Aside0 (gb144 ≠ gb102) := ⟨h8_⟩
                  have n9_ : Aside0 (Below w.heap.size w w43) := ⟨h9_⟩
                  clear BK101; clear BK102; clear HB; clear h0_ h1_ h2_ h3_ h4_ h5_ h6_ h7_ h8_ h9_; have BK101 := n0_; have BK102 := n1_; have BK144 := n2_; have GW144 := n3_; have GE144 := n4_; have NB101_144 := n5_; have NB144_101 := n6_; have NB102_144 := n7_; have NB144_102 := n8_; have HB := n9_; clear n0_ n1_ n2_ n3_ n4_ n5_ n6_ n7_ n8_ n9_
                  have hHeld : w43.cell? ⟨gb101, 0, none⟩ = some (.string a0_0) ∧ w43.cell? ⟨gb101, 1, none⟩ = some (.int .i64 a0_1) ∧ w43.cell? ⟨gb101, 2, none⟩ = some (.slice A0_2 l0_2.length c0_2) ∧ w43.cell? ⟨gb101, 3, none⟩ = some (.string a0_3) ∧ w43.cell? ⟨gb102, 0, none⟩ = some (.string a1_0) ∧ w43.cell? ⟨gb102, 1, none⟩ = some (.int .i64 a1_1) ∧ w43.cell? ⟨gb102, 2, none⟩ = some (.slice A1_2 l1_2.length c1_2) ∧ w43.cell? ⟨gb102, 3, none⟩ = some (.string a1_3) := hS_
                  refine norm_ (a' := ?_) ?_ ?_
                  rotate_left
                  ·
                   simp only [putAll, Act.put, List.setIfInBounds_toArray, List.set_cons_zero, List.set_cons_succ]
                   rfl
                  refine two_ (i := 1) (j := 4) (Ni := some 57) (Nj := some 7) #[true, true, true, false, false, true, false, false] #[true, false, true, false, true, true, false, false] rfl rfl rfl rfl (two_of HT_.out (by kernel_rfl)) (by decide) (by decide) (fun K hK => ?_) (fun K hK => ?_)
                  ·
                   skip
                   refine goes_ Try.func36 (by kernel_rfl) rfl #[.agg #[.string a0_0, .int .i64 a0_1, .slice A0_2 l0_2.length c0_2, .string a0_3]] (by rfl) rfl rfl (by (try simp only [List.map_toArray, List.map_cons, List.map_nil]); first | done | rfl | (simp only [List.length_drop, List.length_take]; rfl)) ?_
                   with_reducible refine (agatelaw07_Of.calls a0_0 a0_1 _ _ l0_2 a0_3 t137 t138 t139 _ ?side1 ?side2 A28.out).mono ?_
                   (case side1 => repeat (first | exact (Kd.C_below HR0_2.out HB.out) | (with_reducible refine Kd.C_alloc ?_ _) | (with_reducible refine Kd.C_drewN ?_ _) | (with_reducible refine Kd.C_drew ?_)))
                   (case side2 => exact HC0_2.out)
                   rintro e w44 ⟨rfl, hb⟩
                   refine ⟨_, rfl, ?_⟩
                   have n0_ := Aside0.mk (blk_below (g := gb101) (bkA BK101) hb); have n1_ := Aside0.mk (blk_below (g := gb102) (bkA BK102) hb); have n2_ := Aside0.mk (blk_below (g := gb144) (o := .cells #[.string (⟨#[]⟩ : ByteArray), .int .i64 0, .slice none 0 0, .string (⟨#[]⟩ : ByteArray)] 64 (0, 0)) (bkA BK144) hb); have n3_ := Aside0.mk (below_step (hbA HB) hb); clear BK101; clear BK102; clear BK144; clear HB; have BK101 := n0_; have BK102 := n1_; have BK144 := n2_; have HB := n3_; clear n0_ n1_ n2_ n3_; try clear hb; try clear hk
                   refine hK.out _ _ ⟨bcA BK101 0, bcA BK101 1, bcA BK101 2, bcA BK101 3, bcA BK102 0, bcA BK102 1, bcA BK102 2, bcA BK102 3⟩ (fun hHeld => ?_)
                   clear hK K
                   refine norm_ (a' := ?_) ?_ ?_
                   rotate_left
                   ·
                    show Act.put _ (some 57) _ = _
                    simp only [Act.put, List.setIfInBounds_toArray, List.set_cons_zero, List.set_cons_succ, i64_w, i32_w]
                    rfl
                   exact normA (hJ1_5 (gb144) _ ⟨hHeld, (bkA BK101), (bkA BK102), (bkA BK144), GW144.out, GE144.out, NB101_144.out, NB144_101.out, NB102_144.out, NB144_102.out, (hbA HB)⟩)
                  ·
                   skip
                   refine box_step ?hg (N := 7) ?hd (cs := #[.string (⟨#[]⟩ : ByteArray), .int .i64 0, .slice none 0 0, .string (⟨#[]⟩ : ByteArray)]) (t := 64) ?hr ?_; (case hd => rfl); (case hg => rfl); (case hr => first | (go_simp; done) | (go_simp; rfl))
                   intro gb143 hg w44 hbox hb
                   have n0_ := Aside0.mk (blk_below (g := gb101) (bkA BK101) hb); have n1_ := Aside0.mk (blk_below (g := gb102) (bkA BK102) hb); have n2_ := Aside0.mk (blk_below (g := gb144) (o := .cells #[.string (⟨#[]⟩ : ByteArray), .int .i64 0, .slice none 0 0, .string (⟨#[]⟩ : ByteArray)] 64 (0, 0)) (bkA BK144) hb); have n3_ := Aside0.mk (below_step (hbA HB) hb); have n4_ := Aside0.mk (hbox)
                   have n5_ := Aside0.mk ((by rw [hg]; exact (below_size (hbA HB)) : w.heap.size ≤ gb143))
                   have n6_ := Aside0.mk ((by rw [hg]; exact (below_size (hbA HB)) : w.heap.size ≤ gb143))
                   have n7_ := Aside0.mk ((by rw [hg]; exact Nat.ne_of_lt (blk_lt (g := gb101) (bkA BK101)) : gb101 ≠ gb143))
                   have n8_ := Aside0.mk ((by rw [hg]; exact Nat.ne_of_gt (blk_lt (g := gb101) (bkA BK101)) : gb143 ≠ gb101))
                   have n9_ := Aside0.mk ((by rw [hg]; exact Nat.ne_of_lt (blk_lt (g := gb102) (bkA BK102)) : gb102 ≠ gb143))
                   have n10_ := Aside0.mk ((by rw [hg]; exact Nat.ne_of_gt (blk_lt (g := gb102) (bkA BK102)) : gb143 ≠ gb102))
                   have n11_ := Aside0.mk ((by rw [hg]; exact Nat.ne_of_lt (blk_lt (g := gb144) (o := .cells #[.string (⟨#[]⟩ : ByteArray), .int .i64 0, .slice none 0 0, .string (⟨#[]⟩ : ByteArray)] 64 (0, 0)) (bkA BK144)) : gb144 ≠ gb143))
                   have n12_ := Aside0.mk ((by rw [hg]; exact Nat.ne_of_gt (blk_lt (g := gb144) (o := .cells #[.string (⟨#[]⟩ : ByteArray), .int .i64 0, .slice none 0 0, .string (⟨#[]⟩ : ByteArray)] 64 (0, 0)) (bkA BK144)) : gb143 ≠ gb144))
                   clear BK101; clear BK102; clear BK144; clear HB; have BK101 := n0_; have BK102 := n1_; have BK144 := n2_; have HB := n3_; have BK143 := n4_; have GW143 := n5_; have GE143 := n6_; have NB101_143 := n7_; have NB143_101 := n8_; have NB102_143 := n9_; have NB143_102 := n10_; have NB144_143 := n11_; have NB143_144 := n12_; clear n0_ n1_ n2_ n3_ n4_ n5_ n6_ n7_ n8_ n9_ n10_ n11_ n12_; clear hb hbox hg
                   refine hK.out _ _ ⟨bcA BK101 0, bcA BK101 1, bcA BK101 2, bcA BK101 3, bcA BK102 0, bcA BK102 1, bcA BK102 2, bcA BK102 3⟩ (fun hHeld => ?_)
                   clear hK K
                   refine norm_ (a' := ?_) ?_ ?_
                   rotate_left
                   ·
                    show Act.put _ (some 7) _ = _
                    simp only [Act.put, List.setIfInBounds_toArray, List.set_cons_zero, List.set_cons_succ, i64_w, i32_w]
                    rfl
                   exact normA (hJ4_5 (gb143, gb144) _ ⟨hHeld, (bkA BK101), (bkA BK102), (bkA BK143), (bkA BK144), GW143.out, GE143.out, NB101_143.out, NB143_101.out, NB102_143.out, NB143_102.out, NB144_143.out, NB143_144.out, GW144.out, GE144.out, NB101_144.out, NB144_101.out, NB102_144.out, NB144_102.out, (hbA HB)⟩)
                ·
                 skip
                 rintro gb143 w43 ⟨hS_, h0_, h1_, h2_, h3_, h4_, h5_, h6_, h7_, h8_, h9_⟩
                 have n0_ : Aside0 (w43.heap[gb101]? = some (.cells #[.string a0_0, .int .i64 a0_1, .slice A0_2 l0_2.length c0_2, .string a0_3] 62 (0, 0))) := ⟨h0_⟩
                 have n1_ : Aside0 (w43.heap[gb102]? = some (.cells #[.string a1_0, .int .i64 a1_1, .slice A1_2 l1_2.length c1_2, .string a1_3] 62 (0, 0))) := ⟨h1_⟩
                 have n2_ : Aside0 (w43.heap[gb143]? = some (.cells #[.string (⟨#[]⟩ : ByteArray), .int .i64 0, .slice none 0 0, .string (⟨#[]⟩ : ByteArray)] 64 (0, 0))) := ⟨h2_⟩
                 have n3_ : Aside0 (w.heap.size ≤ gb143) := ⟨h3_⟩
                 have n4_ : Aside0 (w.heap.size ≤ gb143) := ⟨h4_⟩
                 have n5_ : Aside0 (gb101 ≠ gb143) := ⟨h5_⟩
                 have n6_ : Aside0 (gb143 ≠ gb101) := ⟨h6_⟩
                 have n7_ : Aside0 (gb102 ≠ gb143) := ⟨h7_⟩
                 have n8_ : Aside0 (gb143 ≠ gb102) := ⟨h8_⟩
                 have n9_ : Aside0 (Below w.heap.size w w43) := ⟨h9_⟩
                 clear BK101; clear BK102; clear HB; clear h0_ h1_ h2_ h3_ h4_ h5_ h6_ h7_ h8_ h9_; have BK101 := n0_; have BK102 := n1_; have BK143 := n2_; have GW143 := n3_; have GE143 := n4_; have NB101_143 := n5_; have NB143_101 := n6_; have NB102_143 := n7_; have NB143_102 := n8_; have HB := n9_; clear n0_ n1_ n2_ n3_ n4_ n5_ n6_ n7_ n8_ n9_
                 have hHeld : w43.cell? ⟨gb101, 0, none⟩ = some (.string a0_0) ∧ w43.cell? ⟨gb101, 1, none⟩ = some (.int .i64 a0_1) ∧ w43.cell? ⟨gb101, 2, none⟩ = some (.slice A0_2 l0_2.length c0_2) ∧ w43.cell? ⟨gb101, 3, none⟩ = some (.string a0_3) ∧ w43.cell? ⟨gb102, 0, none⟩ = some (.string a1_0) ∧ w43.cell? ⟨gb102, 1, none⟩ = some (.int .i64 a1_1) ∧ w43.cell? ⟨gb102, 2, none⟩ = some (.slice A1_2 l1_2.length c1_2) ∧ w43.cell? ⟨gb102, 3, none⟩ = some (.string a1_3) := hS_
                 refine norm_ (a' := ?_) ?_ ?_
                 rotate_left
                 ·
                  simp only [putAll, Act.put, List.setIfInBounds_toArray, List.set_cons_zero, List.set_cons_succ]
                  rfl
                 refine two_ (i := 1) (j := 5) (Ni := some 57) (Nj := some 8) #[true, true, true, false, true, false, false, false] #[true, false, true, false, true, true, false, false] rfl rfl rfl rfl (two_of HT_.out (by kernel_rfl)) (by decide) (by decide) (fun K hK => ?_) (fun K hK => ?_)
                 ·
                  skip
                  refine goes_ Try.func36 (by kernel_rfl) rfl #[.agg #[.string a0_0, .int .i64 a0_1, .slice A0_2 l0_2.length c0_2, .string a0_3]] (by rfl) rfl rfl (by (try simp only [List.map_toArray, List.map_cons, List.map_nil]); first | done | rfl | (simp only [List.length_drop, List.length_take]; rfl)) ?_
                  with_reducible refine (agatelaw07_Of.calls a0_0 a0_1 _ _ l0_2 a0_3 t137 t138 t139 _ ?side1 ?side2 A28.out).mono ?_
                  (case side1 => repeat (first | exact (Kd.C_below HR0_2.out HB.out) | (with_reducible refine Kd.C_alloc ?_ _) | (with_reducible refine Kd.C_drewN ?_ _) | (with_reducible refine Kd.C_drew ?_)))
                  (case side2 => exact HC0_2.out)
                  rintro e w44 ⟨rfl, hb⟩
                  refine ⟨_, rfl, ?_⟩
                  have n0_ := Aside0.mk (blk_below (g := gb101) (bkA BK101) hb); have n1_ := Aside0.mk (blk_below (g := gb102) (bkA BK102) hb); have n2_ := Aside0.mk (blk_below (g := gb143) (o := .cells #[.string (⟨#[]⟩ : ByteArray), .int .i64 0, .slice none 0 0, .string (⟨#[]⟩ : ByteArray)] 64 (0, 0)) (bkA BK143) hb); have n3_ := Aside0.mk (below_step (hbA HB) hb); clear BK101; clear BK102; clear BK143; clear HB; have BK101 := n0_; have BK102 := n1_; have BK143 := n2_; have HB := n3_; clear n0_ n1_ n2_ n3_; try clear hb; try clear hk
                  refine hK.out _ _ ⟨bcA BK101 0, bcA BK101 1, bcA BK101 2, bcA BK101 3, bcA BK102 0, bcA BK102 1, bcA BK102 2, bcA BK102 3⟩ (fun hHeld => ?_)
                  clear hK K
                  refine norm_ (a' := ?_) ?_ ?_
                  rotate_left
                  ·
                   show Act.put _ (some 57) _ = _
                   simp only [Act.put, List.setIfInBounds_toArray, List.set_cons_zero, List.set_cons_succ, i64_w, i32_w]
                   rfl
                  exact normA (hJ1_4 (gb143) _ ⟨hHeld, (bkA BK101), (bkA BK102), (bkA BK143), GW143.out, GE143.out, NB101_143.out, NB143_101.out, NB102_143.out, NB143_102.out, (hbA HB)⟩)
                 ·
                  skip
                  refine box_step ?hg (N := 8) ?hd (cs := #[.string (⟨#[]⟩ : ByteArray), .int .i64 0, .slice none 0 0, .string (⟨#[]⟩ : ByteArray)]) (t := 64) ?hr ?_; (case hd => rfl); (case hg => rfl); (case hr => first | (go_simp; done) | (go_simp; rfl))
                  intro gb144 hg w44 hbox hb
                  have n0_ := Aside0.mk (blk_below (g := gb101) (bkA BK101) hb); have n1_ := Aside0.mk (blk_below (g := gb102) (bkA BK102) hb); have n2_ := Aside0.mk (blk_below (g := gb143) (o := .cells #[.string (⟨#[]⟩ : ByteArray), .int .i64 0, .slice none 0 0, .string (⟨#[]⟩ : ByteArray)] 64 (0, 0)) (bkA BK143) hb); have n3_ := Aside0.mk (below_step (hbA HB) hb); have n4_ := Aside0.mk (hbox)
                  have n5_ := Aside0.mk ((by rw [hg]; exact (below_size (hbA HB)) : w.heap.size ≤ gb144))
                  have n6_ := Aside0.mk ((by rw [hg]; exact (below_size (hbA HB)) : w.heap.size ≤ gb144))
                  have n7_ := Aside0.mk ((by rw [hg]; exact Nat.ne_of_lt (blk_lt (g := gb101) (bkA BK101)) : gb101 ≠ gb144))
                  have n8_ := Aside0.mk ((by rw [hg]; exact Nat.ne_of_gt (blk_lt (g := gb101) (bkA BK101)) : gb144 ≠ gb101))
                  have n9_ := Aside0.mk ((by rw [hg]; exact Nat.ne_of_lt (blk_lt (g := gb102) (bkA BK102)) : gb102 ≠ gb144))
                  have n10_ := Aside0.mk ((by rw [hg]; exact Nat.ne_of_gt (blk_lt (g := gb102) (bkA BK102)) : gb144 ≠ gb102))
                  have n11_ := Aside0.mk ((by rw [hg]; exact Nat.ne_of_lt (blk_lt (g := gb143) (o := .cells #[.string (⟨#[]⟩ : ByteArray), .int .i64 0, .slice none 0 0, .string (⟨#[]⟩ : ByteArray)] 64 (0, 0)) (bkA BK143)) : gb143 ≠ gb144))
                  have n12_ := Aside0.mk ((by rw [hg]; exact Nat.ne_of_gt (blk_lt (g := gb143) (o := .cells #[.string (⟨#[]⟩ : ByteArray), .int .i64 0, .slice none 0 0, .string (⟨#[]⟩ : ByteArray)] 64 (0, 0)) (bkA BK143)) : gb144 ≠ gb143))
                  clear BK101; clear BK102; clear BK143; clear HB; have BK101 := n0_; have BK102 := n1_; have BK143 := n2_; have HB := n3_; have BK144 := n4_; have GW144 := n5_; have GE144 := n6_; have NB101_144 := n7_; have NB144_101 := n8_; have NB102_144 := n9_; have NB144_102 := n10_; have NB143_144 := n11_; have NB144_143 := n12_; clear n0_ n1_ n2_ n3_ n4_ n5_ n6_ n7_ n8_ n9_ n10_ n11_ n12_; clear hb hbox hg
                  refine hK.out _ _ ⟨bcA BK101 0, bcA BK101 1, bcA BK101 2, bcA BK101 3, bcA BK102 0, bcA BK102 1, bcA BK102 2, bcA BK102 3⟩ (fun hHeld => ?_)
                  clear hK K
                  refine norm_ (a' := ?_) ?_ ?_
                  rotate_left
                  ·
                   show Act.put _ (some 8) _ = _
                   simp only [Act.put, List.setIfInBounds_toArray, List.set_cons_zero, List.set_cons_succ, i64_w, i32_w]
                   rfl
                  exact normA (hJ4_5 (gb143, gb144) _ ⟨hHeld, (bkA BK101), (bkA BK102), (bkA BK143), (bkA BK144), GW143.out, GE143.out, NB101_143.out, NB143_101.out, NB102_143.out, NB143_102.out, NB144_143.out, NB143_144.out, GW144.out, GE144.out, NB101_144.out, NB144_101.out, NB102_144.out, NB144_102.out, (hbA HB)⟩)
               ·
                skip
                rintro _ w43 ⟨hS_, h0_, h1_, h2_⟩
                have n0_ : Aside0 (w43.heap[gb101]? = some (.cells #[.string a0_0, .int .i64 a0_1, .slice A0_2 l0_2.length c0_2, .string a0_3] 62 (0, 0))) := ⟨h0_⟩
                have n1_ : Aside0 (w43.heap[gb102]? = some (.cells #[.string a1_0, .int .i64 a1_1, .slice A1_2 l1_2.length c1_2, .string a1_3] 62 (0, 0))) := ⟨h1_⟩
                have n2_ : Aside0 (Below w.heap.size w w43) := ⟨h2_⟩
                clear BK101; clear BK102; clear HB; clear h0_ h1_ h2_; have BK101 := n0_; have BK102 := n1_; have HB := n2_; clear n0_ n1_ n2_
                have hHeld : w43.cell? ⟨gb101, 0, none⟩ = some (.string a0_0) ∧ w43.cell? ⟨gb101, 1, none⟩ = some (.int .i64 a0_1) ∧ w43.cell? ⟨gb101, 2, none⟩ = some (.slice A0_2 l0_2.length c0_2) ∧ w43.cell? ⟨gb101, 3, none⟩ = some (.string a0_3) ∧ w43.cell? ⟨gb102, 0, none⟩ = some (.string a1_0) ∧ w43.cell? ⟨gb102, 1, none⟩ = some (.int .i64 a1_1) ∧ w43.cell? ⟨gb102, 2, none⟩ = some (.slice A1_2 l1_2.length c1_2) ∧ w43.cell? ⟨gb102, 3, none⟩ = some (.string a1_3) := hS_
                refine norm_ (a' := ?_) ?_ ?_
                rotate_left
                ·
                 simp only [putAll, Act.put, List.setIfInBounds_toArray, List.set_cons_zero, List.set_cons_succ]
                 rfl
                refine three_ (i := 3) (j := 4) (k := 5) (Ni := some 59) (Nj := some 7) (Nk := some 8) #[true, true, true, true, false, false, false, false] #[true, true, true, false, true, false, false, false] #[true, true, true, false, false, true, false, false] rfl rfl rfl rfl rfl rfl (three_of HT_.out (by kernel_rfl)) (by decide) (by decide) (by decide) (fun K hK => ?_) (fun K hK => ?_) (fun K hK => ?_)
                ·
                 skip
                 refine goes_ Try.func36 (by kernel_rfl) rfl #[.agg #[.string a1_0, .int .i64 a1_1, .slice A1_2 l1_2.length c1_2, .string a1_3]] (by rfl) rfl rfl (by (try simp only [List.map_toArray, List.map_cons, List.map_nil]); first | done | rfl | (simp only [List.length_drop, List.length_take]; rfl)) ?_
                 with_reducible refine (agatelaw07_Of.calls a1_0 a1_1 _ _ l1_2 a1_3 t140 t141 t142 _ ?side1 ?side2 A29.out).mono ?_
                 (case side1 => repeat (first | exact (Kd.C_below HR1_2.out HB.out) | (with_reducible refine Kd.C_alloc ?_ _) | (with_reducible refine Kd.C_drewN ?_ _) | (with_reducible refine Kd.C_drew ?_)))
                 (case side2 => exact HC1_2.out)
                 rintro e w44 ⟨rfl, hb⟩
                 refine ⟨_, rfl, ?_⟩
                 have n0_ := Aside0.mk (blk_below (g := gb101) (bkA BK101) hb); have n1_ := Aside0.mk (blk_below (g := gb102) (bkA BK102) hb); have n2_ := Aside0.mk (below_step (hbA HB) hb); clear BK101; clear BK102; clear HB; have BK101 := n0_; have BK102 := n1_; have HB := n2_; clear n0_ n1_ n2_; try clear hb; try clear hk
                 refine hK.out _ _ ⟨bcA BK101 0, bcA BK101 1, bcA BK101 2, bcA BK101 3, bcA BK102 0, bcA BK102 1, bcA BK102 2, bcA BK102 3⟩ (fun hHeld => ?_)
                 clear hK K
                 refine norm_ (a' := ?_) ?_ ?_
                 rotate_left
                 ·
                  show Act.put _ (some 59) _ = _
                  simp only [Act.put, List.setIfInBounds_toArray, List.set_cons_zero, List.set_cons_succ, i64_w, i32_w]
                  rfl
                 exact normA (hJ1_3 () _ ⟨hHeld, (bkA BK101), (bkA BK102), (hbA HB)⟩)
                ·
                 skip
                 refine box_step ?hg (N := 7) ?hd (cs := #[.string (⟨#[]⟩ : ByteArray), .int .i64 0, .slice none 0 0, .string (⟨#[]⟩ : ByteArray)]) (t := 64) ?hr ?_; (case hd => rfl); (case hg => rfl); (case hr => first | (go_simp; done) | (go_simp; rfl))
                 intro gb143 hg w44 hbox hb
                 have n0_ := Aside0.mk (blk_below (g := gb101) (bkA BK101) hb); have n1_ := Aside0.mk (blk_below (g := gb102) (bkA BK102) hb); have n2_ := Aside0.mk (below_step (hbA HB) hb); have n3_ := Aside0.mk (hbox)
                 have n4_ := Aside0.mk ((by rw [hg]; exact (below_size (hbA HB)) : w.heap.size ≤ gb143))
                 have n5_ := Aside0.mk ((by rw [hg]; exact (below_size (hbA HB)) : w.heap.size ≤ gb143))
                 have n6_ := Aside0.mk ((by rw [hg]; exact Nat.ne_of_lt (blk_lt (g := gb101) (bkA BK101)) : gb101 ≠ gb143))
                 have n7_ := Aside0.mk ((by rw [hg]; exact Nat.ne_of_gt (blk_lt (g := gb101) (bkA BK101)) : gb143 ≠ gb101))
                 have n8_ := Aside0.mk ((by rw [hg]; exact Nat.ne_of_lt (blk_lt (g := gb102) (bkA BK102)) : gb102 ≠ gb143))
                 have n9_ := Aside0.mk ((by rw [hg]; exact Nat.ne_of_gt (blk_lt (g := gb102) (bkA BK102)) : gb143 ≠ gb102))
                 clear BK101; clear BK102; clear HB; have BK101 := n0_; have BK102 := n1_; have HB := n2_; have BK143 := n3_; have GW143 := n4_; have GE143 := n5_; have NB101_143 := n6_; have NB143_101 := n7_; have NB102_143 := n8_; have NB143_102 := n9_; clear n0_ n1_ n2_ n3_ n4_ n5_ n6_ n7_ n8_ n9_; clear hb hbox hg
                 refine hK.out _ _ ⟨bcA BK101 0, bcA BK101 1, bcA BK101 2, bcA BK101 3, bcA BK102 0, bcA BK102 1, bcA BK102 2, bcA BK102 3⟩ (fun hHeld => ?_)
                 clear hK K
                 refine norm_ (a' := ?_) ?_ ?_
                 rotate_left
                 ·
                  show Act.put _ (some 7) _ = _
                  simp only [Act.put, List.setIfInBounds_toArray, List.set_cons_zero, List.set_cons_succ, i64_w, i32_w]
                  rfl
                 exact normA (hJ1_4 (gb143) _ ⟨hHeld, (bkA BK101), (bkA BK102), (bkA BK143), GW143.out, GE143.out, NB101_143.out, NB143_101.out, NB102_143.out, NB143_102.out, (hbA HB)⟩)
                ·
                 skip
                 refine box_step ?hg (N := 8) ?hd (cs := #[.string (⟨#[]⟩ : ByteArray), .int .i64 0, .slice none 0 0, .string (⟨#[]⟩ : ByteArray)]) (t := 64) ?hr ?_; (case hd => rfl); (case hg => rfl); (case hr => first | (go_simp; done) | (go_simp; rfl))
                 intro gb144 hg w44 hbox hb
                 have n0_ := Aside0.mk (blk_below (g := gb101) (bkA BK101) hb); have n1_ := Aside0.mk (blk_below (g := gb102) (bkA BK102) hb); have n2_ := Aside0.mk (below_step (hbA HB) hb); have n3_ := Aside0.mk (hbox)
                 have n4_ := Aside0.mk ((by rw [hg]; exact (below_size (hbA HB)) : w.heap.size ≤ gb144))
                 have n5_ := Aside0.mk ((by rw [hg]; exact (below_size (hbA HB)) : w.heap.size ≤ gb144))
                 have n6_ := Aside0.mk ((by rw [hg]; exact Nat.ne_of_lt (blk_lt (g := gb101) (bkA BK101)) : gb101 ≠ gb144))
                 have n7_ := Aside0.mk ((by rw [hg]; exact Nat.ne_of_gt (blk_lt (g := gb101) (bkA BK101)) : gb144 ≠ gb101))
                 have n8_ := Aside0.mk ((by rw [hg]; exact Nat.ne_of_lt (blk_lt (g := gb102) (bkA BK102)) : gb102 ≠ gb144))
                 have n9_ := Aside0.mk ((by rw [hg]; exact Nat.ne_of_gt (blk_lt (g := gb102) (bkA BK102)) : gb144 ≠ gb102))
                 clear BK101; clear BK102; clear HB; have BK101 := n0_; have BK102 := n1_; have HB := n2_; have BK144 := n3_; have GW144 := n4_; have GE144 := n5_; have NB101_144 := n6_; have NB144_101 := n7_; have NB102_144 := n8_; have NB144_102 := n9_; clear n0_ n1_ n2_ n3_ n4_ n5_ n6_ n7_ n8_ n9_; clear hb hbox hg
                 refine hK.out _ _ ⟨bcA BK101 0, bcA BK101 1, bcA BK101 2, bcA BK101 3, bcA BK102 0, bcA BK102 1, bcA BK102 2, bcA BK102 3⟩ (fun hHeld => ?_)
                 clear hK K
                 refine norm_ (a' := ?_) ?_ ?_
                 rotate_left
                 ·
                  show Act.put _ (some 8) _ = _
                  simp only [Act.put, List.setIfInBounds_toArray, List.set_cons_zero, List.set_cons_succ, i64_w, i32_w]
                  rfl
                 exact normA (hJ1_5 (gb144) _ ⟨hHeld, (bkA BK101), (bkA BK102), (bkA BK144), GW144.out, GE144.out, NB101_144.out, NB144_101.out, NB102_144.out, NB144_102.out, (hbA HB)⟩)
              ·
               skip
               rintro ⟨gb143, gb144⟩ w44 ⟨hS_, h0_, h1_, h2_, h3_, h4_, h5_, h6_, h7_, h8_, h9_, h10_, h11_, h12_, h13_, h14_, h15_, h16_, h17_, h18_⟩
               have n0_ : Aside0 (w44.heap[gb101]? = some (.cells #[.string a0_0, .int .i64 a0_1, .slice A0_2 l0_2.length c0_2, .string a0_3] 62 (0, 0))) := ⟨h0_⟩
               have n1_ : Aside0 (w44.heap[gb102]? = some (.cells #[.string a1_0, .int .i64 a1_1, .slice A1_2 l1_2.length c1_2, .string a1_3] 62 (0, 0))) := ⟨h1_⟩
               have n2_ : Aside0 (w44.heap[gb143]? = some (.cells #[.string (⟨#[]⟩ : ByteArray), .int .i64 0, .slice none 0 0, .string (⟨#[]⟩ : ByteArray)] 64 (0, 0))) := ⟨h2_⟩
               have n3_ : Aside0 (w44.heap[gb144]? = some (.cells #[.string (⟨#[]⟩ : ByteArray), .int .i64 0, .slice none 0 0, .string (⟨#[]⟩ : ByteArray)] 64 (0, 0))) := ⟨h3_⟩
               have n4_ : Aside0 (w.heap.size ≤ gb143) := ⟨h4_⟩
               have n5_ : Aside0 (w.heap.size ≤ gb143) := ⟨h5_⟩
               have n6_ : Aside0 (gb101 ≠ gb143) := ⟨h6_⟩
               have n7_ : Aside0 (gb143 ≠ gb101) := ⟨h7_⟩
               have n8_ : Aside0 (gb102 ≠ gb143) := ⟨h8_⟩
               have n9_ : Aside0 (gb143 ≠ gb102) := ⟨h9_⟩
               have n10_ : Aside0 (gb144 ≠ gb143) := ⟨h10_⟩
               have n11_ : Aside0 (gb143 ≠ gb144) := ⟨h11_⟩
               have n12_ : Aside0 (w.heap.size ≤ gb144) := ⟨h12_⟩
               have n13_ : Aside0 (w.heap.size ≤ gb144) := ⟨h13_⟩
               have n14_ : Aside0 (gb101 ≠ gb144) := ⟨h14_⟩
               have n15_ : Aside0 (gb144 ≠ gb101) := ⟨h15_⟩
               have n16_ : Aside0 (gb102 ≠ gb144) := ⟨h16_⟩
               have n17_ : Aside0 (gb144 ≠ gb102) := ⟨h17_⟩
               have n18_ : Aside0 (Below w.heap.size w w44) := ⟨h18_⟩
               clear BK101; clear BK102; clear HB; clear h0_ h1_ h2_ h3_ h4_ h5_ h6_ h7_ h8_ h9_ h10_ h11_ h12_ h13_ h14_ h15_ h16_ h17_ h18_; have BK101 := n0_; have BK102 := n1_; have BK143 := n2_; have BK144 := n3_; have GW143 := n4_; have GE143 := n5_; have NB101_143 := n6_; have NB143_101 := n7_; have NB102_143 := n8_; have NB143_102 := n9_; have NB144_143 := n10_; have NB143_144 := n11_; have GW144 := n12_; have GE144 := n13_; have NB101_144 := n14_; have NB144_101 := n15_; have NB102_144 := n16_; have NB144_102 := n17_; have HB := n18_; clear n0_ n1_ n2_ n3_ n4_ n5_ n6_ n7_ n8_ n9_ n10_ n11_ n12_ n13_ n14_ n15_ n16_ n17_ n18_
               have hHeld : w44.cell? ⟨gb101, 0, none⟩ = some (.string a0_0) ∧ w44.cell? ⟨gb101, 1, none⟩ = some (.int .i64 a0_1) ∧ w44.cell? ⟨gb101, 2, none⟩ = some (.slice A0_2 l0_2.length c0_2) ∧ w44.cell? ⟨gb101, 3, none⟩ = some (.string a0_3) ∧ w44.cell? ⟨gb102, 0, none⟩ = some (.string a1_0) ∧ w44.cell? ⟨gb102, 1, none⟩ = some (.int .i64 a1_1) ∧ w44.cell? ⟨gb102, 2, none⟩ = some (.slice A1_2 l1_2.length c1_2) ∧ w44.cell? ⟨gb102, 3, none⟩ = some (.string a1_3) := hS_
               refine norm_ (a' := ?_) ?_ ?_
               rotate_left
               ·
                simp only [putAll, Act.put, List.setIfInBounds_toArray, List.set_cons_zero, List.set_cons_succ]
                rfl
               refine one_ (i := 1) (N := some 57) #[true, true, true, false, true, true, false, false] rfl rfl (one_of HT_.out (by kernel_rfl)) (by decide) (fun K hK => ?_)
               refine goes_ Try.func36 (by kernel_rfl) rfl #[.agg #[.string a0_0, .int .i64 a0_1, .slice A0_2 l0_2.length c0_2, .string a0_3]] (by rfl) rfl rfl (by (try simp only [List.map_toArray, List.map_cons, List.map_nil]); first | done | rfl | (simp only [List.length_drop, List.length_take]; rfl)) ?_
               with_reducible refine (agatelaw07_Of.calls a0_0 a0_1 _ _ l0_2 a0_3 t137 t138 t139 _ ?side1 ?side2 A28.out).mono ?_
               (case side1 => repeat (first | exact (Kd.C_below HR0_2.out HB.out) | (with_reducible refine Kd.C_alloc ?_ _) | (with_reducible refine Kd.C_drewN ?_ _) | (with_reducible refine Kd.C_drew ?_)))
               (case side2 => exact HC0_2.out)
               rintro e w45 ⟨rfl, hb⟩
               refine ⟨_, rfl, ?_⟩
               have n0_ := Aside0.mk (blk_below (g := gb101) (bkA BK101) hb); have n1_ := Aside0.mk (blk_below (g := gb102) (bkA BK102) hb); have n2_ := Aside0.mk (blk_below (g := gb143) (o := .cells #[.string (⟨#[]⟩ : ByteArray), .int .i64 0, .slice none 0 0, .string (⟨#[]⟩ : ByteArray)] 64 (0, 0)) (bkA BK143) hb); have n3_ := Aside0.mk (blk_below (g := gb144) (o := .cells #[.string (⟨#[]⟩ : ByteArray), .int .i64 0, .slice none 0 0, .string (⟨#[]⟩ : ByteArray)] 64 (0, 0)) (bkA BK144) hb); have n4_ := Aside0.mk (below_step (hbA HB) hb); clear BK101; clear BK102; clear BK143; clear BK144; clear HB; have BK101 := n0_; have BK102 := n1_; have BK143 := n2_; have BK144 := n3_; have HB := n4_; clear n0_ n1_ n2_ n3_ n4_; try clear hb; try clear hk
               refine hK.out _ _ ⟨bcA BK101 0, bcA BK101 1, bcA BK101 2, bcA BK101 3, bcA BK102 0, bcA BK102 1, bcA BK102 2, bcA BK102 3⟩ (fun hHeld => ?_)
               clear hK K
               refine norm_ (a' := ?_) ?_ ?_
               rotate_left
               ·
                show Act.put _ (some 57) _ = _
                simp only [Act.put, List.setIfInBounds_toArray, List.set_cons_zero, List.set_cons_succ, i64_w, i32_w]
                rfl
               exact normA (hJ1_4_5 (gb143, gb144) _ ⟨hHeld, (bkA BK101), (bkA BK102), (bkA BK143), (bkA BK144), GW143.out, GE143.out, NB101_143.out, NB143_101.out, NB102_143.out, NB143_102.out, NB144_143.out, NB143_144.out, GW144.out, GE144.out, NB101_144.out, NB144_101.out, NB102_144.out, NB144_102.out, (hbA HB)⟩)
             ·
              skip
              rintro gb144 w44 ⟨hS_, h0_, h1_, h2_, h3_, h4_, h5_, h6_, h7_, h8_, h9_⟩
              have n0_ : Aside0 (w44.heap[gb101]? = some (.cells #[.string a0_0, .int .i64 a0_1, .slice A0_2 l0_2.length c0_2, .string a0_3] 62 (0, 0))) := ⟨h0_⟩
              have n1_ : Aside0 (w44.heap[gb102]? = some (.cells #[.string a1_0, .int .i64 a1_1, .slice A1_2 l1_2.length c1_2, .string a1_3] 62 (0, 0))) := ⟨h1_⟩
              have n2_ : Aside0 (w44.heap[gb144]? = some (.cells #[.string (⟨#[]⟩ : ByteArray), .int .i64 0, .slice none 0 0, .string (⟨#[]⟩ : ByteArray)] 64 (0, 0))) := ⟨h2_⟩
              have n3_ : Aside0 (w.heap.size ≤ gb144) := ⟨h3_⟩
              have n4_ : Aside0 (w.heap.size ≤ gb144) := ⟨h4_⟩
              have n5_ : Aside0 (gb101 ≠ gb144) := ⟨h5_⟩
              have n6_ : Aside0 (gb144 ≠ gb101) := ⟨h6_⟩
              have n7_ : Aside0 (gb102 ≠ gb144) := ⟨h7_⟩
              have n8_ : Aside0 (gb144 ≠ gb102) := ⟨h8_⟩
              have n9_ : Aside0 (Below w.heap.size w w44) := ⟨h9_⟩
              clear BK101; clear BK102; clear HB; clear h0_ h1_ h2_ h3_ h4_ h5_ h6_ h7_ h8_ h9_; have BK101 := n0_; have BK102 := n1_; have BK144 := n2_; have GW144 := n3_; have GE144 := n4_; have NB101_144 := n5_; have NB144_101 := n6_; have NB102_144 := n7_; have NB144_102 := n8_; have HB := n9_; clear n0_ n1_ n2_ n3_ n4_ n5_ n6_ n7_ n8_ n9_
              have hHeld : w44.cell? ⟨gb101, 0, none⟩ = some (.string a0_0) ∧ w44.cell? ⟨gb101, 1, none⟩ = some (.int .i64 a0_1) ∧ w44.cell? ⟨gb101, 2, none⟩ = some (.slice A0_2 l0_2.length c0_2) ∧ w44.cell? ⟨gb101, 3, none⟩ = some (.string a0_3) ∧ w44.cell? ⟨gb102, 0, none⟩ = some (.string a1_0) ∧ w44.cell? ⟨gb102, 1, none⟩ = some (.int .i64 a1_1) ∧ w44.cell? ⟨gb102, 2, none⟩ = some (.slice A1_2 l1_2.length c1_2) ∧ w44.cell? ⟨gb102, 3, none⟩ = some (.string a1_3) := hS_
              refine norm_ (a' := ?_) ?_ ?_
              rotate_left
              ·
               simp only [putAll, Act.put, List.setIfInBounds_toArray, List.set_cons_zero, List.set_cons_succ]
               rfl
              refine two_ (i := 3) (j := 4) (Ni := some 59) (Nj := some 7) #[true, true, true, true, false, true, false, false] #[true, true, true, false, true, true, false, false] rfl rfl rfl rfl (two_of HT_.out (by kernel_rfl)) (by decide) (by decide) (fun K hK => ?_) (fun K hK => ?_)
              ·
               skip
               refine goes_ Try.func36 (by kernel_rfl) rfl #[.agg #[.string a1_0, .int .i64 a1_1, .slice A1_2 l1_2.length c1_2, .string a1_3]] (by rfl) rfl rfl (by (try simp only [List.map_toArray, List.map_cons, List.map_nil]); first | done | rfl | (simp only [List.length_drop, List.length_take]; rfl)) ?_
               with_reducible refine (agatelaw07_Of.calls a1_0 a1_1 _ _ l1_2 a1_3 t140 t141 t142 _ ?side1 ?side2 A29.out).mono ?_
               (case side1 => repeat (first | exact (Kd.C_below HR1_2.out HB.out) | (with_reducible refine Kd.C_alloc ?_ _) | (with_reducible refine Kd.C_drewN ?_ _) | (with_reducible refine Kd.C_drew ?_)))
               (case side2 => exact HC1_2.out)
               rintro e w45 ⟨rfl, hb⟩
               refine ⟨_, rfl, ?_⟩
               have n0_ := Aside0.mk (blk_below (g := gb101) (bkA BK101) hb); have n1_ := Aside0.mk (blk_below (g := gb102) (bkA BK102) hb); have n2_ := Aside0.mk (blk_below (g := gb144) (o := .cells #[.string (⟨#[]⟩ : ByteArray), .int .i64 0, .slice none 0 0, .string (⟨#[]⟩ : ByteArray)] 64 (0, 0)) (bkA BK144) hb); have n3_ := Aside0.mk (below_step (hbA HB) hb); clear BK101; clear BK102; clear BK144; clear HB; have BK101 := n0_; have BK102 := n1_; have BK144 := n2_; have HB := n3_; clear n0_ n1_ n2_ n3_; try clear hb; try clear hk
               refine hK.out _ _ ⟨bcA BK101 0, bcA BK101 1, bcA BK101 2, bcA BK101 3, bcA BK102 0, bcA BK102 1, bcA BK102 2, bcA BK102 3⟩ (fun hHeld => ?_)
               clear hK K
               refine norm_ (a' := ?_) ?_ ?_
               rotate_left
               ·
                show Act.put _ (some 59) _ = _
                simp only [Act.put, List.setIfInBounds_toArray, List.set_cons_zero, List.set_cons_succ, i64_w, i32_w]
                rfl
               exact normA (hJ1_3_5 (gb144) _ ⟨hHeld, (bkA BK101), (bkA BK102), (bkA BK144), GW144.out, GE144.out, NB101_144.out, NB144_101.out, NB102_144.out, NB144_102.out, (hbA HB)⟩)
              ·
               skip
               refine box_step ?hg (N := 7) ?hd (cs := #[.string (⟨#[]⟩ : ByteArray), .int .i64 0, .slice none 0 0, .string (⟨#[]⟩ : ByteArray)]) (t := 64) ?hr ?_; (case hd => rfl); (case hg => rfl); (case hr => first | (go_simp; done) | (go_simp; rfl))
               intro gb143 hg w45 hbox hb
               have n0_ := Aside0.mk (blk_below (g := gb101) (bkA BK101) hb); have n1_ := Aside0.mk (blk_below (g := gb102) (bkA BK102) hb); have n2_ := Aside0.mk (blk_below (g := gb144) (o := .cells #[.string (⟨#[]⟩ : ByteArray), .int .i64 0, .slice none 0 0, .string (⟨#[]⟩ : ByteArray)] 64 (0, 0)) (bkA BK144) hb); have n3_ := Aside0.mk (below_step (hbA HB) hb); have n4_ := Aside0.mk (hbox)
               have n5_ := Aside0.mk ((by rw [hg]; exact (below_size (hbA HB)) : w.heap.size ≤ gb143))
               have n6_ := Aside0.mk ((by rw [hg]; exact (below_size (hbA HB)) : w.heap.size ≤ gb143))
               have n7_ := Aside0.mk ((by rw [hg]; exact Nat.ne_of_lt (blk_lt (g := gb101) (bkA BK101)) : gb101 ≠ gb143))
               have n8_ := Aside0.mk ((by rw [hg]; exact Nat.ne_of_gt (blk_lt (g := gb101) (bkA BK101)) : gb143 ≠ gb101))
               have n9_ := Aside0.mk ((by rw [hg]; exact Nat.ne_of_lt (blk_lt (g := gb102) (bkA BK102)) : gb102 ≠ gb143))
               have n10_ := Aside0.mk ((by rw [hg]; exact Nat.ne_of_gt (blk_lt (g := gb102) (bkA BK102)) : gb143 ≠ gb102))
               have n11_ := Aside0.mk ((by rw [hg]; exact Nat.ne_of_lt (blk_lt (g := gb144) (o := .cells #[.string (⟨#[]⟩ : ByteArray), .int .i64 0, .slice none 0 0, .string (⟨#[]⟩ : ByteArray)] 64 (0, 0)) (bkA BK144)) : gb144 ≠ gb143))
               have n12_ := Aside0.mk ((by rw [hg]; exact Nat.ne_of_gt (blk_lt (g := gb144) (o := .cells #[.string (⟨#[]⟩ : ByteArray), .int .i64 0, .slice none 0 0, .string (⟨#[]⟩ : ByteArray)] 64 (0, 0)) (bkA BK144)) : gb143 ≠ gb144))
               clear BK101; clear BK102; clear BK144; clear HB; have BK101 := n0_; have BK102 := n1_; have BK144 := n2_; have HB := n3_; have BK143 := n4_; have GW143 := n5_; have GE143 := n6_; have NB101_143 := n7_; have NB143_101 := n8_; have NB102_143 := n9_; have NB143_102 := n10_; have NB144_143 := n11_; have NB143_144 := n12_; clear n0_ n1_ n2_ n3_ n4_ n5_ n6_ n7_ n8_ n9_ n10_ n11_ n12_; clear hb hbox hg
               refine hK.out _ _ ⟨bcA BK101 0, bcA BK101 1, bcA BK101 2, bcA BK101 3, bcA BK102 0, bcA BK102 1, bcA BK102 2, bcA BK102 3⟩ (fun hHeld => ?_)
               clear hK K
               refine norm_ (a' := ?_) ?_ ?_
               rotate_left
               ·
                show Act.put _ (some 7) _ = _
                simp only [Act.put, List.setIfInBounds_toArray, List.set_cons_zero, List.set_cons_succ, i64_w, i32_w]
                rfl
               exact normA (hJ1_4_5 (gb143, gb144) _ ⟨hHeld, (bkA BK101), (bkA BK102), (bkA BK143), (bkA BK144), GW143.out, GE143.out, NB101_143.out, NB143_101.out, NB102_143.out, NB143_102.out, NB144_143.out, NB143_144.out, GW144.out, GE144.out, NB101_144.out, NB144_101.out, NB102_144.out, NB144_102.out, (hbA HB)⟩)
            ·
             skip
             rintro gb143 w44 ⟨hS_, h0_, h1_, h2_, h3_, h4_, h5_, h6_, h7_, h8_, h9_⟩
             have n0_ : Aside0 (w44.heap[gb101]? = some (.cells #[.string a0_0, .int .i64 a0_1, .slice A0_2 l0_2.length c0_2, .string a0_3] 62 (0, 0))) := ⟨h0_⟩
             have n1_ : Aside0 (w44.heap[gb102]? = some (.cells #[.string a1_0, .int .i64 a1_1, .slice A1_2 l1_2.length c1_2, .string a1_3] 62 (0, 0))) := ⟨h1_⟩
             have n2_ : Aside0 (w44.heap[gb143]? = some (.cells #[.string (⟨#[]⟩ : ByteArray), .int .i64 0, .slice none 0 0, .string (⟨#[]⟩ : ByteArray)] 64 (0, 0))) := ⟨h2_⟩
             have n3_ : Aside0 (w.heap.size ≤ gb143) := ⟨h3_⟩
             have n4_ : Aside0 (w.heap.size ≤ gb143) := ⟨h4_⟩
             have n5_ : Aside0 (gb101 ≠ gb143) := ⟨h5_⟩
             have n6_ : Aside0 (gb143 ≠ gb101) := ⟨h6_⟩
             have n7_ : Aside0 (gb102 ≠ gb143) := ⟨h7_⟩
             have n8_ : Aside0 (gb143 ≠ gb102) := ⟨h8_⟩
             have n9_ : Aside0 (Below w.heap.size w w44) := ⟨h9_⟩
             clear BK101; clear BK102; clear HB; clear h0_ h1_ h2_ h3_ h4_ h5_ h6_ h7_ h8_ h9_; have BK101 := n0_; have BK102 := n1_; have BK143 := n2_; have GW143 := n3_; have GE143 := n4_; have NB101_143 := n5_; have NB143_101 := n6_; have NB102_143 := n7_; have NB143_102 := n8_; have HB := n9_; clear n0_ n1_ n2_ n3_ n4_ n5_ n6_ n7_ n8_ n9_
             have hHeld : w44.cell? ⟨gb101, 0, none⟩ = some (.string a0_0) ∧ w44.cell? ⟨gb101, 1, none⟩ = some (.int .i64 a0_1) ∧ w44.cell? ⟨gb101, 2, none⟩ = some (.slice A0_2 l0_2.length c0_2) ∧ w44.cell? ⟨gb101, 3, none⟩ = some (.string a0_3) ∧ w44.cell? ⟨gb102, 0, none⟩ = some (.string a1_0) ∧ w44.cell? ⟨gb102, 1, none⟩ = some (.int .i64 a1_1) ∧ w44.cell? ⟨gb102, 2, none⟩ = some (.slice A1_2 l1_2.length c1_2) ∧ w44.cell? ⟨gb102, 3, none⟩ = some (.string a1_3) := hS_
             refine norm_ (a' := ?_) ?_ ?_
             rotate_left
             ·
              simp only [putAll, Act.put, List.setIfInBounds_toArray, List.set_cons_zero, List.set_cons_succ]
              rfl
             refine two_ (i := 3) (j := 5) (Ni := some 59) (Nj := some 8) #[true, true, true, true, true, false, false, false] #[true, true, true, false, true, true, false, false] rfl rfl rfl rfl (two_of HT_.out (by kernel_rfl)) (by decide) (by decide) (fun K hK => ?_) (fun K hK => ?_)
             ·
              skip
              refine goes_ Try.func36 (by kernel_rfl) rfl #[.agg #[.string a1_0, .int .i64 a1_1, .slice A1_2 l1_2.length c1_2, .string a1_3]] (by rfl) rfl rfl (by (try simp only [List.map_toArray, List.map_cons, List.map_nil]); first | done | rfl | (simp only [List.length_drop, List.length_take]; rfl)) ?_
              with_reducible refine (agatelaw07_Of.calls a1_0 a1_1 _ _ l1_2 a1_3 t140 t141 t142 _ ?side1 ?side2 A29.out).mono ?_
              (case side1 => repeat (first | exact (Kd.C_below HR1_2.out HB.out) | (with_reducible refine Kd.C_alloc ?_ _) | (with_reducible refine Kd.C_drewN ?_ _) | (with_reducible refine Kd.C_drew ?_)))
              (case side2 => exact HC1_2.out)
              rintro e w45 ⟨rfl, hb⟩
              refine ⟨_, rfl, ?_⟩
              have n0_ := Aside0.mk (blk_below (g := gb101) (bkA BK101) hb); have n1_ := Aside0.mk (blk_below (g := gb102) (bkA BK102) hb); have n2_ := Aside0.mk (blk_below (g := gb143) (o := .cells #[.string (⟨#[]⟩ : ByteArray), .int .i64 0, .slice none 0 0, .string (⟨#[]⟩ : ByteArray)] 64 (0, 0)) (bkA BK143) hb); have n3_ := Aside0.mk (below_step (hbA HB) hb); clear BK101; clear BK102; clear BK143; clear HB; have BK101 := n0_; have BK102 := n1_; have BK143 := n2_; have HB := n3_; clear n0_ n1_ n2_ n3_; try clear hb; try clear hk
              refine hK.out _ _ ⟨bcA BK101 0, bcA BK101 1, bcA BK101 2, bcA BK101 3, bcA BK102 0, bcA BK102 1, bcA BK102 2, bcA BK102 3⟩ (fun hHeld => ?_)
              clear hK K
              refine norm_ (a' := ?_) ?_ ?_
              rotate_left
              ·
               show Act.put _ (some 59) _ = _
               simp only [Act.put, List.setIfInBounds_toArray, List.set_cons_zero, List.set_cons_succ, i64_w, i32_w]
               rfl
              exact normA (hJ1_3_4 (gb143) _ ⟨hHeld, (bkA BK101), (bkA BK102), (bkA BK143), GW143.out, GE143.out, NB101_143.out, NB143_101.out, NB102_143.out, NB143_102.out, (hbA HB)⟩)
             ·
              skip
              refine box_step ?hg (N := 8) ?hd (cs := #[.string (⟨#[]⟩ : ByteArray), .int .i64 0, .slice none 0 0, .string (⟨#[]⟩ : ByteArray)]) (t := 64) ?hr ?_; (case hd => rfl); (case hg => rfl); (case hr => first | (go_simp; done) | (go_simp; rfl))
              intro gb144 hg w45 hbox hb
              have n0_ := Aside0.mk (blk_below (g := gb101) (bkA BK101) hb); have n1_ := Aside0.mk (blk_below (g := gb102) (bkA BK102) hb); have n2_ := Aside0.mk (blk_below (g := gb143) (o := .cells #[.string (⟨#[]⟩ : ByteArray), .int .i64 0, .slice none 0 0, .string (⟨#[]⟩ : ByteArray)] 64 (0, 0)) (bkA BK143) hb); have n3_ := Aside0.mk (below_step (hbA HB) hb); have n4_ := Aside0.mk (hbox)
              have n5_ := Aside0.mk ((by rw [hg]; exact (below_size (hbA HB)) : w.heap.size ≤ gb144))
              have n6_ := Aside0.mk ((by rw [hg]; exact (below_size (hbA HB)) : w.heap.size ≤ gb144))
              have n7_ := Aside0.mk ((by rw [hg]; exact Nat.ne_of_lt (blk_lt (g := gb101) (bkA BK101)) : gb101 ≠ gb144))
              have n8_ := Aside0.mk ((by rw [hg]; exact Nat.ne_of_gt (blk_lt (g := gb101) (bkA BK101)) : gb144 ≠ gb101))
              have n9_ := Aside0.mk ((by rw [hg]; exact Nat.ne_of_lt (blk_lt (g := gb102) (bkA BK102)) : gb102 ≠ gb144))
              have n10_ := Aside0.mk ((by rw [hg]; exact Nat.ne_of_gt (blk_lt (g := gb102) (bkA BK102)) : gb144 ≠ gb102))
              have n11_ := Aside0.mk ((by rw [hg]; exact Nat.ne_of_lt (blk_lt (g := gb143) (o := .cells #[.string (⟨#[]⟩ : ByteArray), .int .i64 0, .slice none 0 0, .string (⟨#[]⟩ : ByteArray)] 64 (0, 0)) (bkA BK143)) : gb143 ≠ gb144))
              have n12_ := Aside0.mk ((by rw [hg]; exact Nat.ne_of_gt (blk_lt (g := gb143) (o := .cells #[.string (⟨#[]⟩ : ByteArray), .int .i64 0, .slice none 0 0, .string (⟨#[]⟩ : ByteArray)] 64 (0, 0)) (bkA BK143)) : gb144 ≠ gb143))
              clear BK101; clear BK102; clear BK143; clear HB; have BK101 := n0_; have BK102 := n1_; have BK143 := n2_; have HB := n3_; have BK144 := n4_; have GW144 := n5_; have GE144 := n6_; have NB101_144 := n7_; have NB144_101 := n8_; have NB102_144 := n9_; have NB144_102 := n10_; have NB143_144 := n11_; have NB144_143 := n12_; clear n0_ n1_ n2_ n3_ n4_ n5_ n6_ n7_ n8_ n9_ n10_ n11_ n12_; clear hb hbox hg
              refine hK.out _ _ ⟨bcA BK101 0, bcA BK101 1, bcA BK101 2, bcA BK101 3, bcA BK102 0, bcA BK102 1, bcA BK102 2, bcA BK102 3⟩ (fun hHeld => ?_)
              clear hK K
              refine norm_ (a' := ?_) ?_ ?_
              rotate_left
              ·
               show Act.put _ (some 8) _ = _
               simp only [Act.put, List.setIfInBounds_toArray, List.set_cons_zero, List.set_cons_succ, i64_w, i32_w]
               rfl
              exact normA (hJ1_4_5 (gb143, gb144) _ ⟨hHeld, (bkA BK101), (bkA BK102), (bkA BK143), (bkA BK144), GW143.out, GE143.out, NB101_143.out, NB143_101.out, NB102_143.out, NB143_102.out, NB144_143.out, NB143_144.out, GW144.out, GE144.out, NB101_144.out, NB144_101.out, NB102_144.out, NB144_102.out, (hbA HB)⟩)
           ·
            skip
            rintro _ w44 ⟨hS_, h0_, h1_, h2_⟩
            have n0_ : Aside0 (w44.heap[gb101]? = some (.cells #[.string a0_0, .int .i64 a0_1, .slice A0_2 l0_2.length c0_2, .string a0_3] 62 (0, 0))) := ⟨h0_⟩
            have n1_ : Aside0 (w44.heap[gb102]? = some (.cells #[.string a1_0, .int .i64 a1_1, .slice A1_2 l1_2.length c1_2, .string a1_3] 62 (0, 0))) := ⟨h1_⟩
            have n2_ : Aside0 (Below w.heap.size w w44) := ⟨h2_⟩
            clear BK101; clear BK102; clear HB; clear h0_ h1_ h2_; have BK101 := n0_; have BK102 := n1_; have HB := n2_; clear n0_ n1_ n2_
            have hHeld : w44.cell? ⟨gb101, 0, none⟩ = some (.string a0_0) ∧ w44.cell? ⟨gb101, 1, none⟩ = some (.int .i64 a0_1) ∧ w44.cell? ⟨gb101, 2, none⟩ = some (.slice A0_2 l0_2.length c0_2) ∧ w44.cell? ⟨gb101, 3, none⟩ = some (.string a0_3) ∧ w44.cell? ⟨gb102, 0, none⟩ = some (.string a1_0) ∧ w44.cell? ⟨gb102, 1, none⟩ = some (.int .i64 a1_1) ∧ w44.cell? ⟨gb102, 2, none⟩ = some (.slice A1_2 l1_2.length c1_2) ∧ w44.cell? ⟨gb102, 3, none⟩ = some (.string a1_3) := hS_
            refine norm_ (a' := ?_) ?_ ?_
            rotate_left
            ·
             simp only [putAll, Act.put, List.setIfInBounds_toArray, List.set_cons_zero, List.set_cons_succ]
             rfl
            refine two_ (i := 4) (j := 5) (Ni := some 7) (Nj := some 8) #[true, true, true, true, true, false, false, false] #[true, true, true, true, false, true, false, false] rfl rfl rfl rfl (two_of HT_.out (by kernel_rfl)) (by decide) (by decide) (fun K hK => ?_) (fun K hK => ?_)
            ·
             skip
             refine box_step ?hg (N := 7) ?hd (cs := #[.string (⟨#[]⟩ : ByteArray), .int .i64 0, .slice none 0 0, .string (⟨#[]⟩ : ByteArray)]) (t := 64) ?hr ?_; (case hd => rfl); (case hg => rfl); (case hr => first | (go_simp; done) | (go_simp; rfl))
             intro gb143 hg w45 hbox hb
             have n0_ := Aside0.mk (blk_below (g := gb101) (bkA BK101) hb); have n1_ := Aside0.mk (blk_below (g := gb102) (bkA BK102) hb); have n2_ := Aside0.mk (below_step (hbA HB) hb); have n3_ := Aside0.mk (hbox)
             have n4_ := Aside0.mk ((by rw [hg]; exact (below_size (hbA HB)) : w.heap.size ≤ gb143))
             have n5_ := Aside0.mk ((by rw [hg]; exact (below_size (hbA HB)) : w.heap.size ≤ gb143))
             have n6_ := Aside0.mk ((by rw [hg]; exact Nat.ne_of_lt (blk_lt (g := gb101) (bkA BK101)) : gb101 ≠ gb143))
             have n7_ := Aside0.mk ((by rw [hg]; exact Nat.ne_of_gt (blk_lt (g := gb101) (bkA BK101)) : gb143 ≠ gb101))
             have n8_ := Aside0.mk ((by rw [hg]; exact Nat.ne_of_lt (blk_lt (g := gb102) (bkA BK102)) : gb102 ≠ gb143))
             have n9_ := Aside0.mk ((by rw [hg]; exact Nat.ne_of_gt (blk_lt (g := gb102) (bkA BK102)) : gb143 ≠ gb102))
             clear BK101; clear BK102; clear HB; have BK101 := n0_; have BK102 := n1_; have HB := n2_; have BK143 := n3_; have GW143 := n4_; have GE143 := n5_; have NB101_143 := n6_; have NB143_101 := n7_; have NB102_143 := n8_; have NB143_102 := n9_; clear n0_ n1_ n2_ n3_ n4_ n5_ n6_ n7_ n8_ n9_; clear hb hbox hg
             refine hK.out _ _ ⟨bcA BK101 0, bcA BK101 1, bcA BK101 2, bcA BK101 3, bcA BK102 0, bcA BK102 1, bcA BK102 2, bcA BK102 3⟩ (fun hHeld => ?_)
             clear hK K
             refine norm_ (a' := ?_) ?_ ?_
             rotate_left
             ·
              show Act.put _ (some 7) _ = _
              simp only [Act.put, List.setIfInBounds_toArray, List.set_cons_zero, List.set_cons_succ, i64_w, i32_w]
              rfl
             exact normA (hJ1_3_4 (gb143) _ ⟨hHeld, (bkA BK101), (bkA BK102), (bkA BK143), GW143.out, GE143.out, NB101_143.out, NB143_101.out, NB102_143.out, NB143_102.out, (hbA HB)⟩)
            ·
             skip
             refine box_step ?hg (N := 8) ?hd (cs := #[.string (⟨#[]⟩ : ByteArray), .int .i64 0, .slice none 0 0, .string (⟨#[]⟩ : ByteArray)]) (t := 64) ?hr ?_; (case hd => rfl); (case hg => rfl); (case hr => first | (go_simp; done) | (go_simp; rfl))
             intro gb144 hg w45 hbox hb
             have n0_ := Aside0.mk (blk_below (g := gb101) (bkA BK101) hb); have n1_ := Aside0.mk (blk_below (g := gb102) (bkA BK102) hb); have n2_ := Aside0.mk (below_step (hbA HB) hb); have n3_ := Aside0.mk (hbox)
             have n4_ := Aside0.mk ((by rw [hg]; exact (below_size (hbA HB)) : w.heap.size ≤ gb144))
             have n5_ := Aside0.mk ((by rw [hg]; exact (below_size (hbA HB)) : w.heap.size ≤ gb144))
             have n6_ := Aside0.mk ((by rw [hg]; exact Nat.ne_of_lt (blk_lt (g := gb101) (bkA BK101)) : gb101 ≠ gb144))
             have n7_ := Aside0.mk ((by rw [hg]; exact Nat.ne_of_gt (blk_lt (g := gb101) (bkA BK101)) : gb144 ≠ gb101))
             have n8_ := Aside0.mk ((by rw [hg]; exact Nat.ne_of_lt (blk_lt (g := gb102) (bkA BK102)) : gb102 ≠ gb144))
             have n9_ := Aside0.mk ((by rw [hg]; exact Nat.ne_of_gt (blk_lt (g := gb102) (bkA BK102)) : gb144 ≠ gb102))
             clear BK101; clear BK102; clear HB; have BK101 := n0_; have BK102 := n1_; have HB := n2_; have BK144 := n3_; have GW144 := n4_; have GE144 := n5_; have NB101_144 := n6_; have NB144_101 := n7_; have NB102_144 := n8_; have NB144_102 := n9_; clear n0_ n1_ n2_ n3_ n4_ n5_ n6_ n7_ n8_ n9_; clear hb hbox hg
             refine hK.out _ _ ⟨bcA BK101 0, bcA BK101 1, bcA BK101 2, bcA BK101 3, bcA BK102 0, bcA BK102 1, bcA BK102 2, bcA BK102 3⟩ (fun hHeld => ?_)
             clear hK K
             refine norm_ (a' := ?_) ?_ ?_
             rotate_left
             ·
              show Act.put _ (some 8) _ = _
              simp only [Act.put, List.setIfInBounds_toArray, List.set_cons_zero, List.set_cons_succ, i64_w, i32_w]
              rfl
             exact normA (hJ1_3_5 (gb144) _ ⟨hHeld, (bkA BK101), (bkA BK102), (bkA BK144), GW144.out, GE144.out, NB101_144.out, NB144_101.out, NB102_144.out, NB144_102.out, (hbA HB)⟩)
          ·
           skip
           rintro ⟨gb143, gb144⟩ w45 ⟨hS_, h0_, h1_, h2_, h3_, h4_, h5_, h6_, h7_, h8_, h9_, h10_, h11_, h12_, h13_, h14_, h15_, h16_, h17_, h18_⟩
           have n0_ : Aside0 (w45.heap[gb101]? = some (.cells #[.string a0_0, .int .i64 a0_1, .slice A0_2 l0_2.length c0_2, .string a0_3] 62 (0, 0))) := ⟨h0_⟩
           have n1_ : Aside0 (w45.heap[gb102]? = some (.cells #[.string a1_0, .int .i64 a1_1, .slice A1_2 l1_2.length c1_2, .string a1_3] 62 (0, 0))) := ⟨h1_⟩
           have n2_ : Aside0 (w45.heap[gb143]? = some (.cells #[.string (⟨#[]⟩ : ByteArray), .int .i64 0, .slice none 0 0, .string (⟨#[]⟩ : ByteArray)] 64 (0, 0))) := ⟨h2_⟩
           have n3_ : Aside0 (w45.heap[gb144]? = some (.cells #[.string (⟨#[]⟩ : ByteArray), .int .i64 0, .slice none 0 0, .string (⟨#[]⟩ : ByteArray)] 64 (0, 0))) := ⟨h3_⟩
           have n4_ : Aside0 (w.heap.size ≤ gb143) := ⟨h4_⟩
           have n5_ : Aside0 (w.heap.size ≤ gb143) := ⟨h5_⟩
           have n6_ : Aside0 (gb101 ≠ gb143) := ⟨h6_⟩
           have n7_ : Aside0 (gb143 ≠ gb101) := ⟨h7_⟩
           have n8_ : Aside0 (gb102 ≠ gb143) := ⟨h8_⟩
           have n9_ : Aside0 (gb143 ≠ gb102) := ⟨h9_⟩
           have n10_ : Aside0 (gb144 ≠ gb143) := ⟨h10_⟩
           have n11_ : Aside0 (gb143 ≠ gb144) := ⟨h11_⟩
           have n12_ : Aside0 (w.heap.size ≤ gb144) := ⟨h12_⟩
           have n13_ : Aside0 (w.heap.size ≤ gb144) := ⟨h13_⟩
           have n14_ : Aside0 (gb101 ≠ gb144) := ⟨h14_⟩
           have n15_ : Aside0 (gb144 ≠ gb101) := ⟨h15_⟩
           have n16_ : Aside0 (gb102 ≠ gb144) := ⟨h16_⟩
           have n17_ : Aside0 (gb144 ≠ gb102) := ⟨h17_⟩
           have n18_ : Aside0 (Below w.heap.size w w45) := ⟨h18_⟩
           clear BK101; clear BK102; clear HB; clear h0_ h1_ h2_ h3_ h4_ h5_ h6_ h7_ h8_ h9_ h10_ h11_ h12_ h13_ h14_ h15_ h16_ h17_ h18_; have BK101 := n0_; have BK102 := n1_; have BK143 := n2_; have BK144 := n3_; have GW143 := n4_; have GE143 := n5_; have NB101_143 := n6_; have NB143_101 := n7_; have NB102_143 := n8_; have NB143_102 := n9_; have NB144_143 := n10_; have NB143_144 := n11_; have GW144 := n12_; have GE144 := n13_; have NB101_144 := n14_; have NB144_101 := n15_; have NB102_144 := n16_; have NB144_102 := n17_; have HB := n18_; clear n0_ n1_ n2_ n3_ n4_ n5_ n6_ n7_ n8_ n9_ n10_ n11_ n12_ n13_ n14_ n15_ n16_ n17_ n18_
           have hHeld : w45.cell? ⟨gb101, 0, none⟩ = some (.string a0_0) ∧ w45.cell? ⟨gb101, 1, none⟩ = some (.int .i64 a0_1) ∧ w45.cell? ⟨gb101, 2, none⟩ = some (.slice A0_2 l0_2.length c0_2) ∧ w45.cell? ⟨gb101, 3, none⟩ = some (.string a0_3) ∧ w45.cell? ⟨gb102, 0, none⟩ = some (.string a1_0) ∧ w45.cell? ⟨gb102, 1, none⟩ = some (.int .i64 a1_1) ∧ w45.cell? ⟨gb102, 2, none⟩ = some (.slice A1_2 l1_2.length c1_2) ∧ w45.cell? ⟨gb102, 3, none⟩ = some (.string a1_3) := hS_
           refine norm_ (a' := ?_) ?_ ?_
           rotate_left
           ·
            simp only [putAll, Act.put, List.setIfInBounds_toArray, List.set_cons_zero, List.set_cons_succ]
            rfl
           refine one_ (i := 3) (N := some 59) #[true, true, true, true, true, true, false, false] rfl rfl (one_of HT_.out (by kernel_rfl)) (by decide) (fun K hK => ?_)
           refine goes_ Try.func36 (by kernel_rfl) rfl #[.agg #[.string a1_0, .int .i64 a1_1, .slice A1_2 l1_2.length c1_2, .string a1_3]] (by rfl) rfl rfl (by (try simp only [List.map_toArray, List.map_cons, List.map_nil]); first | done | rfl | (simp only [List.length_drop, List.length_take]; rfl)) ?_
           with_reducible refine (agatelaw07_Of.calls a1_0 a1_1 _ _ l1_2 a1_3 t140 t141 t142 _ ?side1 ?side2 A29.out).mono ?_
           (case side1 => repeat (first | exact (Kd.C_below HR1_2.out HB.out) | (with_reducible refine Kd.C_alloc ?_ _) | (with_reducible refine Kd.C_drewN ?_ _) | (with_reducible refine Kd.C_drew ?_)))
           (case side2 => exact HC1_2.out)
           rintro e w46 ⟨rfl, hb⟩
           refine ⟨_, rfl, ?_⟩
           have n0_ := Aside0.mk (blk_below (g := gb101) (bkA BK101) hb); have n1_ := Aside0.mk (blk_below (g := gb102) (bkA BK102) hb); have n2_ := Aside0.mk (blk_below (g := gb143) (o := .cells #[.string (⟨#[]⟩ : ByteArray), .int .i64 0, .slice none 0 0, .string (⟨#[]⟩ : ByteArray)] 64 (0, 0)) (bkA BK143) hb); have n3_ := Aside0.mk (blk_below (g := gb144) (o := .cells #[.string (⟨#[]⟩ : ByteArray), .int .i64 0, .slice none 0 0, .string (⟨#[]⟩ : ByteArray)] 64 (0, 0)) (bkA BK144) hb); have n4_ := Aside0.mk (below_step (hbA HB) hb); clear BK101; clear BK102; clear BK143; clear BK144; clear HB; have BK101 := n0_; have BK102 := n1_; have BK143 := n2_; have BK144 := n3_; have HB := n4_; clear n0_ n1_ n2_ n3_ n4_; try clear hb; try clear hk
           refine hK.out _ _ ⟨bcA BK101 0, bcA BK101 1, bcA BK101 2, bcA BK101 3, bcA BK102 0, bcA BK102 1, bcA BK102 2, bcA BK102 3⟩ (fun hHeld => ?_)
           clear hK K
           refine norm_ (a' := ?_) ?_ ?_
           rotate_left
           ·
            show Act.put _ (some 59) _ = _
            simp only [Act.put, List.setIfInBounds_toArray, List.set_cons_zero, List.set_cons_succ, i64_w, i32_w]
            rfl
           exact normA (hJ1_3_4_5 (gb143, gb144) _ ⟨hHeld, (bkA BK101), (bkA BK102), (bkA BK143), (bkA BK144), GW143.out, GE143.out, NB101_143.out, NB143_101.out, NB102_143.out, NB143_102.out, NB144_143.out, NB143_144.out, GW144.out, GE144.out, NB101_144.out, NB144_101.out, NB102_144.out, NB144_102.out, (hbA HB)⟩)
         ·
          skip
          rintro gb144 w45 ⟨hS_, h0_, h1_, h2_, h3_, h4_, h5_, h6_, h7_, h8_, h9_⟩
          have n0_ : Aside0 (w45.heap[gb101]? = some (.cells #[.string a0_0, .int .i64 a0_1, .slice A0_2 l0_2.length c0_2, .string a0_3] 62 (0, 0))) := ⟨h0_⟩
          have n1_ : Aside0 (w45.heap[gb102]? = some (.cells #[.string a1_0, .int .i64 a1_1, .slice A1_2 l1_2.length c1_2, .string a1_3] 62 (0, 0))) := ⟨h1_⟩
          have n2_ : Aside0 (w45.heap[gb144]? = some (.cells #[.string (⟨#[]⟩ : ByteArray), .int .i64 0, .slice none 0 0, .string (⟨#[]⟩ : ByteArray)] 64 (0, 0))) := ⟨h2_⟩
          have n3_ : Aside0 (w.heap.size ≤ gb144) := ⟨h3_⟩
          have n4_ : Aside0 (w.heap.size ≤ gb144) := ⟨h4_⟩
          have n5_ : Aside0 (gb101 ≠ gb144) := ⟨h5_⟩
          have n6_ : Aside0 (gb144 ≠ gb101) := ⟨h6_⟩
          have n7_ : Aside0 (gb102 ≠ gb144) := ⟨h7_⟩
          have n8_ : Aside0 (gb144 ≠ gb102) := ⟨h8_⟩
          have n9_ : Aside0 (Below w.heap.size w w45) := ⟨h9_⟩
          clear BK101; clear BK102; clear HB; clear h0_ h1_ h2_ h3_ h4_ h5_ h6_ h7_ h8_ h9_; have BK101 := n0_; have BK102 := n1_; have BK144 := n2_; have GW144 := n3_; have GE144 := n4_; have NB101_144 := n5_; have NB144_101 := n6_; have NB102_144 := n7_; have NB144_102 := n8_; have HB := n9_; clear n0_ n1_ n2_ n3_ n4_ n5_ n6_ n7_ n8_ n9_
          have hHeld : w45.cell? ⟨gb101, 0, none⟩ = some (.string a0_0) ∧ w45.cell? ⟨gb101, 1, none⟩ = some (.int .i64 a0_1) ∧ w45.cell? ⟨gb101, 2, none⟩ = some (.slice A0_2 l0_2.length c0_2) ∧ w45.cell? ⟨gb101, 3, none⟩ = some (.string a0_3) ∧ w45.cell? ⟨gb102, 0, none⟩ = some (.string a1_0) ∧ w45.cell? ⟨gb102, 1, none⟩ = some (.int .i64 a1_1) ∧ w45.cell? ⟨gb102, 2, none⟩ = some (.slice A1_2 l1_2.length c1_2) ∧ w45.cell? ⟨gb102, 3, none⟩ = some (.string a1_3) := hS_
          refine norm_ (a' := ?_) ?_ ?_
          rotate_left
          ·
           simp only [putAll, Act.put, List.setIfInBounds_toArray, List.set_cons_zero, List.set_cons_succ]
           rfl
          refine one_ (i := 4) (N := some 7) #[true, true, true, true, true, true, false, false] rfl rfl (one_of HT_.out (by kernel_rfl)) (by decide) (fun K hK => ?_)
          refine box_step ?hg (N := 7) ?hd (cs := #[.string (⟨#[]⟩ : ByteArray), .int .i64 0, .slice none 0 0, .string (⟨#[]⟩ : ByteArray)]) (t := 64) ?hr ?_; (case hd => rfl); (case hg => rfl); (case hr => first | (go_simp; done) | (go_simp; rfl))
          intro gb143 hg w46 hbox hb
          have n0_ := Aside0.mk (blk_below (g := gb101) (bkA BK101) hb); have n1_ := Aside0.mk (blk_below (g := gb102) (bkA BK102) hb); have n2_ := Aside0.mk (blk_below (g := gb144) (o := .cells #[.string (⟨#[]⟩ : ByteArray), .int .i64 0, .slice none 0 0, .string (⟨#[]⟩ : ByteArray)] 64 (0, 0)) (bkA BK144) hb); have n3_ := Aside0.mk (below_step (hbA HB) hb); have n4_ := Aside0.mk (hbox)
          have n5_ := Aside0.mk ((by rw [hg]; exact (below_size (hbA HB)) : w.heap.size ≤ gb143))
          have n6_ := Aside0.mk ((by rw [hg]; exact (below_size (hbA HB)) : w.heap.size ≤ gb143))
          have n7_ := Aside0.mk ((by rw [hg]; exact Nat.ne_of_lt (blk_lt (g := gb101) (bkA BK101)) : gb101 ≠ gb143))
          have n8_ := Aside0.mk ((by rw [hg]; exact Nat.ne_of_gt (blk_lt (g := gb101) (bkA BK101)) : gb143 ≠ gb101))
          have n9_ := Aside0.mk ((by rw [hg]; exact Nat.ne_of_lt (blk_lt (g := gb102) (bkA BK102)) : gb102 ≠ gb143))
          have n10_ := Aside0.mk ((by rw [hg]; exact Nat.ne_of_gt (blk_lt (g := gb102) (bkA BK102)) : gb143 ≠ gb102))
          have n11_ := Aside0.mk ((by rw [hg]; exact Nat.ne_of_lt (blk_lt (g := gb144) (o := .cells #[.string (⟨#[]⟩ : ByteArray), .int .i64 0, .slice none 0 0, .string (⟨#[]⟩ : ByteArray)] 64 (0, 0)) (bkA BK144)) : gb144 ≠ gb143))
          have n12_ := Aside0.mk ((by rw [hg]; exact Nat.ne_of_gt (blk_lt (g := gb144) (o := .cells #[.string (⟨#[]⟩ : ByteArray), .int .i64 0, .slice none 0 0, .string (⟨#[]⟩ : ByteArray)] 64 (0, 0)) (bkA BK144)) : gb143 ≠ gb144))
          clear BK101; clear BK102; clear BK144; clear HB; have BK101 := n0_; have BK102 := n1_; have BK144 := n2_; have HB := n3_; have BK143 := n4_; have GW143 := n5_; have GE143 := n6_; have NB101_143 := n7_; have NB143_101 := n8_; have NB102_143 := n9_; have NB143_102 := n10_; have NB144_143 := n11_; have NB143_144 := n12_; clear n0_ n1_ n2_ n3_ n4_ n5_ n6_ n7_ n8_ n9_ n10_ n11_ n12_; clear hb hbox hg
          refine hK.out _ _ ⟨bcA BK101 0, bcA BK101 1, bcA BK101 2, bcA BK101 3, bcA BK102 0, bcA BK102 1, bcA BK102 2, bcA BK102 3⟩ (fun hHeld => ?_)
          clear hK K
          refine norm_ (a' := ?_) ?_ ?_
          rotate_left
          ·
           show Act.put _ (some 7) _ = _
           simp only [Act.put, List.setIfInBounds_toArray, List.set_cons_zero, List.set_cons_succ, i64_w, i32_w]
           rfl
          exact normA (hJ1_3_4_5 (gb143, gb144) _ ⟨hHeld, (bkA BK101), (bkA BK102), (bkA BK143), (bkA BK144), GW143.out, GE143.out, NB101_143.out, NB143_101.out, NB102_143.out, NB143_102.out, NB144_143.out, NB143_144.out, GW144.out, GE144.out, NB101_144.out, NB144_101.out, NB102_144.out, NB144_102.out, (hbA HB)⟩)
        ·
         skip
         rintro gb143 w45 ⟨hS_, h0_, h1_, h2_, h3_, h4_, h5_, h6_, h7_, h8_, h9_⟩
         have n0_ : Aside0 (w45.heap[gb101]? = some (.cells #[.string a0_0, .int .i64 a0_1, .slice A0_2 l0_2.length c0_2, .string a0_3] 62 (0, 0))) := ⟨h0_⟩
         have n1_ : Aside0 (w45.heap[gb102]? = some (.cells #[.string a1_0, .int .i64 a1_1, .slice A1_2 l1_2.length c1_2, .string a1_3] 62 (0, 0))) := ⟨h1_⟩
         have n2_ : Aside0 (w45.heap[gb143]? = some (.cells #[.string (⟨#[]⟩ : ByteArray), .int .i64 0, .slice none 0 0, .string (⟨#[]⟩ : ByteArray)] 64 (0, 0))) := ⟨h2_⟩
         have n3_ : Aside0 (w.heap.size ≤ gb143) := ⟨h3_⟩
         have n4_ : Aside0 (w.heap.size ≤ gb143) := ⟨h4_⟩
         have n5_ : Aside0 (gb101 ≠ gb143) := ⟨h5_⟩
         have n6_ : Aside0 (gb143 ≠ gb101) := ⟨h6_⟩
         have n7_ : Aside0 (gb102 ≠ gb143) := ⟨h7_⟩
         have n8_ : Aside0 (gb143 ≠ gb102) := ⟨h8_⟩
         have n9_ : Aside0 (Below w.heap.size w w45) := ⟨h9_⟩
         clear BK101; clear BK102; clear HB; clear h0_ h1_ h2_ h3_ h4_ h5_ h6_ h7_ h8_ h9_; have BK101 := n0_; have BK102 := n1_; have BK143 := n2_; have GW143 := n3_; have GE143 := n4_; have NB101_143 := n5_; have NB143_101 := n6_; have NB102_143 := n7_; have NB143_102 := n8_; have HB := n9_; clear n0_ n1_ n2_ n3_ n4_ n5_ n6_ n7_ n8_ n9_
         have hHeld : w45.cell? ⟨gb101, 0, none⟩ = some (.string a0_0) ∧ w45.cell? ⟨gb101, 1, none⟩ = some (.int .i64 a0_1) ∧ w45.cell? ⟨gb101, 2, none⟩ = some (.slice A0_2 l0_2.length c0_2) ∧ w45.cell? ⟨gb101, 3, none⟩ = some (.string a0_3) ∧ w45.cell? ⟨gb102, 0, none⟩ = some (.string a1_0) ∧ w45.cell? ⟨gb102, 1, none⟩ = some (.int .i64 a1_1) ∧ w45.cell? ⟨gb102, 2, none⟩ = some (.slice A1_2 l1_2.length c1_2) ∧ w45.cell? ⟨gb102, 3, none⟩ = some (.string a1_3) := hS_
         refine norm_ (a' := ?_) ?_ ?_
         rotate_left
         ·
          simp only [putAll, Act.put, List.setIfInBounds_toArray, List.set_cons_zero, List.set_cons_succ]
          rfl
         refine one_ (i := 5) (N := some 8) #[true, true, true, true, true, true, false, false] rfl rfl (one_of HT_.out (by kernel_rfl)) (by decide) (fun K hK => ?_)
         refine box_step ?hg (N := 8) ?hd (cs := #[.string (⟨#[]⟩ : ByteArray), .int .i64 0, .slice none 0 0, .string (⟨#[]⟩ : ByteArray)]) (t := 64) ?hr ?_; (case hd => rfl); (case hg => rfl); (case hr => first | (go_simp; done) | (go_simp; rfl))
         intro gb144 hg w46 hbox hb
         have n0_ := Aside0.mk (blk_below (g := gb101) (bkA BK101) hb); have n1_ := Aside0.mk (blk_below (g := gb102) (bkA BK102) hb); have n2_ := Aside0.mk (blk_below (g := gb143) (o := .cells #[.string (⟨#[]⟩ : ByteArray), .int .i64 0, .slice none 0 0, .string (⟨#[]⟩ : ByteArray)] 64 (0, 0)) (bkA BK143) hb); have n3_ := Aside0.mk (below_step (hbA HB) hb); have n4_ := Aside0.mk (hbox)
         have n5_ := Aside0.mk ((by rw [hg]; exact (below_size (hbA HB)) : w.heap.size ≤ gb144))
         have n6_ := Aside0.mk ((by rw [hg]; exact (below_size (hbA HB)) : w.heap.size ≤ gb144))
         have n7_ := Aside0.mk ((by rw [hg]; exact Nat.ne_of_lt (blk_lt (g := gb101) (bkA BK101)) : gb101 ≠ gb144))
         have n8_ := Aside0.mk ((by rw [hg]; exact Nat.ne_of_gt (blk_lt (g := gb101) (bkA BK101)) : gb144 ≠ gb101))
         have n9_ := Aside0.mk ((by rw [hg]; exact Nat.ne_of_lt (blk_lt (g := gb102) (bkA BK102)) : gb102 ≠ gb144))
         have n10_ := Aside0.mk ((by rw [hg]; exact Nat.ne_of_gt (blk_lt (g := gb102) (bkA BK102)) : gb144 ≠ gb102))
         have n11_ := Aside0.mk ((by rw [hg]; exact Nat.ne_of_lt (blk_lt (g := gb143) (o := .cells #[.string (⟨#[]⟩ : ByteArray), .int .i64 0, .slice none 0 0, .string (⟨#[]⟩ : ByteArray)] 64 (0, 0)) (bkA BK143)) : gb143 ≠ gb144))
         have n12_ := Aside0.mk ((by rw [hg]; exact Nat.ne_of_gt (blk_lt (g := gb143) (o := .cells #[.string (⟨#[]⟩ : ByteArray), .int .i64 0, .slice none 0 0, .string (⟨#[]⟩ : ByteArray)] 64 (0, 0)) (bkA BK143)) : gb144 ≠ gb143))
         clear BK101; clear BK102; clear BK143; clear HB; have BK101 := n0_; have BK102 := n1_; have BK143 := n2_; have HB := n3_; have BK144 := n4_; have GW144 := n5_; have GE144 := n6_; have NB101_144 := n7_; have NB144_101 := n8_; have NB102_144 := n9_; have NB144_102 := n10_; have NB143_144 := n11_; have NB144_143 := n12_; clear n0_ n1_ n2_ n3_ n4_ n5_ n6_ n7_ n8_ n9_ n10_ n11_ n12_; clear hb hbox hg
         refine hK.out _ _ ⟨bcA BK101 0, bcA BK101 1, bcA BK101 2, bcA BK101 3, bcA BK102 0, bcA BK102 1, bcA BK102 2, bcA BK102 3⟩ (fun hHeld => ?_)
         clear hK K
         refine norm_ (a' := ?_) ?_ ?_
         rotate_left
         ·
          show Act.put _ (some 8) _ = _
          simp only [Act.put, List.setIfInBounds_toArray, List.set_cons_zero, List.set_cons_succ, i64_w, i32_w]
          rfl
         exact normA (hJ1_3_4_5 (gb143, gb144) _ ⟨hHeld, (bkA BK101), (bkA BK102), (bkA BK143), (bkA BK144), GW143.out, GE143.out, NB101_143.out, NB143_101.out, NB102_143.out, NB143_102.out, NB144_143.out, NB143_144.out, GW144.out, GE144.out, NB101_144.out, NB144_101.out, NB102_144.out, NB144_102.out, (hbA HB)⟩)
       rintro ⟨gb143, gb144⟩ w46 ⟨hS_, h0_, h1_, h2_, h3_, h4_, h5_, h6_, h7_, h8_, h9_, h10_, h11_, h12_, h13_, h14_, h15_, h16_, h17_, h18_⟩
       have n0_ : Aside0 (w46.heap[gb101]? = some (.cells #[.string a0_0, .int .i64 a0_1, .slice A0_2 l0_2.length c0_2, .string a0_3] 62 (0, 0))) := ⟨h0_⟩
       have n1_ : Aside0 (w46.heap[gb102]? = some (.cells #[.string a1_0, .int .i64 a1_1, .slice A1_2 l1_2.length c1_2, .string a1_3] 62 (0, 0))) := ⟨h1_⟩
       have n2_ : Aside0 (w46.heap[gb143]? = some (.cells #[.string (⟨#[]⟩ : ByteArray), .int .i64 0, .slice none 0 0, .string (⟨#[]⟩ : ByteArray)] 64 (0, 0))) := ⟨h2_⟩
       have n3_ : Aside0 (w46.heap[gb144]? = some (.cells #[.string (⟨#[]⟩ : ByteArray), .int .i64 0, .slice none 0 0, .string (⟨#[]⟩ : ByteArray)] 64 (0, 0))) := ⟨h3_⟩
       have n4_ : Aside0 (w.heap.size ≤ gb143) := ⟨h4_⟩
       have n5_ : Aside0 (w.heap.size ≤ gb143) := ⟨h5_⟩
       have n6_ : Aside0 (gb101 ≠ gb143) := ⟨h6_⟩
       have n7_ : Aside0 (gb143 ≠ gb101) := ⟨h7_⟩
       have n8_ : Aside0 (gb102 ≠ gb143) := ⟨h8_⟩
       have n9_ : Aside0 (gb143 ≠ gb102) := ⟨h9_⟩
       have n10_ : Aside0 (gb144 ≠ gb143) := ⟨h10_⟩
       have n11_ : Aside0 (gb143 ≠ gb144) := ⟨h11_⟩
       have n12_ : Aside0 (w.heap.size ≤ gb144) := ⟨h12_⟩
       have n13_ : Aside0 (w.heap.size ≤ gb144) := ⟨h13_⟩
       have n14_ : Aside0 (gb101 ≠ gb144) := ⟨h14_⟩
       have n15_ : Aside0 (gb144 ≠ gb101) := ⟨h15_⟩
       have n16_ : Aside0 (gb102 ≠ gb144) := ⟨h16_⟩
       have n17_ : Aside0 (gb144 ≠ gb102) := ⟨h17_⟩
       have n18_ : Aside0 (Below w.heap.size w w46) := ⟨h18_⟩
       clear BK101; clear BK102; clear HB; clear h0_ h1_ h2_ h3_ h4_ h5_ h6_ h7_ h8_ h9_ h10_ h11_ h12_ h13_ h14_ h15_ h16_ h17_ h18_; have BK101 := n0_; have BK102 := n1_; have BK143 := n2_; have BK144 := n3_; have GW143 := n4_; have GE143 := n5_; have NB101_143 := n6_; have NB143_101 := n7_; have NB102_143 := n8_; have NB143_102 := n9_; have NB144_143 := n10_; have NB143_144 := n11_; have GW144 := n12_; have GE144 := n13_; have NB101_144 := n14_; have NB144_101 := n15_; have NB102_144 := n16_; have NB144_102 := n17_; have HB := n18_; clear n0_ n1_ n2_ n3_ n4_ n5_ n6_ n7_ n8_ n9_ n10_ n11_ n12_ n13_ n14_ n15_ n16_ n17_ n18_
       have hHeld : w46.cell? ⟨gb101, 0, none⟩ = some (.string a0_0) ∧ w46.cell? ⟨gb101, 1, none⟩ = some (.int .i64 a0_1) ∧ w46.cell? ⟨gb101, 2, none⟩ = some (.slice A0_2 l0_2.length c0_2) ∧ w46.cell? ⟨gb101, 3, none⟩ = some (.string a0_3) ∧ w46.cell? ⟨gb102, 0, none⟩ = some (.string a1_0) ∧ w46.cell? ⟨gb102, 1, none⟩ = some (.int .i64 a1_1) ∧ w46.cell? ⟨gb102, 2, none⟩ = some (.slice A1_2 l1_2.length c1_2) ∧ w46.cell? ⟨gb102, 3, none⟩ = some (.string a1_3) := hS_
       refine norm_ (a' := ?_) ?_ ?_
       rotate_left
       ·
        simp only [putAll, Act.put, List.setIfInBounds_toArray, List.set_cons_zero, List.set_cons_succ]
        rfl
       refine one_ (i := 6) (N := none) #[true, true, true, true, true, true, true, false] rfl rfl (one_of HT_.out (by kernel_rfl)) (by decide) (fun K hK => ?_)
       have hs47 : w46.cell? ⟨gb143, 0, none⟩ = some (.string (⟨#[]⟩ : ByteArray)) := bcA BK143 0; have hfs47 := blk_frozen BK143.out 0; have hns47_0 := NB101_143.out; have hns47_1 := NB102_143.out; have hns47_3 := NB144_143.out; have hms47_0 := NB143_101.out; have hms47_1 := NB143_102.out; have hms47_3 := NB143_144.out; have hs48 : w46.cell? ⟨gb143, 1, none⟩ = some (.int .i64 0) := bcA BK143 1; have hfs48 := blk_frozen BK143.out 1; have hns48_0 := NB101_143.out; have hns48_1 := NB102_143.out; have hns48_3 := NB144_143.out; have hms48_0 := NB143_101.out; have hms48_1 := NB143_102.out; have hms48_3 := NB143_144.out; have hs49 : w46.cell? ⟨gb143, 2, none⟩ = some (.slice none 0 0) := bcA BK143 2; have hfs49 := blk_frozen BK143.out 2; have hns49_0 := NB101_143.out; have hns49_1 := NB102_143.out; have hns49_3 := NB144_143.out; have hms49_0 := NB143_101.out; have hms49_1 := NB143_102.out; have hms49_3 := NB143_144.out; have hs50 : w46.cell? ⟨gb143, 3, none⟩ = some (.string (⟨#[]⟩ : ByteArray)) := bcA BK143 3; have hfs50 := blk_frozen BK143.out 3; have hns50_0 := NB101_143.out; have hns50_1 := NB102_143.out; have hns50_3 := NB144_143.out; have hms50_0 := NB143_101.out; have hms50_1 := NB143_102.out; have hms50_3 := NB143_144.out
       refine skip_ (w1 := ?_) (by rfl) rfl ?_ ?_
       rotate_left
       ·
        go_simp
        rfl
       refine hK.out _ _ ⟨((cell_far (p := ⟨gb143, _, none⟩) NB101_143.out _).trans (((cell_far (p := ⟨gb143, _, none⟩) NB101_143.out _).trans (((cell_far (p := ⟨gb143, _, none⟩) NB101_143.out _).trans (((cell_far (p := ⟨gb143, _, none⟩) NB101_143.out _).trans (hHeld.1)))))))), ((cell_far (p := ⟨gb143, _, none⟩) NB101_143.out _).trans (((cell_far (p := ⟨gb143, _, none⟩) NB101_143.out _).trans (((cell_far (p := ⟨gb143, _, none⟩) NB101_143.out _).trans (((cell_far (p := ⟨gb143, _, none⟩) NB101_143.out _).trans (hHeld.2.1)))))))), ((cell_far (p := ⟨gb143, _, none⟩) NB101_143.out _).trans (((cell_far (p := ⟨gb143, _, none⟩) NB101_143.out _).trans (((cell_far (p := ⟨gb143, _, none⟩) NB101_143.out _).trans (((cell_far (p := ⟨gb143, _, none⟩) NB101_143.out _).trans (hHeld.2.2.1)))))))), ((cell_far (p := ⟨gb143, _, none⟩) NB101_143.out _).trans (((cell_far (p := ⟨gb143, _, none⟩) NB101_143.out _).trans (((cell_far (p := ⟨gb143, _, none⟩) NB101_143.out _).trans (((cell_far (p := ⟨gb143, _, none⟩) NB101_143.out _).trans (hHeld.2.2.2.1)))))))), ((cell_far (p := ⟨gb143, _, none⟩) NB102_143.out _).trans (((cell_far (p := ⟨gb143, _, none⟩) NB102_143.out _).trans (((cell_far (p := ⟨gb143, _, none⟩) NB102_143.out _).trans (((cell_far (p := ⟨gb143, _, none⟩) NB102_143.out _).trans (hHeld.2.2.2.2.1)))))))), ((cell_far (p := ⟨gb143, _, none⟩) NB102_143.out _).trans (((cell_far (p := ⟨gb143, _, none⟩) NB102_143.out _).trans (((cell_far (p := ⟨gb143, _, none⟩) NB102_143.out _).trans (((cell_far (p := ⟨gb143, _, none⟩) NB102_143.out _).trans (hHeld.2.2.2.2.2.1)))))))), ((cell_far (p := ⟨gb143, _, none⟩) NB102_143.out _).trans (((cell_far (p := ⟨gb143, _, none⟩) NB102_143.out _).trans (((cell_far (p := ⟨gb143, _, none⟩) NB102_143.out _).trans (((cell_far (p := ⟨gb143, _, none⟩) NB102_143.out _).trans (hHeld.2.2.2.2.2.2.1)))))))), ((cell_far (p := ⟨gb143, _, none⟩) NB102_143.out _).trans (((cell_far (p := ⟨gb143, _, none⟩) NB102_143.out _).trans (((cell_far (p := ⟨gb143, _, none⟩) NB102_143.out _).trans (((cell_far (p := ⟨gb143, _, none⟩) NB102_143.out _).trans (hHeld.2.2.2.2.2.2.2))))))))⟩ (fun hHeld => ?_)
       clear hK K
       refine one_ (i := 7) (N := none) #[true, true, true, true, true, true, true, true] rfl rfl (one_of HT_.out (by kernel_rfl)) (by decide) (fun K hK => ?_)
       have hs51 : w46.cell? ⟨gb144, 0, none⟩ = some (.string (⟨#[]⟩ : ByteArray)) := bcA BK144 0; have hfs51 := blk_frozen BK144.out 0; have hns51_0 := NB101_144.out; have hns51_1 := NB102_144.out; have hns51_2 := NB143_144.out; have hms51_0 := NB144_101.out; have hms51_1 := NB144_102.out; have hms51_2 := NB144_143.out; have hs52 : w46.cell? ⟨gb144, 1, none⟩ = some (.int .i64 0) := bcA BK144 1; have hfs52 := blk_frozen BK144.out 1; have hns52_0 := NB101_144.out; have hns52_1 := NB102_144.out; have hns52_2 := NB143_144.out; have hms52_0 := NB144_101.out; have hms52_1 := NB144_102.out; have hms52_2 := NB144_143.out; have hs53 : w46.cell? ⟨gb144, 2, none⟩ = some (.slice none 0 0) := bcA BK144 2; have hfs53 := blk_frozen BK144.out 2; have hns53_0 := NB101_144.out; have hns53_1 := NB102_144.out; have hns53_2 := NB143_144.out; have hms53_0 := NB144_101.out; have hms53_1 := NB144_102.out; have hms53_2 := NB144_143.out; have hs54 : w46.cell? ⟨gb144, 3, none⟩ = some (.string (⟨#[]⟩ : ByteArray)) := bcA BK144 3; have hfs54 := blk_frozen BK144.out 3; have hns54_0 := NB101_144.out; have hns54_1 := NB102_144.out; have hns54_2 := NB143_144.out; have hms54_0 := NB144_101.out; have hms54_1 := NB144_102.out; have hms54_2 := NB144_143.out
       refine skip_ (w1 := ?_) (by rfl) rfl ?_ ?_
       rotate_left
       ·
        go_simp
        rfl
       refine hK.out _ _ ⟨((cell_far (p := ⟨gb144, _, none⟩) NB101_144.out _).trans (((cell_far (p := ⟨gb144, _, none⟩) NB101_144.out _).trans (((cell_far (p := ⟨gb144, _, none⟩) NB101_144.out _).trans (((cell_far (p := ⟨gb144, _, none⟩) NB101_144.out _).trans (hHeld.1)))))))), ((cell_far (p := ⟨gb144, _, none⟩) NB101_144.out _).trans (((cell_far (p := ⟨gb144, _, none⟩) NB101_144.out _).trans (((cell_far (p := ⟨gb144, _, none⟩) NB101_144.out _).trans (((cell_far (p := ⟨gb144, _, none⟩) NB101_144.out _).trans (hHeld.2.1)))))))), ((cell_far (p := ⟨gb144, _, none⟩) NB101_144.out _).trans (((cell_far (p := ⟨gb144, _, none⟩) NB101_144.out _).trans (((cell_far (p := ⟨gb144, _, none⟩) NB101_144.out _).trans (((cell_far (p := ⟨gb144, _, none⟩) NB101_144.out _).trans (hHeld.2.2.1)))))))), ((cell_far (p := ⟨gb144, _, none⟩) NB101_144.out _).trans (((cell_far (p := ⟨gb144, _, none⟩) NB101_144.out _).trans (((cell_far (p := ⟨gb144, _, none⟩) NB101_144.out _).trans (((cell_far (p := ⟨gb144, _, none⟩) NB101_144.out _).trans (hHeld.2.2.2.1)))))))), ((cell_far (p := ⟨gb144, _, none⟩) NB102_144.out _).trans (((cell_far (p := ⟨gb144, _, none⟩) NB102_144.out _).trans (((cell_far (p := ⟨gb144, _, none⟩) NB102_144.out _).trans (((cell_far (p := ⟨gb144, _, none⟩) NB102_144.out _).trans (hHeld.2.2.2.2.1)))))))), ((cell_far (p := ⟨gb144, _, none⟩) NB102_144.out _).trans (((cell_far (p := ⟨gb144, _, none⟩) NB102_144.out _).trans (((cell_far (p := ⟨gb144, _, none⟩) NB102_144.out _).trans (((cell_far (p := ⟨gb144, _, none⟩) NB102_144.out _).trans (hHeld.2.2.2.2.2.1)))))))), ((cell_far (p := ⟨gb144, _, none⟩) NB102_144.out _).trans (((cell_far (p := ⟨gb144, _, none⟩) NB102_144.out _).trans (((cell_far (p := ⟨gb144, _, none⟩) NB102_144.out _).trans (((cell_far (p := ⟨gb144, _, none⟩) NB102_144.out _).trans (hHeld.2.2.2.2.2.2.1)))))))), ((cell_far (p := ⟨gb144, _, none⟩) NB102_144.out _).trans (((cell_far (p := ⟨gb144, _, none⟩) NB102_144.out _).trans (((cell_far (p := ⟨gb144, _, none⟩) NB102_144.out _).trans (((cell_far (p := ⟨gb144, _, none⟩) NB102_144.out _).trans (hHeld.2.2.2.2.2.2.2))))))))⟩ (fun hHeld => ?_)
       clear hK K
       refine done_ (done_of HT_.out (by kernel_rfl)) ?_
       have hnb55 := NB143_101.out; have hnc55 := NB101_143.out; have hnb56 := NB143_102.out; have hnc56 := NB102_143.out; have hnb57 := NB143_144.out; have hnc57 := NB144_143.out; have hcz58_0 : w46.cell? ⟨gb143, 0, none⟩ = some (.string (⟨#[]⟩ : ByteArray)) := bcA BK143 0; have hcz58_1 : w46.cell? ⟨gb143, 1, none⟩ = some (.int .i64 0) := bcA BK143 1; have hcz58_2 : w46.cell? ⟨gb143, 2, none⟩ = some (.slice none 0 0) := bcA BK143 2; have hcz58_3 : w46.cell? ⟨gb143, 3, none⟩ = some (.string (⟨#[]⟩ : ByteArray)) := bcA BK143 3; have hfz58_0 := blk_frozen BK143.out 0; have hfz58_1 := blk_frozen BK143.out 1; have hfz58_2 := blk_frozen BK143.out 2; have hfz58_3 := blk_frozen BK143.out 3
       try go_wp2_with (first | ((with_reducible refine gate_callee (f := 37) rfl ?_); refine goesL_ (some 61) rfl rfl Try.func37 (by kernel_rfl) rfl #[.agg #[.string t137, .int .i64 t138, .slice A0_2 l0_2.length c0_2, .string t139]] rfl (by (try simp only [List.map_toArray, List.map_cons, List.map_nil]); first | done | rfl | (simp only [List.length_drop, List.length_take]; rfl)) ?_; (with_reducible refine (agateref07_Check_s.calls t137 t138 _ _ l0_2 t139 t145 _ ?side1 ?side2 A30.out).mono ?_); (case side1 => exact Kd.C_below HR0_2.out (hbA HB)); (case side2 => exact HC0_2.out); rintro e w59 ⟨rfl, hb⟩; refine ⟨_, rfl, ?_⟩; have n0_ := Aside0.mk (blk_below (g := gb101) (o := .cells #[.string a0_0, .int .i64 a0_1, .slice A0_2 l0_2.length c0_2, .string a0_3] 62 (0, 0)) (by (with_reducible repeat (first | refine blk_drewN ?_ _ | refine blk_drew ?_ | refine blk_alloc ?_ _)); refine blk_far ?_ NB101_144.out _; (with_reducible repeat (first | refine blk_drewN ?_ _ | refine blk_drew ?_ | refine blk_alloc ?_ _)); refine blk_far ?_ NB101_144.out _; (with_reducible repeat (first | refine blk_drewN ?_ _ | refine blk_drew ?_ | refine blk_alloc ?_ _)); refine blk_far ?_ NB101_144.out _; (with_reducible repeat (first | refine blk_drewN ?_ _ | refine blk_drew ?_ | refine blk_alloc ?_ _)); refine blk_far ?_ NB101_144.out _; (with_reducible repeat (first | refine blk_drewN ?_ _ | refine blk_drew ?_ | refine blk_alloc ?_ _)); refine blk_far ?_ NB101_143.out _; (with_reducible repeat (first | refine blk_drewN ?_ _ | refine blk_drew ?_ | refine blk_alloc ?_ _)); refine blk_far ?_ NB101_143.out _; (with_reducible repeat (first | refine blk_drewN ?_ _ | refine blk_drew ?_ | refine blk_alloc ?_ _)); refine blk_far ?_ NB101_143.out _; (with_reducible repeat (first | refine blk_drewN ?_ _ | refine blk_drew ?_ | refine blk_alloc ?_ _)); refine blk_far ?_ NB101_143.out _; (with_reducible repeat (first | refine blk_drewN ?_ _ | refine blk_drew ?_ | refine blk_alloc ?_ _)); exact BK101.out) hb); have n1_ := Aside0.mk (blk_below (g := gb102) (o := .cells #[.string a1_0, .int .i64 a1_1, .slice A1_2 l1_2.length c1_2, .string a1_3] 62 (0, 0)) (by (with_reducible repeat (first | refine blk_drewN ?_ _ | refine blk_drew ?_ | refine blk_alloc ?_ _)); refine blk_far ?_ NB102_144.out _; (with_reducible repeat (first | refine blk_drewN ?_ _ | refine blk_drew ?_ | refine blk_alloc ?_ _)); refine blk_far ?_ NB102_144.out _; (with_reducible repeat (first | refine blk_drewN ?_ _ | refine blk_drew ?_ | refine blk_alloc ?_ _)); refine blk_far ?_ NB102_144.out _; (with_reducible repeat (first | refine blk_drewN ?_ _ | refine blk_drew ?_ | refine blk_alloc ?_ _)); refine blk_far ?_ NB102_144.out _; (with_reducible repeat (first | refine blk_drewN ?_ _ | refine blk_drew ?_ | refine blk_alloc ?_ _)); refine blk_far ?_ NB102_143.out _; (with_reducible repeat (first | refine blk_drewN ?_ _ | refine blk_drew ?_ | refine blk_alloc ?_ _)); refine blk_far ?_ NB102_143.out _; (with_reducible repeat (first | refine blk_drewN ?_ _ | refine blk_drew ?_ | refine blk_alloc ?_ _)); refine blk_far ?_ NB102_143.out _; (with_reducible repeat (first | refine blk_drewN ?_ _ | refine blk_drew ?_ | refine blk_alloc ?_ _)); refine blk_far ?_ NB102_143.out _; (with_reducible repeat (first | refine blk_drewN ?_ _ | refine blk_drew ?_ | refine blk_alloc ?_ _)); exact BK102.out) hb); have n2_ := Aside0.mk (blk_below (g := gb143) (o := .cells #[.string t137, .int .i64 t138, .slice A0_2 l0_2.length c0_2, .string t139] 64 (0, 0)) (by (with_reducible repeat (first | refine blk_drewN ?_ _ | refine blk_drew ?_ | refine blk_alloc ?_ _)); refine blk_far ?_ NB143_144.out _; (with_reducible repeat (first | refine blk_drewN ?_ _ | refine blk_drew ?_ | refine blk_alloc ?_ _)); refine blk_far ?_ NB143_144.out _; (with_reducible repeat (first | refine blk_drewN ?_ _ | refine blk_drew ?_ | refine blk_alloc ?_ _)); refine blk_far ?_ NB143_144.out _; (with_reducible repeat (first | refine blk_drewN ?_ _ | refine blk_drew ?_ | refine blk_alloc ?_ _)); refine blk_far ?_ NB143_144.out _; (with_reducible repeat (first | refine blk_drewN ?_ _ | refine blk_drew ?_ | refine blk_alloc ?_ _)); refine blk_put (cs := #[.string t137, .int .i64 t138, .slice A0_2 l0_2.length c0_2, .string (⟨#[]⟩ : ByteArray)]) ?_ 3 _ rfl; (with_reducible repeat (first | refine blk_drewN ?_ _ | refine blk_drew ?_ | refine blk_alloc ?_ _)); refine blk_put (cs := #[.string t137, .int .i64 t138, .slice none 0 0, .string (⟨#[]⟩ : ByteArray)]) ?_ 2 _ rfl; (with_reducible repeat (first | refine blk_drewN ?_ _ | refine blk_drew ?_ | refine blk_alloc ?_ _)); refine blk_put (cs := #[.string t137, .int .i64 0, .slice none 0 0, .string (⟨#[]⟩ : ByteArray)]) ?_ 1 _ rfl; (with_reducible repeat (first | refine blk_drewN ?_ _ | refine blk_drew ?_ | refine blk_alloc ?_ _)); refine blk_put (cs := #[.string (⟨#[]⟩ : ByteArray), .int .i64 0, .slice none 0 0, .string (⟨#[]⟩ : ByteArray)]) ?_ 0 _ rfl; (with_reducible repeat (first | refine blk_drewN ?_ _ | refine blk_drew ?_ | refine blk_alloc ?_ _)); exact BK143.out) hb); have n3_ := Aside0.mk (blk_below (g := gb144) (o := .cells #[.string t140, .int .i64 t141, .slice A1_2 l1_2.length c1_2, .string t142] 64 (0, 0)) (by (with_reducible repeat (first | refine blk_drewN ?_ _ | refine blk_drew ?_ | refine blk_alloc ?_ _)); refine blk_put (cs := #[.string t140, .int .i64 t141, .slice A1_2 l1_2.length c1_2, .string (⟨#[]⟩ : ByteArray)]) ?_ 3 _ rfl; (with_reducible repeat (first | refine blk_drewN ?_ _ | refine blk_drew ?_ | refine blk_alloc ?_ _)); refine blk_put (cs := #[.string t140, .int .i64 t141, .slice none 0 0, .string (⟨#[]⟩ : ByteArray)]) ?_ 2 _ rfl; (with_reducible repeat (first | refine blk_drewN ?_ _ | refine blk_drew ?_ | refine blk_alloc ?_ _)); refine blk_put (cs := #[.string t140, .int .i64 0, .slice none 0 0, .string (⟨#[]⟩ : ByteArray)]) ?_ 1 _ rfl; (with_reducible repeat (first | refine blk_drewN ?_ _ | refine blk_drew ?_ | refine blk_alloc ?_ _)); refine blk_put (cs := #[.string (⟨#[]⟩ : ByteArray), .int .i64 0, .slice none 0 0, .string (⟨#[]⟩ : ByteArray)]) ?_ 0 _ rfl; (with_reducible repeat (first | refine blk_drewN ?_ _ | refine blk_drew ?_ | refine blk_alloc ?_ _)); refine blk_far ?_ NB144_143.out _; (with_reducible repeat (first | refine blk_drewN ?_ _ | refine blk_drew ?_ | refine blk_alloc ?_ _)); refine blk_far ?_ NB144_143.out _; (with_reducible repeat (first | refine blk_drewN ?_ _ | refine blk_drew ?_ | refine blk_alloc ?_ _)); refine blk_far ?_ NB144_143.out _; (with_reducible repeat (first | refine blk_drewN ?_ _ | refine blk_drew ?_ | refine blk_alloc ?_ _)); refine blk_far ?_ NB144_143.out _; (with_reducible repeat (first | refine blk_drewN ?_ _ | refine blk_drew ?_ | refine blk_alloc ?_ _)); exact BK144.out) hb); have n4_ := Aside0.mk (below_step (hbA HB) hb); clear BK101; clear BK102; clear BK143; clear BK144; clear HB; have BK101 := n0_; have BK102 := n1_; have BK143 := n2_; have BK144 := n3_; have HB := n4_; clear n0_ n1_ n2_ n3_ n4_; (try clear hb); (try clear hb2); (try clear hk); (try clear hi)))
       have n0_ := Aside0.mk (blk_drew BK101.out)
       have n1_ := Aside0.mk (blk_drew BK102.out)
       have n2_ := Aside0.mk (blk_drew BK143.out)
       have n3_ := Aside0.mk (blk_drew BK144.out)
       have n4_ := Aside0.mk (below_drew1 HB.out)
       clear BK101; clear BK102; clear BK143; clear BK144; clear HB; have BK101 := n0_; have BK102 := n1_; have BK143 := n2_; have BK144 := n3_; have HB := n4_; clear n0_ n1_ n2_ n3_ n4_
       refine start_ (n := 22) (S := fun w' => w'.cell? ⟨gb101, 0, none⟩ = some (.string a0_0) ∧ w'.cell? ⟨gb101, 1, none⟩ = some (.int .i64 a0_1) ∧ w'.cell? ⟨gb101, 2, none⟩ = some (.slice A0_2 l0_2.length c0_2) ∧ w'.cell? ⟨gb101, 3, none⟩ = some (.string a0_3) ∧ w'.cell? ⟨gb102, 0, none⟩ = some (.string a1_0) ∧ w'.cell? ⟨gb102, 1, none⟩ = some (.int .i64 a1_1) ∧ w'.cell? ⟨gb102, 2, none⟩ = some (.slice A1_2 l1_2.length c1_2) ∧ w'.cell? ⟨gb102, 3, none⟩ = some (.string a1_3) ∧ w'.cell? ⟨gb143, 0, none⟩ = some (.string t137) ∧ w'.cell? ⟨gb143, 1, none⟩ = some (.int .i64 t138) ∧ w'.cell? ⟨gb143, 2, none⟩ = some (.slice A0_2 l0_2.length c0_2) ∧ w'.cell? ⟨gb143, 3, none⟩ = some (.string t139) ∧ w'.cell? ⟨gb144, 0, none⟩ = some (.string t140) ∧ w'.cell? ⟨gb144, 1, none⟩ = some (.int .i64 t141) ∧ w'.cell? ⟨gb144, 2, none⟩ = some (.slice A1_2 l1_2.length c1_2) ∧ w'.cell? ⟨gb144, 3, none⟩ = some (.string t142)) (ds := []) #[false, false, false, false, false, false, false, false, false, false, false, false, false, false, false, false, false, false, false, false, false, false] (by kernel_rfl) rfl rfl ⟨bcA BK101 0, bcA BK101 1, bcA BK101 2, bcA BK101 3, bcA BK102 0, bcA BK102 1, bcA BK102 2, bcA BK102 3, bcA BK143 0, bcA BK143 1, bcA BK143 2, bcA BK143 3, bcA BK144 0, bcA BK144 1, bcA BK144 2, bcA BK144 3⟩ (fun hHeld => ?_); refine with_tabW agatelaw07_TensorTells.tab5 agatelaw07_TensorTells.bits5 (fun HT_ HW_ => ?_)
       generalize w59.drew = w60 at BK101 BK102 BK143 BK144 HB hHeld ⊢
       refine pure_ (i := 2) (N := some 64) (v := ?_) (a' := ?_) #[false, false, true, false, false, false, false, false, false, false, false, false, false, false, false, false, false, false, false, false, false, false] rfl rfl (any_of HT_.out (by kernel_rfl)) (fun _ _ _ h => h) (Or.inl ⟨by rfl, ?_⟩) ?_ ?_
       rotate_left
       ·
        intro w'
        go_simp
        with_reducible rfl
       rotate_left
       ·
        simp only [Act.put, List.setIfInBounds_toArray, List.set_cons_zero, List.set_cons_succ, i64_w, i32_w]
        rfl
       refine take_ (i := 0) (N := some 62) (v := ?_) (a' := ?_) #[true, false, true, false, false, false, false, false, false, false, false, false, false, false, false, false, false, false, false, false, false, false] rfl rfl (take_ofW HT_.out HW_.out (by kernel_rfl)) (fun _ _ _ h => h) (Or.inl ⟨by rfl, ?_⟩) hHeld ?_ ?_
       rotate_left
       ·
        rintro w' ⟨s0, s1, s2, s3, s4, s5, s6, s7, s8, s9, s10, s11, s12, s13, s14, s15⟩
        go_simp
        with_reducible rfl
       rotate_left
       ·
        simp only [Act.put, List.setIfInBounds_toArray, List.set_cons_zero, List.set_cons_succ, i64_w, i32_w]
        rfl
       refine one_ (i := 1) (N := some 63) #[true, true, true, false, false, false, false, false, false, false, false, false, false, false, false, false, false, false, false, false, false, false] rfl rfl (one_of HT_.out (by kernel_rfl)) (by decide) (fun K hK => ?_)
       refine goes_ Try.func38 (by kernel_rfl) rfl #[.agg #[.string a0_0, .int .i64 a0_1, .slice A0_2 l0_2.length c0_2, .string a0_3]] (by rfl) rfl rfl (by (try simp only [List.map_toArray, List.map_cons, List.map_nil]); first | done | rfl | (simp only [List.length_drop, List.length_take]; rfl)) ?_
       with_reducible refine (tensor_Tensor_Check_s.calls a0_0 a0_1 _ _ l0_2 a0_3 t146 _ ?side1 ?side2 A31.out).mono ?_
       (case side1 => repeat (first | exact (Kd.C_below HR0_2.out HB.out) | (with_reducible refine Kd.C_alloc ?_ _) | (with_reducible refine Kd.C_drewN ?_ _) | (with_reducible refine Kd.C_drew ?_)))
       (case side2 => exact HC0_2.out)
       rintro e w61 ⟨rfl, hb⟩
       refine ⟨_, rfl, ?_⟩
       have n0_ := Aside0.mk (blk_below (g := gb101) (bkA BK101) hb); have n1_ := Aside0.mk (blk_below (g := gb102) (bkA BK102) hb); have n2_ := Aside0.mk (blk_below (g := gb143) (bkA BK143) hb); have n3_ := Aside0.mk (blk_below (g := gb144) (bkA BK144) hb); have n4_ := Aside0.mk (below_step (hbA HB) hb); clear BK101; clear BK102; clear BK143; clear BK144; clear HB; have BK101 := n0_; have BK102 := n1_; have BK143 := n2_; have BK144 := n3_; have HB := n4_; clear n0_ n1_ n2_ n3_ n4_; try clear hb; try clear hk
       refine hK.out _ _ ⟨bcA BK101 0, bcA BK101 1, bcA BK101 2, bcA BK101 3, bcA BK102 0, bcA BK102 1, bcA BK102 2, bcA BK102 3, bcA BK143 0, bcA BK143 1, bcA BK143 2, bcA BK143 3, bcA BK144 0, bcA BK144 1, bcA BK144 2, bcA BK144 3⟩ (fun hHeld => ?_)
       clear hK K
       refine norm_ (a' := ?_) ?_ ?_
       rotate_left
       ·
        show Act.put _ (some 63) _ = _
        simp only [Act.put, List.setIfInBounds_toArray, List.set_cons_zero, List.set_cons_succ, i64_w, i32_w]
        rfl
       refine pure_ (i := 3) (N := some 65) (v := ?_) (a' := ?_) #[true, true, true, true, false, false, false, false, false, false, false, false, false, false, false, false, false, false, false, false, false, false] rfl rfl (any_of HT_.out (by kernel_rfl)) (fun _ _ _ h => h) (Or.inl ⟨by rfl, ?_⟩) ?_ ?_
       rotate_left
       ·
        intro w'
        go_simp
        with_reducible rfl
       rotate_left
       ·
        simp only [Act.put, List.setIfInBounds_toArray, List.set_cons_zero, List.set_cons_succ, i64_w, i32_w]
        rfl
       refine pure_ (i := 4) (N := some 66) (v := ?_) (a' := ?_) #[true, true, true, true, true, false, false, false, false, false, false, false, false, false, false, false, false, false, false, false, false, false] rfl rfl (any_of HT_.out (by kernel_rfl)) (fun _ _ _ h => h) (Or.inl ⟨by rfl, ?_⟩) ?_ ?_
       rotate_left
       ·
        intro w'
        go_simp
        with_reducible rfl
       rotate_left
       ·
        simp only [Act.put, List.setIfInBounds_toArray, List.set_cons_zero, List.set_cons_succ, i64_w, i32_w]
        rfl
       refine take_ (i := 5) (N := some 67) (v := ?_) (a' := ?_) #[true, true, true, true, true, true, false, false, false, false, false, false, false, false, false, false, false, false, false, false, false, false] rfl rfl (take_ofW HT_.out HW_.out (by kernel_rfl)) (fun _ _ _ h => h) (Or.inl ⟨by rfl, ?_⟩) hHeld ?_ ?_
       rotate_left
       ·
        rintro w' ⟨s0, s1, s2, s3, s4, s5, s6, s7, s8, s9, s10, s11, s12, s13, s14, s15⟩
        go_simp
        with_reducible rfl
       rotate_left
       ·
        simp only [Act.put, List.setIfInBounds_toArray, List.set_cons_zero, List.set_cons_succ, i64_w, i32_w]
        rfl
       refine take_ (i := 6) (N := some 68) (v := ?_) (a' := ?_) #[true, true, true, true, true, true, true, false, false, false, false, false, false, false, false, false, false, false, false, false, false, false] rfl rfl (take_ofW HT_.out HW_.out (by kernel_rfl)) (fun _ _ _ h => h) (Or.inl ⟨by rfl, ?_⟩) hHeld ?_ ?_
       rotate_left
       ·
        rintro w' ⟨s0, s1, s2, s3, s4, s5, s6, s7, s8, s9, s10, s11, s12, s13, s14, s15⟩
        go_simp
        with_reducible rfl
       rotate_left
       ·
        simp only [Act.put, List.setIfInBounds_toArray, List.set_cons_zero, List.set_cons_succ, i64_w, i32_w]
        rfl
       refine take_ (i := 8) (N := some 70) (v := ?_) (a' := ?_) #[true, true, true, true, true, true, true, false, true, false, false, false, false, false, false, false, false, false, false, false, false, false] rfl rfl (take_ofW HT_.out HW_.out (by kernel_rfl)) (fun _ _ _ h => h) (Or.inl ⟨by rfl, ?_⟩) hHeld ?_ ?_
       rotate_left
       ·
        rintro w' ⟨s0, s1, s2, s3, s4, s5, s6, s7, s8, s9, s10, s11, s12, s13, s14, s15⟩
        go_simp
        with_reducible rfl
       rotate_left
       ·
        simp only [Act.put, List.setIfInBounds_toArray, List.set_cons_zero, List.set_cons_succ, i64_w, i32_w]
        rfl
       refine take_ (i := 9) (N := some 71) (v := ?_) (a' := ?_) #[true, true, true, true, true, true, true, false, true, true, false, false, false, false, false, false, false, false, false, false, false, false] rfl rfl (take_ofW HT_.out HW_.out (by kernel_rfl)) (fun _ _ _ h => h) (Or.inl ⟨by rfl, ?_⟩) hHeld ?_ ?_
       rotate_left
       ·
        rintro w' ⟨s0, s1, s2, s3, s4, s5, s6, s7, s8, s9, s10, s11, s12, s13, s14, s15⟩
        go_simp
        with_reducible rfl
       rotate_left
       ·
        simp only [Act.put, List.setIfInBounds_toArray, List.set_cons_zero, List.set_cons_succ, i64_w, i32_w]
        rfl
       refine one_ (i := 7) (N := some 69) #[true, true, true, true, true, true, true, true, true, true, false, false, false, false, false, false, false, false, false, false, false, false] rfl rfl (one_of HT_.out (by kernel_rfl)) (by decide) (fun K hK => ?_)
       refine goes_ Try.func39 (by kernel_rfl) rfl #[.agg #[.string a0_0, .int .i64 a0_1, .slice A0_2 l0_2.length c0_2, .string a0_3], .agg #[.string a1_0, .int .i64 a1_1, .slice A1_2 l1_2.length c1_2, .string a1_3]] (by rfl) rfl rfl (by (try simp only [List.map_toArray, List.map_cons, List.map_nil]); first | done | rfl | (simp only [List.length_drop, List.length_take]; rfl)) ?_
       with_reducible refine (tensor_Tensor_Same.calls a0_0 a0_1 _ _ l0_2 a0_3 a1_0 a1_1 _ _ l1_2 a1_3 t147 _ ?side1 ?side2 ?side3 ?side4 A33.out).mono ?_
       (case side1 => repeat (first | exact (Kd.C_below HR0_2.out HB.out) | (with_reducible refine Kd.C_alloc ?_ _) | (with_reducible refine Kd.C_drewN ?_ _) | (with_reducible refine Kd.C_drew ?_)))
       (case side2 => exact HC0_2.out)
       (case side3 => repeat (first | exact (Kd.C_below HR1_2.out HB.out) | (with_reducible refine Kd.C_alloc ?_ _) | (with_reducible refine Kd.C_drewN ?_ _) | (with_reducible refine Kd.C_drew ?_)))
       (case side4 => exact HC1_2.out)
       rintro e w62 ⟨rfl, hb⟩
       refine ⟨_, rfl, ?_⟩
       have n0_ := Aside0.mk (blk_below (g := gb101) (bkA BK101) hb); have n1_ := Aside0.mk (blk_below (g := gb102) (bkA BK102) hb); have n2_ := Aside0.mk (blk_below (g := gb143) (bkA BK143) hb); have n3_ := Aside0.mk (blk_below (g := gb144) (bkA BK144) hb); have n4_ := Aside0.mk (below_step (hbA HB) hb); clear BK101; clear BK102; clear BK143; clear BK144; clear HB; have BK101 := n0_; have BK102 := n1_; have BK143 := n2_; have BK144 := n3_; have HB := n4_; clear n0_ n1_ n2_ n3_ n4_; try clear hb; try clear hk
       refine hK.out _ _ ⟨bcA BK101 0, bcA BK101 1, bcA BK101 2, bcA BK101 3, bcA BK102 0, bcA BK102 1, bcA BK102 2, bcA BK102 3, bcA BK143 0, bcA BK143 1, bcA BK143 2, bcA BK143 3, bcA BK144 0, bcA BK144 1, bcA BK144 2, bcA BK144 3⟩ (fun hHeld => ?_)
       clear hK K
       refine norm_ (a' := ?_) ?_ ?_
       rotate_left
       ·
        show Act.put _ (some 69) _ = _
        simp only [Act.put, List.setIfInBounds_toArray, List.set_cons_zero, List.set_cons_succ, i64_w, i32_w]
        rfl
       refine one_ (i := 10) (N := some 72) #[true, true, true, true, true, true, true, true, true, true, true, false, false, false, false, false, false, false, false, false, false, false] rfl rfl (one_of HT_.out (by kernel_rfl)) (by decide) (fun K hK => ?_)
       refine goes_ Try.func40 (by kernel_rfl) rfl #[.agg #[.string t137, .int .i64 t138, .slice A0_2 l0_2.length c0_2, .string t139], .agg #[.string t140, .int .i64 t141, .slice A1_2 l1_2.length c1_2, .string t142]] (by rfl) rfl rfl (by (try simp only [List.map_toArray, List.map_cons, List.map_nil]); first | done | rfl | (simp only [List.length_drop, List.length_take]; rfl)) ?_
       with_reducible refine (agateref07_Same_s.calls t137 t138 _ _ l0_2 t139 t140 t141 _ _ l1_2 t142 t148 _ ?side1 ?side2 ?side3 ?side4 A34.out).mono ?_
       (case side1 => repeat (first | exact (Kd.C_below HR0_2.out HB.out) | (with_reducible refine Kd.C_alloc ?_ _) | (with_reducible refine Kd.C_drewN ?_ _) | (with_reducible refine Kd.C_drew ?_)))
       (case side2 => exact HC0_2.out)
       (case side3 => repeat (first | exact (Kd.C_below HR1_2.out HB.out) | (with_reducible refine Kd.C_alloc ?_ _) | (with_reducible refine Kd.C_drewN ?_ _) | (with_reducible refine Kd.C_drew ?_)))
       (case side4 => exact HC1_2.out)
       rintro e w63 ⟨rfl, hb⟩
       refine ⟨_, rfl, ?_⟩
       have n0_ := Aside0.mk (blk_below (g := gb101) (bkA BK101) hb); have n1_ := Aside0.mk (blk_below (g := gb102) (bkA BK102) hb); have n2_ := Aside0.mk (blk_below (g := gb143) (bkA BK143) hb); have n3_ := Aside0.mk (blk_below (g := gb144) (bkA BK144) hb); have n4_ := Aside0.mk (below_step (hbA HB) hb); clear BK101; clear BK102; clear BK143; clear BK144; clear HB; have BK101 := n0_; have BK102 := n1_; have BK143 := n2_; have BK144 := n3_; have HB := n4_; clear n0_ n1_ n2_ n3_ n4_; try clear hb; try clear hk
       refine hK.out _ _ ⟨bcA BK101 0, bcA BK101 1, bcA BK101 2, bcA BK101 3, bcA BK102 0, bcA BK102 1, bcA BK102 2, bcA BK102 3, bcA BK143 0, bcA BK143 1, bcA BK143 2, bcA BK143 3, bcA BK144 0, bcA BK144 1, bcA BK144 2, bcA BK144 3⟩ (fun hHeld => ?_)
       clear hK K
       refine norm_ (a' := ?_) ?_ ?_
       rotate_left
       ·
        show Act.put _ (some 72) _ = _
        simp only [Act.put, List.setIfInBounds_toArray, List.set_cons_zero, List.set_cons_succ, i64_w, i32_w]
        rfl
       refine pure_ (i := 11) (N := some 73) (v := ?_) (a' := ?_) #[true, true, true, true, true, true, true, true, true, true, true, true, false, false, false, false, false, false, false, false, false, false] rfl rfl (any_of HT_.out (by kernel_rfl)) (fun _ _ _ h => h) (Or.inl ⟨by rfl, ?_⟩) ?_ ?_
       rotate_left
       ·
        intro w'
        go_simp
        with_reducible rfl
       rotate_left
       ·
        simp only [Act.put, List.setIfInBounds_toArray, List.set_cons_zero, List.set_cons_succ, i64_w, i32_w]
        rfl
       refine pure_ (i := 12) (N := some 74) (v := ?_) (a' := ?_) #[true, true, true, true, true, true, true, true, true, true, true, true, true, false, false, false, false, false, false, false, false, false] rfl rfl (any_of HT_.out (by kernel_rfl)) (fun _ _ _ h => h) (Or.inl ⟨by rfl, ?_⟩) ?_ ?_
       rotate_left
       ·
        intro w'
        go_simp
        with_reducible rfl
       rotate_left
       ·
        simp only [Act.put, List.setIfInBounds_toArray, List.set_cons_zero, List.set_cons_succ, i64_w, i32_w]
        rfl
       refine pure_ (i := 13) (N := some 75) (v := ?_) (a' := ?_) #[true, true, true, true, true, true, true, true, true, true, true, true, true, true, false, false, false, false, false, false, false, false] rfl rfl (any_of HT_.out (by kernel_rfl)) (fun _ _ _ h => h) (Or.inl ⟨by rfl, ?_⟩) ?_ ?_
       rotate_left
       ·
        intro w'
        go_simp
        with_reducible rfl
       rotate_left
       ·
        simp only [Act.put, List.setIfInBounds_toArray, List.set_cons_zero, List.set_cons_succ, i64_w, i32_w]
        rfl
       refine pure_ (i := 14) (N := some 76) (v := ?_) (a' := ?_) #[true, true, true, true, true, true, true, true, true, true, true, true, true, true, true, false, false, false, false, false, false, false] rfl rfl (any_of HT_.out (by kernel_rfl)) (fun _ _ _ h => h) (Or.inl ⟨by rfl, ?_⟩) ?_ ?_
       rotate_left
       ·
        intro w'
        go_simp
        with_reducible rfl
       rotate_left
       ·
        simp only [Act.put, List.setIfInBounds_toArray, List.set_cons_zero, List.set_cons_succ, i64_w, i32_w]
        rfl
       refine pure_ (i := 17) (N := some 79) (v := ?_) (a' := ?_) #[true, true, true, true, true, true, true, true, true, true, true, true, true, true, true, false, false, true, false, false, false, false] rfl rfl (any_of HT_.out (by kernel_rfl)) (fun _ _ _ h => h) (Or.inl ⟨by rfl, ?_⟩) ?_ ?_
       rotate_left
       ·
        intro w'
        go_simp
        with_reducible rfl
       rotate_left
       ·
        simp only [Act.put, List.setIfInBounds_toArray, List.set_cons_zero, List.set_cons_succ, i64_w, i32_w]
        rfl
       refine take_ (i := 15) (N := some 77) (v := ?_) (a' := ?_) #[true, true, true, true, true, true, true, true, true, true, true, true, true, true, true, true, false, true, false, false, false, false] rfl rfl (take_ofW HT_.out HW_.out (by kernel_rfl)) (fun _ _ _ h => h) (Or.inl ⟨by rfl, ?_⟩) hHeld ?_ ?_
       rotate_left
       ·
        rintro w' ⟨s0, s1, s2, s3, s4, s5, s6, s7, s8, s9, s10, s11, s12, s13, s14, s15⟩
        go_simp
        with_reducible rfl
       rotate_left
       ·
        simp only [Act.put, List.setIfInBounds_toArray, List.set_cons_zero, List.set_cons_succ, i64_w, i32_w]
        rfl
       refine take_ (i := 18) (N := some 80) (v := ?_) (a' := ?_) #[true, true, true, true, true, true, true, true, true, true, true, true, true, true, true, true, false, true, true, false, false, false] rfl rfl (take_ofW HT_.out HW_.out (by kernel_rfl)) (fun _ _ _ h => h) (Or.inl ⟨by rfl, ?_⟩) hHeld ?_ ?_
       rotate_left
       ·
        rintro w' ⟨s0, s1, s2, s3, s4, s5, s6, s7, s8, s9, s10, s11, s12, s13, s14, s15⟩
        go_simp
        with_reducible rfl
       rotate_left
       ·
        simp only [Act.put, List.setIfInBounds_toArray, List.set_cons_zero, List.set_cons_succ, i64_w, i32_w]
        rfl
       refine one_ (i := 16) (N := some 78) #[true, true, true, true, true, true, true, true, true, true, true, true, true, true, true, true, true, true, true, false, false, false] rfl rfl (one_of HT_.out (by kernel_rfl)) (by decide) (fun K hK => ?_)
       refine goes_ Try.func41 (by kernel_rfl) rfl #[.string a0_0] (by rfl) rfl rfl (by (try simp only [List.map_toArray, List.map_cons, List.map_nil]); first | done | rfl | (simp only [List.length_drop, List.length_take]; rfl)) ?_
       with_reducible refine (tensor_Name_s.calls a0_0 t149 _ A36.out).mono ?_
       rintro e w' ⟨rfl, ⟨nd, rfl⟩⟩
       refine ⟨_, rfl, ?_⟩
       refine hK.out _ _ ⟨bcA BK101 0, bcA BK101 1, bcA BK101 2, bcA BK101 3, bcA BK102 0, bcA BK102 1, bcA BK102 2, bcA BK102 3, bcA BK143 0, bcA BK143 1, bcA BK143 2, bcA BK143 3, bcA BK144 0, bcA BK144 1, bcA BK144 2, bcA BK144 3⟩ (fun hHeld => ?_)
       clear hK K
       refine norm_ (a' := ?_) ?_ ?_
       rotate_left
       ·
        show Act.put _ (some 78) _ = _
        simp only [Act.put, List.setIfInBounds_toArray, List.set_cons_zero, List.set_cons_succ, i64_w, i32_w]
        rfl
       refine one_ (i := 19) (N := some 81) #[true, true, true, true, true, true, true, true, true, true, true, true, true, true, true, true, true, true, true, true, false, false] rfl rfl (one_of HT_.out (by kernel_rfl)) (by decide) (fun K hK => ?_)
       refine goes_ Try.func42 (by kernel_rfl) rfl #[.string a0_0] (by rfl) rfl rfl (by (try simp only [List.map_toArray, List.map_cons, List.map_nil]); first | done | rfl | (simp only [List.length_drop, List.length_take]; rfl)) ?_
       with_reducible refine (agateref07_Name_s.calls a0_0 t150 _ A37.out).mono ?_
       rintro e w' ⟨rfl, ⟨nd, rfl⟩⟩
       refine ⟨_, rfl, ?_⟩
       refine hK.out _ _ ⟨bcA BK101 0, bcA BK101 1, bcA BK101 2, bcA BK101 3, bcA BK102 0, bcA BK102 1, bcA BK102 2, bcA BK102 3, bcA BK143 0, bcA BK143 1, bcA BK143 2, bcA BK143 3, bcA BK144 0, bcA BK144 1, bcA BK144 2, bcA BK144 3⟩ (fun hHeld => ?_)
       clear hK K
       refine norm_ (a' := ?_) ?_ ?_
       rotate_left
       ·
        show Act.put _ (some 81) _ = _
        simp only [Act.put, List.setIfInBounds_toArray, List.set_cons_zero, List.set_cons_succ, i64_w, i32_w]
        rfl
       refine pure_ (i := 20) (N := some 82) (v := ?_) (a' := ?_) #[true, true, true, true, true, true, true, true, true, true, true, true, true, true, true, true, true, true, true, true, true, false] rfl rfl (any_of HT_.out (by kernel_rfl)) (fun _ _ _ h => h) (Or.inl ⟨by rfl, ?_⟩) ?_ ?_
       rotate_left
       ·
        intro w'
        go_simp
        with_reducible rfl
       rotate_left
       ·
        simp only [Act.put, List.setIfInBounds_toArray, List.set_cons_zero, List.set_cons_succ, i64_w, i32_w]
        rfl
       refine pure_ (i := 21) (N := some 83) (v := ?_) (a' := ?_) #[true, true, true, true, true, true, true, true, true, true, true, true, true, true, true, true, true, true, true, true, true, true] rfl rfl (any_of HT_.out (by kernel_rfl)) (fun _ _ _ h => h) (Or.inl ⟨by rfl, ?_⟩) ?_ ?_
       rotate_left
       ·
        intro w'
        go_simp
        with_reducible rfl
       rotate_left
       ·
        simp only [Act.put, List.setIfInBounds_toArray, List.set_cons_zero, List.set_cons_succ, i64_w, i32_w]
        rfl
       refine done_ (done_of HT_.out (by kernel_rfl)) ?_
       have hcz64_0 : w63.cell? ⟨gb143, 0, none⟩ = some (.string t137) := bcA BK143 0; have hcz64_1 : w63.cell? ⟨gb143, 1, none⟩ = some (.int .i64 t138) := bcA BK143 1; have hcz64_2 : w63.cell? ⟨gb143, 2, none⟩ = some (.slice A0_2 l0_2.length c0_2) := bcA BK143 2; have hcz64_3 : w63.cell? ⟨gb143, 3, none⟩ = some (.string t139) := bcA BK143 3; have hfz64_0 := blk_frozen BK143.out 0; have hfz64_1 := blk_frozen BK143.out 1; have hfz64_2 := blk_frozen BK143.out 2; have hfz64_3 := blk_frozen BK143.out 3
       go_upto_region 9 with (first | ((with_reducible refine gate_callee (f := 43) rfl ?_); refine goesL_ (some 86) rfl rfl Try.func43 (by kernel_rfl) rfl #[.int .i64 t138] rfl (by (try simp only [List.map_toArray, List.map_cons, List.map_nil]); first | done | rfl | (simp only [List.length_drop, List.length_take]; rfl)) ?_; (with_reducible refine (agateref04_Size_s.calls t138 t153 _ A39.out).mono ?_); rintro e w' ⟨rfl, ⟨nd, rfl⟩⟩; refine ⟨_, rfl, ?_⟩))
       (try simp only [Act.put, List.setIfInBounds_toArray, List.set_cons_zero, List.set_cons_succ])
       go_cut [101] from 55 to 100 (fun v101 wc => ∃ (kq : Nat) (x101_39 : Bool), v101 = .bool x101_39 ∧ Aside0 (agatelaw07_TensorTells.j1 kq a2 t145 t153 (⟨#[]⟩ : ByteArray) x101_39 a0_0 a0_1 l0_2 a0_3 t137 t138 l0_2 t139 = some r) ∧ Aside0 (kq ≤ kj3) ∧ Aside0 (wc.heap[gb101]? = some (.cells #[.string a0_0, .int .i64 a0_1, (.slice A0_2 l0_2.length c0_2), .string a0_3] 62 (0, 0))) ∧ Aside0 (wc.heap[gb102]? = some (.cells #[.string a1_0, .int .i64 a1_1, (.slice A1_2 l1_2.length c1_2), .string a1_3] 62 (0, 0))) ∧ Aside0 (wc.heap[gb143]? = some (.cells #[.string t137, .int .i64 t138, (.slice A0_2 l0_2.length c0_2), .string t139] 64 (0, 0))) ∧ Aside0 (wc.heap[gb144]? = some (.cells #[.string t140, .int .i64 t141, (.slice A1_2 l1_2.length c1_2), .string t142] 64 (0, 0))) ∧ Aside0 (Below w.heap.size w wc))
       case first =>
        have H := HC40.out; clear HC40
        by_cases c65 : t153 > 0
        ·
         rw [if_pos c65] at H
         have c65b0 : decide (0 < t153) = true := decide_eq_true c65
         clear c65
         (first | rw [c65b0] | (simp only [i64_w, i32_w]; rw [c65b0]) | skip)
         by_cases c66 : a2 ≥ 0
         ·
          rw [if_pos c66] at H
          have c66b0 : decide (0 ≤ a2) = true := decide_eq_true c66
          clear c66
          by_cases c67 : t153 = 0
          ·
           rw [if_pos c67] at H
           exact absurd H (by simp)
          ·
           rw [if_neg c67] at H
           have c67b0 : (t153 == 0) = false := beq_eq_false_iff_ne.mpr c67
           have c67b1 : (t153 != 0) = true := bne_iff_ne.mpr c67
           have H' := Aside0.mk H
           clear H; have hnb68 := NB101_102.out; have hnc68 := NB102_101.out; have hnb69 := NB101_143.out; have hnc69 := NB143_101.out; have hnb70 := NB101_144.out; have hnc70 := NB144_101.out; have hcz71_0 : w63.cell? ⟨gb101, 0, none⟩ = some (.string a0_0) := bcA BK101 0; have hcz71_1 : w63.cell? ⟨gb101, 1, none⟩ = some (.int .i64 a0_1) := bcA BK101 1; have hcz71_2 : w63.cell? ⟨gb101, 2, none⟩ = some (.slice A0_2 l0_2.length c0_2) := bcA BK101 2; have hcz71_3 : w63.cell? ⟨gb101, 3, none⟩ = some (.string a0_3) := bcA BK101 3; have hfz71_0 := blk_frozen BK101.out 0; have hfz71_1 := blk_frozen BK101.out 1; have hfz71_2 := blk_frozen BK101.out 2; have hfz71_3 := blk_frozen BK101.out 3
           go_wp2
           go_meet
           case rel => exact ⟨_, (decide (a2 < (wrap64 ((a0_3.size : Int) / t153)))), (by first | rfl | (simp; done) | (simp [*]; done)), H', ⟨by have := HJ3.out; first | omega | exact Nat.le_refl _⟩, ⟨bkA BK101⟩, ⟨bkA BK102⟩, ⟨bkA BK143⟩, ⟨bkA BK144⟩, ⟨hbA HB⟩⟩
         ·
          rw [if_neg c66] at H
          have c66b0 : decide (0 ≤ a2) = false := decide_eq_false c66
          clear c66
          have H' := Aside0.mk H
          clear H
          go_wp2
          go_meet
          case rel => exact ⟨_, (false), (by first | rfl | (simp; done) | (simp [*]; done)), H', ⟨by have := HJ3.out; first | omega | exact Nat.le_refl _⟩, ⟨bkA BK101⟩, ⟨bkA BK102⟩, ⟨bkA BK143⟩, ⟨bkA BK144⟩, ⟨hbA HB⟩⟩
        ·
         rw [if_neg c65] at H
         have c65b0 : decide (0 < t153) = false := decide_eq_false c65
         clear c65
         (first | rw [c65b0] | (simp only [i64_w, i32_w]; rw [c65b0]) | skip)
         have H' := Aside0.mk H
         clear H
         go_wp2
         go_meet
         case rel => exact ⟨_, (false), (by first | rfl | (simp; done) | (simp [*]; done)), H', ⟨by have := HJ3.out; first | omega | exact Nat.le_refl _⟩, ⟨bkA BK101⟩, ⟨bkA BK102⟩, ⟨bkA BK143⟩, ⟨bkA BK144⟩, ⟨hbA HB⟩⟩
       case rest =>
        clear HC40; try clear c7; try clear c38; try clear c65; try clear c65b0; try clear c66; try clear c66b0; try clear c67; try clear c67b0; try clear c67b1; try clear hcz58_0; try clear hcz58_1; try clear hcz58_2; try clear hcz58_3; try clear hcz64_0; try clear hcz64_1; try clear hcz64_2; try clear hcz64_3; try clear hcz71_0; try clear hcz71_1; try clear hcz71_2; try clear hcz71_3; try clear hfz58_0; try clear hfz58_1; try clear hfz58_2; try clear hfz58_3; try clear hfz64_0; try clear hfz64_1; try clear hfz64_2; try clear hfz64_3; try clear hfz71_0; try clear hfz71_1; try clear hfz71_2; try clear hfz71_3
        obtain ⟨kq, x101_39, rfl, HA, HJ39, BK101, BK102, BK143, BK144, HB⟩ := hcut
        cases kq with
        | zero => exact absurd HA.out (by simp [agatelaw07_TensorTells.j1])
        | succ kj39 =>
         have H := HA.out; clear HA
         simp only [agatelaw07_TensorTells.j1] at H
         have HC72 := Aside0.mk H
         clear H
         go_upto_if 101 with (fail)
         go_cut [11] from 102 to 137 (fun v11 wc => ∃ (kq : Nat) (x11_71 : ByteArray), v11 = .string x11_71 ∧ Aside0 (agatelaw07_TensorTells.j2 kq a2 t145 x11_71 a0_0 a0_1 l0_2 a0_3 t137 t138 l0_2 t139 = some r) ∧ Aside0 (kq ≤ kj39) ∧ Aside0 (wc.heap[gb101]? = some (.cells #[.string a0_0, .int .i64 a0_1, (.slice A0_2 l0_2.length c0_2), .string a0_3] 62 (0, 0))) ∧ Aside0 (wc.heap[gb102]? = some (.cells #[.string a1_0, .int .i64 a1_1, (.slice A1_2 l1_2.length c1_2), .string a1_3] 62 (0, 0))) ∧ Aside0 (wc.heap[gb143]? = some (.cells #[.string t137, .int .i64 t138, (.slice A0_2 l0_2.length c0_2), .string t139] 64 (0, 0))) ∧ Aside0 (wc.heap[gb144]? = some (.cells #[.string t140, .int .i64 t141, (.slice A1_2 l1_2.length c1_2), .string t142] 64 (0, 0))) ∧ Aside0 (Below w.heap.size w wc))
         case first =>
          have H := HC72.out; clear HC72
          by_cases c73 : x101_39 = true
          ·
           subst c73
           have H1 : (if 0 ≤ (wrap64 (a2 * t153)) then (if (wrap64 (a2 * t153)) ≤ (wrap64 ((wrap64 (a2 * t153)) + t153)) then (if (wrap64 ((wrap64 (a2 * t153)) + t153)) ≤ (a0_3.size : Int) then (agatelaw07_TensorTells.j2 kj39 a2 t145 (a0_3.extract ((wrap64 (a2 * t153)) : Int).toNat ((wrap64 ((wrap64 (a2 * t153)) + t153)) : Int).toNat) a0_0 a0_1 l0_2 a0_3 t137 t138 l0_2 t139) else (none)) else (none)) else (none)) = some r := by rw [if_pos rfl] at H; exact H
           clear H
           have H := H1
           clear H1
           obtain ⟨ji74, hji74⟩ : ∃ j_ : Int, (wrap64 (a2 * t153)) = j_ := ⟨_, rfl⟩
           replace H : (if 0 ≤ (ji74) then (if (ji74) ≤ (wrap64 ((ji74) + t153)) then (if (wrap64 ((ji74) + t153)) ≤ (a0_3.size : Int) then (agatelaw07_TensorTells.j2 kj39 a2 t145 (a0_3.extract ((ji74) : Int).toNat ((wrap64 ((ji74) + t153)) : Int).toNat) a0_0 a0_1 l0_2 a0_3 t137 t138 l0_2 t139) else (none)) else (none)) else (none)) = some r := by first | (rw [hji74] at H; exact H) | (simp only [hji74] at H ⊢; exact H)
           have hji74w : (IntKind.i64.wrap (a2 * t153)) = ji74 := (i64_w _).trans hji74
           by_cases c75 : 0 ≤ (ji74)
           ·
            rw [if_pos c75] at H
            have c75b0 := eq_true c75
            have c75b1 : decide (0 ≤ (ji74)) = true := decide_eq_true c75
            clear c75
            by_cases c76 : (ji74) ≤ (wrap64 ((ji74) + t153))
            ·
             rw [if_pos c76] at H
             have c76b0 := eq_true c76
             have c76b1 : decide ((ji74) ≤ (wrap64 ((ji74) + t153))) = true := decide_eq_true c76
             by_cases c77 : (wrap64 ((ji74) + t153)) ≤ (a0_3.size : Int)
             ·
              rw [if_pos c77] at H
              have c77b0 := eq_true c77
              have c77b1 : decide ((wrap64 ((ji74) + t153)) ≤ (a0_3.size : Int)) = true := decide_eq_true c77
              have H' := Aside0.mk H
              clear H; have hnb78 := NB101_102.out; have hnc78 := NB102_101.out; have hnb79 := NB101_143.out; have hnc79 := NB143_101.out; have hnb80 := NB101_144.out; have hnc80 := NB144_101.out; have hcz81_0 : wc.cell? ⟨gb101, 0, none⟩ = some (.string a0_0) := bcA BK101 0; have hcz81_1 : wc.cell? ⟨gb101, 1, none⟩ = some (.int .i64 a0_1) := bcA BK101 1; have hcz81_2 : wc.cell? ⟨gb101, 2, none⟩ = some (.slice A0_2 l0_2.length c0_2) := bcA BK101 2; have hcz81_3 : wc.cell? ⟨gb101, 3, none⟩ = some (.string a0_3) := bcA BK101 3; have hfz81_0 := blk_frozen BK101.out 0; have hfz81_1 := blk_frozen BK101.out 1; have hfz81_2 := blk_frozen BK101.out 2; have hfz81_3 := blk_frozen BK101.out 3
              go_wp2
              go_meet
              case rel => exact ⟨_, (a0_3.extract ((ji74) : Int).toNat ((wrap64 ((ji74) + t153)) : Int).toNat), (by first | rfl | (simp; done) | (simp only [← hji74] <;> (first | rfl | simp)) | (simp [*]; done)), H', ⟨by have := HJ3.out; have := HJ39.out; first | omega | exact Nat.le_refl _⟩, ⟨bkA BK101⟩, ⟨bkA BK102⟩, ⟨bkA BK143⟩, ⟨bkA BK144⟩, ⟨hbA HB⟩⟩
             ·
              rw [if_neg c77] at H
              exact absurd H (by simp)
            ·
             rw [if_neg c76] at H
             exact absurd H (by simp)
           ·
            rw [if_neg c75] at H
            exact absurd H (by simp)
          ·
           replace c73 := Bool.eq_false_iff.mpr c73
           subst c73
           have H1 : (agatelaw07_TensorTells.j2 kj39 a2 t145 (⟨#[]⟩ : ByteArray) a0_0 a0_1 l0_2 a0_3 t137 t138 l0_2 t139) = some r := by rw [if_neg (show ¬ (false = true) by decide)] at H; exact H
           clear H
           have H := H1
           clear H1
           have H' := Aside0.mk H
           clear H
           go_wp2
           go_meet
           case rel => exact ⟨_, ((⟨#[]⟩ : ByteArray)), (by first | rfl | (simp; done) | (simp [*]; done)), H', ⟨by have := HJ3.out; have := HJ39.out; first | omega | exact Nat.le_refl _⟩, ⟨bkA BK101⟩, ⟨bkA BK102⟩, ⟨bkA BK143⟩, ⟨bkA BK144⟩, ⟨hbA HB⟩⟩
         case rest =>
          clear HC72; try clear c7; try clear c38; try clear c65; try clear c65b0; try clear c66; try clear c66b0; try clear c67; try clear c67b0; try clear c67b1; try clear c73; try clear c75; try clear c75b0; try clear c75b1; try clear c76; try clear c76b0; try clear c76b1; try clear c77; try clear c77b0; try clear c77b1; try clear hcz58_0; try clear hcz58_1; try clear hcz58_2; try clear hcz58_3; try clear hcz64_0; try clear hcz64_1; try clear hcz64_2; try clear hcz64_3; try clear hcz71_0; try clear hcz71_1; try clear hcz71_2; try clear hcz71_3; try clear hcz81_0; try clear hcz81_1; try clear hcz81_2; try clear hcz81_3; try clear hfz58_0; try clear hfz58_1; try clear hfz58_2; try clear hfz58_3; try clear hfz64_0; try clear hfz64_1; try clear hfz64_2; try clear hfz64_3; try clear hfz71_0; try clear hfz71_1; try clear hfz71_2; try clear hfz71_3; try clear hfz81_0; try clear hfz81_1; try clear hfz81_2; try clear hfz81_3
          obtain ⟨kq, x11_71, rfl, HA, HJ71, BK101, BK102, BK143, BK144, HB⟩ := hcut
          cases kq with
          | zero => exact absurd HA.out (by simp [agatelaw07_TensorTells.j2])
          | succ kj71 =>
           have H := HA.out; clear HA
           simp only [agatelaw07_TensorTells.j2] at H
           replace H := Option.bind_eq_some_iff.mp H
           obtain ⟨t195, A820, H⟩ := H
           replace H : (if t195.toList = x11_71.toList then ((tensor_Tensor_Ints.f a0_0 a0_1 l0_2 a0_3).bind fun bt211 => ((tensor_Tensor_Flags.f a0_0 a0_1 l0_2 a0_3).bind fun bt215 => ((tensor_Tensor_Nums.f a0_0 a0_1 l0_2 a0_3).bind fun bt219 => ((some (([bt211.2, bt215.2, bt219.2] : List Int) : List Int)).bind fun y223 => (agatelaw07_TensorTells.l0 kj71 t145 bt211.1 bt211.2 bt215.1 bt215.2 bt219.1 bt219.2 y223 (y223.length : Int) 0 a0_0 a0_1 l0_2 a0_3 t137 t138 l0_2 t139))))) else (none)) = some r := H
           have A82 := Aside0.mk A820
           clear A820
           by_cases c83 : t195.toList = x11_71.toList
           ·
            rw [if_pos c83] at H
            have c83b0 : (t195.toList == x11_71.toList) = true := beq_iff_eq.mpr c83
            have c83b1 : (t195.toList != x11_71.toList) = false := bne_eq_false_iff_eq.mpr c83
            clear c83
            replace H := Option.bind_eq_some_iff.mp H
            obtain ⟨⟨t211, t214⟩, A840, H⟩ := H
            replace H : ((tensor_Tensor_Flags.f a0_0 a0_1 l0_2 a0_3).bind fun bt215 => ((tensor_Tensor_Nums.f a0_0 a0_1 l0_2 a0_3).bind fun bt219 => ((some (([t214, bt215.2, bt219.2] : List Int) : List Int)).bind fun y223 => (agatelaw07_TensorTells.l0 kj71 t145 t211 t214 bt215.1 bt215.2 bt219.1 bt219.2 y223 (y223.length : Int) 0 a0_0 a0_1 l0_2 a0_3 t137 t138 l0_2 t139)))) = some r := H
            have A84 := Aside0.mk A840
            clear A840
            replace H := Option.bind_eq_some_iff.mp H
            obtain ⟨⟨t215, t218⟩, A850, H⟩ := H
            replace H : ((tensor_Tensor_Nums.f a0_0 a0_1 l0_2 a0_3).bind fun bt219 => ((some (([t214, t218, bt219.2] : List Int) : List Int)).bind fun y223 => (agatelaw07_TensorTells.l0 kj71 t145 t211 t214 t215 t218 bt219.1 bt219.2 y223 (y223.length : Int) 0 a0_0 a0_1 l0_2 a0_3 t137 t138 l0_2 t139))) = some r := H
            have A85 := Aside0.mk A850
            clear A850
            replace H := Option.bind_eq_some_iff.mp H
            obtain ⟨⟨t219, t222⟩, A860, H⟩ := H
            replace H : ((some (([t214, t218, t222] : List Int) : List Int)).bind fun y223 => (agatelaw07_TensorTells.l0 kj71 t145 t211 t214 t215 t218 t219 t222 y223 (y223.length : Int) 0 a0_0 a0_1 l0_2 a0_3 t137 t138 l0_2 t139)) = some r := H
            have A86 := Aside0.mk A860
            clear A860
            obtain ⟨y223, hy223⟩ : ∃ y_ : List Int, y_ = (([t214, t218, t222] : List Int)) := ⟨_, rfl⟩
            replace H : (agatelaw07_TensorTells.l0 kj71 t145 t211 t214 t215 t218 t219 t222 y223 (y223.length : Int) 0 a0_0 a0_1 l0_2 a0_3 t137 t138 l0_2 t139) = some r := by first | (rw [hy223]; with_reducible exact H) | (have H2_ := (Option.bind_some _ _).symm.trans H; rw [hy223]; with_reducible exact H2_) | (have H2_ := (Option.bind_some _ _).symm.trans H; with_reducible exact H2_) | with_reducible exact H | (rw [hy223]; exact H) | exact H
            have Ny223 := Aside0.mk hy223
            clear hy223
            have H' := Aside0.mk H
            clear H; have hnb87 := NB101_102.out; have hnc87 := NB102_101.out; have hnb88 := NB101_143.out; have hnc88 := NB143_101.out; have hnb89 := NB101_144.out; have hnc89 := NB144_101.out; have hcz90_0 : wc.cell? ⟨gb101, 0, none⟩ = some (.string a0_0) := bcA BK101 0; have hcz90_1 : wc.cell? ⟨gb101, 1, none⟩ = some (.int .i64 a0_1) := bcA BK101 1; have hcz90_2 : wc.cell? ⟨gb101, 2, none⟩ = some (.slice A0_2 l0_2.length c0_2) := bcA BK101 2; have hcz90_3 : wc.cell? ⟨gb101, 3, none⟩ = some (.string a0_3) := bcA BK101 3; have hfz90_0 := blk_frozen BK101.out 0; have hfz90_1 := blk_frozen BK101.out 1; have hfz90_2 := blk_frozen BK101.out 2; have hfz90_3 := blk_frozen BK101.out 3
            go_wp2_with (first | ((with_reducible refine gate_callee (f := 44) rfl ?_); refine goesL_ (some 115) rfl rfl Try.func44 (by kernel_rfl) rfl #[.agg #[.string a0_0, .int .i64 a0_1, .slice A0_2 l0_2.length c0_2, .string a0_3], .int .i64 a2] rfl (by (try simp only [List.map_toArray, List.map_cons, List.map_nil]); first | done | rfl | (simp only [List.length_drop, List.length_take]; rfl)) ?_; (with_reducible refine (tensor_Tensor_Elem.calls a0_0 a0_1 _ _ l0_2 a0_3 a2 t195 _ ?side1 ?side2 A82.out).mono ?_); (case side1 => repeat (first | exact (Kd.C_below HR0_2.out HB.out) | (with_reducible refine Kd.C_alloc ?_ _) | (with_reducible refine Kd.C_drewN ?_ _) | (with_reducible refine Kd.C_drew ?_))); (case side2 => exact HC0_2.out); rintro e w91 ⟨rfl, hb⟩; refine ⟨_, rfl, ?_⟩; have n0_ := Aside0.mk (blk_below (g := gb101) (bkA BK101) hb); have n1_ := Aside0.mk (blk_below (g := gb102) (bkA BK102) hb); have n2_ := Aside0.mk (blk_below (g := gb143) (bkA BK143) hb); have n3_ := Aside0.mk (blk_below (g := gb144) (bkA BK144) hb); have n4_ := Aside0.mk (below_step (hbA HB) hb); clear BK101; clear BK102; clear BK143; clear BK144; clear HB; have BK101 := n0_; have BK102 := n1_; have BK143 := n2_; have BK144 := n3_; have HB := n4_; clear n0_ n1_ n2_ n3_ n4_; (try clear hb); (try clear hb2); (try clear hk); (try clear hi); have hcz92_0 : w91.cell? ⟨gb101, 0, none⟩ = some (.string a0_0) := bcA BK101 0; have hcz92_1 : w91.cell? ⟨gb101, 1, none⟩ = some (.int .i64 a0_1) := bcA BK101 1; have hcz92_2 : w91.cell? ⟨gb101, 2, none⟩ = some (.slice A0_2 l0_2.length c0_2) := bcA BK101 2; have hcz92_3 : w91.cell? ⟨gb101, 3, none⟩ = some (.string a0_3) := bcA BK101 3; have hfz92_0 := blk_frozen BK101.out 0; have hfz92_1 := blk_frozen BK101.out 1; have hfz92_2 := blk_frozen BK101.out 2; have hfz92_3 := blk_frozen BK101.out 3) | ((with_reducible refine gate_callee (f := 45) rfl ?_); refine goesL_ (some 120) rfl rfl Try.func45 (by kernel_rfl) rfl #[.agg #[.string a0_0, .int .i64 a0_1, .slice A0_2 l0_2.length c0_2, .string a0_3]] rfl (by (try simp only [List.map_toArray, List.map_cons, List.map_nil]); first | done | rfl | (simp only [List.length_drop, List.length_take]; rfl)) ?_; (with_reducible refine (tensor_Tensor_Ints.calls a0_0 a0_1 _ _ l0_2 a0_3 t211 t214 _ ?side1 ?side2 A84.out).mono ?_); (case side1 => repeat (first | exact (Kd.C_below HR0_2.out HB.out) | (with_reducible refine Kd.C_alloc ?_ _) | (with_reducible refine Kd.C_drewN ?_ _) | (with_reducible refine Kd.C_drew ?_))); (case side2 => exact HC0_2.out); rintro e w93 ⟨v212, rfl, ho0, hb⟩; refine ⟨_, rfl, ?_⟩; have n0_ := Aside0.mk (Kd.R_lower ho0 (below_size (hbA HB))); have n1_ := Aside0.mk (blk_below (g := gb101) (bkA BK101) hb); have n2_ := Aside0.mk (blk_below (g := gb102) (bkA BK102) hb); have n3_ := Aside0.mk (blk_below (g := gb143) (bkA BK143) hb); have n4_ := Aside0.mk (blk_below (g := gb144) (bkA BK144) hb); have n5_ := Aside0.mk (below_step (hbA HB) hb); clear BK101; clear BK102; clear BK143; clear BK144; clear HB; have HO213 := n0_; have BK101 := n1_; have BK102 := n2_; have BK143 := n3_; have BK144 := n4_; have HB := n5_; clear n0_ n1_ n2_ n3_ n4_ n5_; (try clear hb); (try clear hb2); (try clear hk); (try clear hi); (try clear ho0); have hcz94_0 : w93.cell? ⟨gb101, 0, none⟩ = some (.string a0_0) := bcA BK101 0; have hcz94_1 : w93.cell? ⟨gb101, 1, none⟩ = some (.int .i64 a0_1) := bcA BK101 1; have hcz94_2 : w93.cell? ⟨gb101, 2, none⟩ = some (.slice A0_2 l0_2.length c0_2) := bcA BK101 2; have hcz94_3 : w93.cell? ⟨gb101, 3, none⟩ = some (.string a0_3) := bcA BK101 3; have hfz94_0 := blk_frozen BK101.out 0; have hfz94_1 := blk_frozen BK101.out 1; have hfz94_2 := blk_frozen BK101.out 2; have hfz94_3 := blk_frozen BK101.out 3) | ((with_reducible refine gate_callee (f := 46) rfl ?_); refine goesL_ (some 125) rfl rfl Try.func46 (by kernel_rfl) rfl #[.agg #[.string a0_0, .int .i64 a0_1, .slice A0_2 l0_2.length c0_2, .string a0_3]] rfl (by (try simp only [List.map_toArray, List.map_cons, List.map_nil]); first | done | rfl | (simp only [List.length_drop, List.length_take]; rfl)) ?_; (with_reducible refine (tensor_Tensor_Flags.calls a0_0 a0_1 _ _ l0_2 a0_3 t215 t218 _ ?side1 ?side2 A85.out).mono ?_); (case side1 => repeat (first | exact (Kd.C_below HR0_2.out HB.out) | (with_reducible refine Kd.C_alloc ?_ _) | (with_reducible refine Kd.C_drewN ?_ _) | (with_reducible refine Kd.C_drew ?_))); (case side2 => exact HC0_2.out); rintro e w95 ⟨v216, rfl, ho0, hb⟩; refine ⟨_, rfl, ?_⟩; have n0_ := Aside0.mk (Kd.R_below (krA HO213) hb); have n1_ := Aside0.mk (Kd.R_lower ho0 (below_size (hbA HB))); have n2_ := Aside0.mk (blk_below (g := gb101) (bkA BK101) hb); have n3_ := Aside0.mk (blk_below (g := gb102) (bkA BK102) hb); have n4_ := Aside0.mk (blk_below (g := gb143) (bkA BK143) hb); have n5_ := Aside0.mk (blk_below (g := gb144) (bkA BK144) hb); have n6_ := Aside0.mk (below_step (hbA HB) hb); clear HO213; clear BK101; clear BK102; clear BK143; clear BK144; clear HB; have HO213 := n0_; have HO217 := n1_; have BK101 := n2_; have BK102 := n3_; have BK143 := n4_; have BK144 := n5_; have HB := n6_; clear n0_ n1_ n2_ n3_ n4_ n5_ n6_; (try clear hb); (try clear hb2); (try clear hk); (try clear hi); (try clear ho0); have hcz96_0 : w95.cell? ⟨gb101, 0, none⟩ = some (.string a0_0) := bcA BK101 0; have hcz96_1 : w95.cell? ⟨gb101, 1, none⟩ = some (.int .i64 a0_1) := bcA BK101 1; have hcz96_2 : w95.cell? ⟨gb101, 2, none⟩ = some (.slice A0_2 l0_2.length c0_2) := bcA BK101 2; have hcz96_3 : w95.cell? ⟨gb101, 3, none⟩ = some (.string a0_3) := bcA BK101 3; have hfz96_0 := blk_frozen BK101.out 0; have hfz96_1 := blk_frozen BK101.out 1; have hfz96_2 := blk_frozen BK101.out 2; have hfz96_3 := blk_frozen BK101.out 3) | ((with_reducible refine gate_callee (f := 47) rfl ?_); refine goesL_ (some 130) rfl rfl Try.func47 (by kernel_rfl) rfl #[.agg #[.string a0_0, .int .i64 a0_1, .slice A0_2 l0_2.length c0_2, .string a0_3]] rfl (by (try simp only [List.map_toArray, List.map_cons, List.map_nil]); first | done | rfl | (simp only [List.length_drop, List.length_take]; rfl)) ?_; (with_reducible refine (tensor_Tensor_Nums.calls a0_0 a0_1 _ _ l0_2 a0_3 t219 t222 _ ?side1 ?side2 A86.out).mono ?_); (case side1 => repeat (first | exact (Kd.C_below HR0_2.out HB.out) | (with_reducible refine Kd.C_alloc ?_ _) | (with_reducible refine Kd.C_drewN ?_ _) | (with_reducible refine Kd.C_drew ?_))); (case side2 => exact HC0_2.out); rintro e w97 ⟨v220, rfl, ho0, hb⟩; refine ⟨_, rfl, ?_⟩; have n0_ := Aside0.mk (Kd.R_below (krA HO213) hb); have n1_ := Aside0.mk (Kd.R_below (krA HO217) hb); have n2_ := Aside0.mk (Kd.R_lower ho0 (below_size (hbA HB))); have n3_ := Aside0.mk (blk_below (g := gb101) (bkA BK101) hb); have n4_ := Aside0.mk (blk_below (g := gb102) (bkA BK102) hb); have n5_ := Aside0.mk (blk_below (g := gb143) (bkA BK143) hb); have n6_ := Aside0.mk (blk_below (g := gb144) (bkA BK144) hb); have n7_ := Aside0.mk (below_step (hbA HB) hb); clear HO213; clear HO217; clear BK101; clear BK102; clear BK143; clear BK144; clear HB; have HO213 := n0_; have HO217 := n1_; have HO221 := n2_; have BK101 := n3_; have BK102 := n4_; have BK143 := n5_; have BK144 := n6_; have HB := n7_; clear n0_ n1_ n2_ n3_ n4_ n5_ n6_ n7_; (try clear hb); (try clear hb2); (try clear hk); (try clear hi); (try clear ho0)) | ((with_reducible refine gate_dst (N := 136) rfl ?_); (try (refine gate_guard (by rfl) ?_; dsimp only)); refine Kd.R_lit (Kd.int .i64) _ 27 ?hg (N := 136) ?hd (xs := ([t214, t218, t222] : List Int)) (inner := [.int .i64 t214, .int .i64 t218, .int .i64 t222]) (ok := fun _ => True) (okp := fun _ => True) ?hr ?hp (fun _ hk => hk) trivial (Below.refl _ _) (Nat.le_refl _) (by simp) ?_; (case hd => rfl); (case hg => rfl); (case hr => first | (go_simp; done) | (go_simp; rfl)); (case hp => exact (Reps.one (show Kd.M (Kd.int .i64) _ _ _ t214 [.int .i64 t214] from rfl) (Reps.one (show Kd.M (Kd.int .i64) _ _ _ t218 [.int .i64 t218] from rfl) (Reps.one (show Kd.M (Kd.int .i64) _ _ _ t222 [.int .i64 t222] from rfl) (Reps.none _ _))))); intro v224 w98 ho99 hb hg_ hnew_; clear hg_ hnew_; (first | rw [← Ny223.out] at ho99 | (simp only [Int.reduceToNat] at ho99; rw [← Ny223.out] at ho99)); have n0_ := Aside0.mk (Kd.R_below (krA HO213) hb); have n1_ := Aside0.mk (Kd.R_below (krA HO217) hb); have n2_ := Aside0.mk (Kd.R_below (krA HO221) hb); have n3_ := Aside0.mk (Kd.R_lower ho99 (below_size (hbA HB))); have n4_ := Aside0.mk (blk_below (g := gb101) (bkA BK101) hb); have n5_ := Aside0.mk (blk_below (g := gb102) (bkA BK102) hb); have n6_ := Aside0.mk (blk_below (g := gb143) (bkA BK143) hb); have n7_ := Aside0.mk (blk_below (g := gb144) (bkA BK144) hb); have n8_ := Aside0.mk (below_step (hbA HB) hb); clear HO213; clear HO217; clear HO221; clear BK101; clear BK102; clear BK143; clear BK144; clear HB; have HO213 := n0_; have HO217 := n1_; have HO221 := n2_; have HO225 := n3_; have BK101 := n4_; have BK102 := n5_; have BK143 := n6_; have BK144 := n7_; have HB := n8_; clear n0_ n1_ n2_ n3_ n4_ n5_ n6_ n7_ n8_; clear hb ho99; obtain ⟨Ao100, co100, eo100⟩ := Kd.R_slice HO225.out; subst eo100))
            go_loopg [138] kj71 (fun kq v138 w' => ∃ (x138_4 : Int), v138 = .int .i64 x138_4 ∧ Aside0 (agatelaw07_TensorTells.l0 kq t145 t211 t214 t215 t218 t219 t222 y223 (y223.length : Int) x138_4 a0_0 a0_1 l0_2 a0_3 t137 t138 l0_2 t139 = some r) ∧ Aside0 (kq ≤ kj71) ∧ Aside0 (Kd.R (Kd.int .i64) 2 w' w.heap.size (fun _ => True) v212 t211) ∧ Aside0 (Kd.R Kd.bool 4 w' w.heap.size (fun _ => True) v216 t215) ∧ Aside0 (Kd.R kdC 26 w' w.heap.size (fun _ => True) v220 t219) ∧ Aside0 (Kd.R (Kd.int .i64) 27 w' w.heap.size (fun _ => True) (.slice Ao100 y223.length co100) y223) ∧ Aside0 (w'.heap[gb101]? = some (.cells #[.string a0_0, .int .i64 a0_1, (.slice A0_2 l0_2.length c0_2), .string a0_3] 62 (0, 0))) ∧ Aside0 (w'.heap[gb102]? = some (.cells #[.string a1_0, .int .i64 a1_1, (.slice A1_2 l1_2.length c1_2), .string a1_3] 62 (0, 0))) ∧ Aside0 (w'.heap[gb143]? = some (.cells #[.string t137, .int .i64 t138, (.slice A0_2 l0_2.length c0_2), .string t139] 64 (0, 0))) ∧ Aside0 (w'.heap[gb144]? = some (.cells #[.string t140, .int .i64 t141, (.slice A1_2 l1_2.length c1_2), .string t142] 64 (0, 0))) ∧ Aside0 (Below w.heap.size w w'))
            case atStart => exact ⟨(0), (by first | rfl | (simp; done) | (simp [*]; done)), H', ⟨Nat.le_refl _⟩, ⟨krA HO213⟩, ⟨krA HO217⟩, ⟨krA HO221⟩, ⟨krA HO225⟩, ⟨bkA BK101⟩, ⟨bkA BK102⟩, ⟨bkA BK143⟩, ⟨bkA BK144⟩, ⟨hbA HB⟩⟩
            case round =>
             clear H'
             obtain ⟨x138_4, rfl, HA, HK4, HO_12, HO_14, HO_16, HO_136, BK101, BK102, BK143, BK144, HB⟩ := hrel
             cases gk with
             | zero => exact absurd HA.out (by simp [agatelaw07_TensorTells.l0])
             | succ k4 =>
              have H := HA.out; clear HA
              simp only [agatelaw07_TensorTells.l0] at H
              by_cases c101 : x138_4 < (y223.length : Int)
              ·
               rw [if_pos c101] at H
               have c101b0 : decide (x138_4 < (y223.length : Int)) = true := decide_eq_true c101
               clear c101
               by_cases c102 : 0 ≤ x138_4
               ·
                rw [if_pos c102] at H
                have c102b0 : decide (0 ≤ x138_4) = true := decide_eq_true c102
                clear c102
                by_cases c103 : x138_4 < (y223.length : Int)
                ·
                 rw [if_pos c103] at H
                 have c103b0 : decide (x138_4 < (y223.length : Int)) = true := decide_eq_true c103
                 clear c103
                 obtain ⟨y232, hy232⟩ : ∃ y_ : List Int, y_ = (([7, 9, 14] : List Int)) := ⟨_, rfl⟩
                 replace H : (if x138_4 < (y232.length : Int) then (if t145 = 0 then (if t138 = (rd y232 x138_4) then (if (rd y223 x138_4) = 0 then (if (t138 = (rd y232 x138_4)) then (agatelaw07_TensorTells.j4 k4 t145 t211 t214 t215 t218 t219 t222 y223 (y223.length : Int) x138_4 false a0_0 a0_1 l0_2 a0_3 t137 t138 l0_2 t139) else (agatelaw07_TensorTells.j4 k4 t145 t211 t214 t215 t218 t219 t222 y223 (y223.length : Int) x138_4 ((rd y223 x138_4) != 13) a0_0 a0_1 l0_2 a0_3 t137 t138 l0_2 t139)) else (none)) else (if (t138 = (rd y232 x138_4)) then (agatelaw07_TensorTells.j4 k4 t145 t211 t214 t215 t218 t219 t222 y223 (y223.length : Int) x138_4 false a0_0 a0_1 l0_2 a0_3 t137 t138 l0_2 t139) else (agatelaw07_TensorTells.j4 k4 t145 t211 t214 t215 t218 t219 t222 y223 (y223.length : Int) x138_4 ((rd y223 x138_4) != 13) a0_0 a0_1 l0_2 a0_3 t137 t138 l0_2 t139))) else (if (rd y223 x138_4) = t145 then (agatelaw07_TensorTells.j4 k4 t145 t211 t214 t215 t218 t219 t222 y223 (y223.length : Int) x138_4 false a0_0 a0_1 l0_2 a0_3 t137 t138 l0_2 t139) else (none))) else (none)) = some r := by first | (rw [hy232]; with_reducible exact H) | (have H2_ := (Option.bind_some _ _).symm.trans H; rw [hy232]; with_reducible exact H2_) | (have H2_ := (Option.bind_some _ _).symm.trans H; with_reducible exact H2_) | with_reducible exact H | (rw [hy232]; exact H) | exact H
                 have Ny232 := Aside0.mk hy232
                 clear hy232
                 by_cases c104 : x138_4 < (y232.length : Int)
                 ·
                  rw [if_pos c104] at H
                  have c104b0 : decide (x138_4 < (y232.length : Int)) = true := decide_eq_true c104
                  clear c104
                  have HC105 := Aside0.mk H
                  clear H
                  have p231 : 0 ≤ (x138_4 : Int) := of_decide_eq_true (by first | (with_reducible assumption) | assumption)
                  have q231 : x138_4 < (y223.length : Int) := of_decide_eq_true (by first | (with_reducible assumption) | assumption)
                  obtain ⟨ad231, e231, hx231_0⟩ := Kd.at_int (Kd.R_reads' HO_136.out).2.2 x138_4 p231 q231
                  cases e231
                  replace p231 := eq_true p231
                  replace q231 := eq_true q231
                  try go_wp2
                  have pi235 : (0 ≤ (x138_4 : Int)) = True := eq_true (of_decide_eq_true (by first | (with_reducible assumption) | assumption))
                  have qi235 : (x138_4 < (y232.length : Int)) = True := eq_true (of_decide_eq_true (by first | (with_reducible assumption) | assumption))
                  have n0_ := Aside0.mk (Kd.R_drew HO_12.out)
                  have n1_ := Aside0.mk (Kd.R_drew HO_14.out)
                  have n2_ := Aside0.mk (Kd.R_drew HO_16.out)
                  have n3_ := Aside0.mk (Kd.R_drew HO_136.out)
                  have n4_ := Aside0.mk (blk_drew BK101.out)
                  have n5_ := Aside0.mk (blk_drew BK102.out)
                  have n6_ := Aside0.mk (blk_drew BK143.out)
                  have n7_ := Aside0.mk (blk_drew BK144.out)
                  have n8_ := Aside0.mk (below_drew1 HB.out)
                  clear HO_12; clear HO_14; clear HO_16; clear HO_136; clear BK101; clear BK102; clear BK143; clear BK144; clear HB; have HO_12 := n0_; have HO_14 := n1_; have HO_16 := n2_; have HO_136 := n3_; have BK101 := n4_; have BK102 := n5_; have BK143 := n6_; have BK144 := n7_; have HB := n8_; clear n0_ n1_ n2_ n3_ n4_ n5_ n6_ n7_ n8_
                  refine start_ (n := 8) (S := fun w' => w'.cell? ⟨gb143, 0, none⟩ = some (.string t137) ∧ w'.cell? ⟨gb143, 1, none⟩ = some (.int .i64 t138) ∧ w'.cell? ⟨gb143, 2, none⟩ = some (.slice A0_2 l0_2.length c0_2) ∧ w'.cell? ⟨gb143, 3, none⟩ = some (.string t139)) (ds := []) #[false, false, false, false, false, false, false, false] (by kernel_rfl) rfl rfl ⟨bcA BK143 0, bcA BK143 1, bcA BK143 2, bcA BK143 3⟩ (fun hHeld => ?_); refine with_tabW agatelaw07_TensorTells.tab19 agatelaw07_TensorTells.bits19 (fun HT_ HW_ => ?_)
                  generalize wr.drew = w106 at HO_12 HO_14 HO_16 HO_136 BK101 BK102 BK143 BK144 HB hHeld ⊢
                  refine pure_ (i := 0) (N := some 143) (v := ?_) (a' := ?_) #[true, false, false, false, false, false, false, false] rfl rfl (any_of HT_.out (by kernel_rfl)) (fun _ _ _ h => h) (Or.inl ⟨by rfl, ?_⟩) ?_ ?_
                  rotate_left
                  ·
                   intro w'
                   go_simp
                   with_reducible rfl
                  rotate_left
                  ·
                   simp only [Act.put, List.setIfInBounds_toArray, List.set_cons_zero, List.set_cons_succ, i64_w, i32_w]
                   rfl
                  refine pure_ (i := 3) (N := some 146) (v := ?_) (a' := ?_) #[true, false, false, true, false, false, false, false] rfl rfl (any_of HT_.out (by kernel_rfl)) (fun _ _ _ h => h) (Or.inl ⟨by rfl, ?_⟩) ?_ ?_
                  rotate_left
                  ·
                   intro w'
                   go_simp
                   with_reducible rfl
                  rotate_left
                  ·
                   simp only [Act.put, List.setIfInBounds_toArray, List.set_cons_zero, List.set_cons_succ, i64_w, i32_w]
                   rfl
                  refine take_ (i := 1) (N := some 144) (v := ?_) (a' := ?_) #[true, true, false, true, false, false, false, false] rfl rfl (take_ofW HT_.out HW_.out (by kernel_rfl)) (fun _ _ _ h => h) (Or.inl ⟨by rfl, ?_⟩) hHeld ?_ ?_
                  rotate_left
                  ·
                   rintro w' ⟨s0, s1, s2, s3⟩
                   go_simp
                   with_reducible rfl
                  rotate_left
                  ·
                   simp only [Act.put, List.setIfInBounds_toArray, List.set_cons_zero, List.set_cons_succ, i64_w, i32_w]
                   rfl
                  refine one_ (i := 2) (N := some 145) #[true, true, true, true, false, false, false, false] rfl rfl (one_of HT_.out (by kernel_rfl)) (by decide) (fun K hK => ?_)
                  refine Kd.R_lit_step (Kd.int .i64) _ 3 ?hg (N := 145) ?hd (xs := ([7, 9, 14] : List Int)) (inner := [.int .i64 7, .int .i64 9, .int .i64 14]) (ok := fun _ => True) (okp := fun _ => True) ?hr ?hp (fun _ hk => hk) trivial (Below.refl _ _) (Nat.le_refl _) (by simp) ?_; (case hd => rfl); (case hg => rfl); (case hr => first | (go_simp; done) | (go_simp; rfl)); (case hp => exact (Reps.one (show Kd.M (Kd.int .i64) _ _ _ 7 [.int .i64 7] from rfl) (Reps.one (show Kd.M (Kd.int .i64) _ _ _ 9 [.int .i64 9] from rfl) (Reps.one (show Kd.M (Kd.int .i64) _ _ _ 14 [.int .i64 14] from rfl) (Reps.none _ _)))))
                  intro v233 w107 ho108 hb hg_ hnew_
                  clear hg_ hnew_
                  (first | rw [← Ny232.out] at ho108 | (simp only [Int.reduceToNat] at ho108; rw [← Ny232.out] at ho108))
                  have n0_ := Aside0.mk (Kd.R_below (krA HO_12) hb)
                  have n1_ := Aside0.mk (Kd.R_below (krA HO_14) hb)
                  have n2_ := Aside0.mk (Kd.R_below (krA HO_16) hb)
                  have n3_ := Aside0.mk (Kd.R_below (krA HO_136) hb)
                  have n4_ := Aside0.mk (Kd.R_lower ho108 (below_size (hbA HB)))
                  have n5_ := Aside0.mk (blk_below (g := gb101) (bkA BK101) hb); have n6_ := Aside0.mk (blk_below (g := gb102) (bkA BK102) hb); have n7_ := Aside0.mk (blk_below (g := gb143) (bkA BK143) hb); have n8_ := Aside0.mk (blk_below (g := gb144) (bkA BK144) hb); have n9_ := Aside0.mk (below_step (hbA HB) hb); clear HO_12; clear HO_14; clear HO_16; clear HO_136; clear BK101; clear BK102; clear BK143; clear BK144; clear HB; have HO_12 := n0_; have HO_14 := n1_; have HO_16 := n2_; have HO_136 := n3_; have HO234 := n4_; have BK101 := n5_; have BK102 := n6_; have BK143 := n7_; have BK144 := n8_; have HB := n9_; clear n0_ n1_ n2_ n3_ n4_ n5_ n6_ n7_ n8_ n9_; clear hb ho108
                  obtain ⟨Ao109, co109, eo109⟩ := Kd.R_slice HO234.out
                  subst eo109
                  obtain ⟨ado109, fo109, _⟩ := Kd.at_int (Kd.R_reads' HO234.out).2.2 0 (by decide) (by rw [Ny232.out]; simp)
                  cases fo109
                  refine hK.out _ _ ⟨bcA BK143 0, bcA BK143 1, bcA BK143 2, bcA BK143 3⟩ (fun hHeld => ?_)
                  clear hK K
                  refine norm_ (a' := ?_) ?_ ?_
                  rotate_left
                  ·
                   show Act.put _ (some 145) _ = _
                   simp only [Act.put, List.setIfInBounds_toArray, List.set_cons_zero, List.set_cons_succ, i64_w, i32_w]
                   rfl
                  refine pure_ (i := 4) (N := some 147) (v := ?_) (a' := ?_) #[true, true, true, true, true, false, false, false] rfl rfl (any_of HT_.out (by kernel_rfl)) (fun _ _ _ h => h) (Or.inl ⟨by rfl, ?_⟩) ?_ ?_
                  rotate_left
                  ·
                   intro w'
                   go_simp
                   with_reducible rfl
                  rotate_left
                  ·
                   simp only [Act.put, List.setIfInBounds_toArray, List.set_cons_zero, List.set_cons_succ, i64_w, i32_w]
                   rfl
                  refine one_ (i := 5) (N := some 148) #[true, true, true, true, true, true, false, false] rfl rfl (one_of HT_.out (by kernel_rfl)) (by decide) (fun K hK => ?_)
                  (have p235 : 0 ≤ (x138_4 : Int) := of_decide_eq_true (by first | (with_reducible assumption) | assumption); have q235 : x138_4 < (y232.length : Int) := of_decide_eq_true (by first | (with_reducible assumption) | assumption); obtain ⟨ad235, e235, hx235_0⟩ := Kd.at_int (Kd.R_reads' HO234.out).2.2 x138_4 p235 q235; obtain rfl : ado109 = ad235 := (by injection e235))
                  refine value_ (w1 := ?_) (v := ?_) (by rfl) rfl ?_ ?_
                  rotate_left 2
                  ·
                   go_simp
                   constructor
                   ·
                    rfl
                   ·
                    rfl
                  clear hx235_0
                  refine hK.out _ _ ⟨bcA BK143 0, bcA BK143 1, bcA BK143 2, bcA BK143 3⟩ (fun hHeld => ?_)
                  clear hK K
                  refine norm_ (a' := ?_) ?_ ?_
                  rotate_left
                  ·
                   show Act.put _ (some 148) _ = _
                   simp only [Act.put, List.setIfInBounds_toArray, List.set_cons_zero, List.set_cons_succ, i64_w, i32_w]
                   rfl
                  refine pure_ (i := 6) (N := some 149) (v := ?_) (a' := ?_) #[true, true, true, true, true, true, true, false] rfl rfl (any_of HT_.out (by kernel_rfl)) (fun _ _ _ h => h) (Or.inl ⟨by rfl, ?_⟩) ?_ ?_
                  rotate_left
                  ·
                   intro w'
                   go_simp
                   with_reducible rfl
                  rotate_left
                  ·
                   simp only [Act.put, List.setIfInBounds_toArray, List.set_cons_zero, List.set_cons_succ, i64_w, i32_w]
                   rfl
                  refine pure_ (i := 7) (N := some 20) (v := ?_) (a' := ?_) #[true, true, true, true, true, true, true, true] rfl rfl (any_of HT_.out (by kernel_rfl)) (fun _ _ _ h => h) (Or.inl ⟨by rfl, ?_⟩) ?_ ?_
                  rotate_left
                  ·
                   intro w'
                   go_simp
                   with_reducible rfl
                  rotate_left
                  ·
                   simp only [Act.put, List.setIfInBounds_toArray, List.set_cons_zero, List.set_cons_succ, i64_w, i32_w]
                   rfl
                  refine done_ (done_of HT_.out (by kernel_rfl)) ?_
                  go_upto_region 20 with (fail)
                  go_cut [20, 179] from 139 to 178 (fun v20 v179 wc => ∃ (kq : Nat) (x179_104 : Bool), v179 = .bool x179_104 ∧ Aside0 (agatelaw07_TensorTells.j4 kq t145 t211 t214 t215 t218 t219 t222 y223 (y223.length : Int) x138_4 x179_104 a0_0 a0_1 l0_2 a0_3 t137 t138 l0_2 t139 = some r) ∧ Aside0 (kq ≤ k4) ∧ Aside0 (Kd.R (Kd.int .i64) 2 wc w.heap.size (fun _ => True) v212 t211) ∧ Aside0 (Kd.R Kd.bool 4 wc w.heap.size (fun _ => True) v216 t215) ∧ Aside0 (Kd.R kdC 26 wc w.heap.size (fun _ => True) v220 t219) ∧ Aside0 (Kd.R (Kd.int .i64) 27 wc w.heap.size (fun _ => True) (.slice (some ad231) y223.length co100) y223) ∧ Aside0 (wc.heap[gb101]? = some (.cells #[.string a0_0, .int .i64 a0_1, (.slice A0_2 l0_2.length c0_2), .string a0_3] 62 (0, 0))) ∧ Aside0 (wc.heap[gb102]? = some (.cells #[.string a1_0, .int .i64 a1_1, (.slice A1_2 l1_2.length c1_2), .string a1_3] 62 (0, 0))) ∧ Aside0 (wc.heap[gb143]? = some (.cells #[.string t137, .int .i64 t138, (.slice A0_2 l0_2.length c0_2), .string t139] 64 (0, 0))) ∧ Aside0 (wc.heap[gb144]? = some (.cells #[.string t140, .int .i64 t141, (.slice A1_2 l1_2.length c1_2), .string t142] 64 (0, 0))) ∧ Aside0 (Below w.heap.size w wc))
                  case first =>
                   have H := HC105.out; clear HC105
                   by_cases c110 : t145 = 0
                   ·
                    rw [if_pos c110] at H
                    have c110b0 : (t145 == 0) = true := beq_iff_eq.mpr c110
                    have c110b1 : (t145 != 0) = false := bne_eq_false_iff_eq.mpr c110
                    clear c110
                    (first | rw [c110b0] | (simp only [i64_w, i32_w]; rw [c110b0]) | skip)
                    by_cases c111 : t138 = (rd y232 x138_4)
                    ·
                     rw [if_pos c111] at H
                     have c111b0 : (t138 == (rd y232 x138_4)) = true := beq_iff_eq.mpr c111
                     have c111b1 : (t138 != (rd y232 x138_4)) = false := bne_eq_false_iff_eq.mpr c111
                     clear c111
                     by_cases c112 : (rd y223 x138_4) = 0
                     ·
                      rw [if_pos c112] at H
                      have c112b0 : ((rd y223 x138_4) == 0) = true := beq_iff_eq.mpr c112
                      have c112b1 : ((rd y223 x138_4) != 0) = false := bne_eq_false_iff_eq.mpr c112
                      clear c112
                      by_cases c113 : (t138 = (rd y232 x138_4))
                      ·
                       rw [if_pos c113] at H
                       have c113b0 : (t138 == (rd y232 x138_4)) = true := beq_iff_eq.mpr c113
                       have c113b1 : (t138 != (rd y232 x138_4)) = false := bne_eq_false_iff_eq.mpr c113
                       clear c113
                       have H' := Aside0.mk H
                       clear H
                       go_wp2
                       go_meet
                       case rel => exact ⟨_, (false), (by first | rfl | (simp; done) | (simp [*]; done)), H', ⟨by have := HJ3.out; have := HJ39.out; have := HJ71.out; have := HK4.out; first | omega | exact Nat.le_refl _⟩, ⟨krA HO_12⟩, ⟨krA HO_14⟩, ⟨krA HO_16⟩, ⟨krA HO_136⟩, ⟨bkA BK101⟩, ⟨bkA BK102⟩, ⟨bkA BK143⟩, ⟨bkA BK144⟩, ⟨hbA HB⟩⟩
                      ·
                       exact absurd (beq_iff_eq.mp c111b0) c113
                     ·
                      rw [if_neg c112] at H
                      exact absurd H (by simp)
                    ·
                     rw [if_neg c111] at H
                     have c111b0 : (t138 == (rd y232 x138_4)) = false := beq_eq_false_iff_ne.mpr c111
                     have c111b1 : (t138 != (rd y232 x138_4)) = true := bne_iff_ne.mpr c111
                     by_cases c114 : (t138 = (rd y232 x138_4))
                     ·
                      exact absurd c114 c111
                     ·
                      rw [if_neg c114] at H
                      have c114b0 : (t138 == (rd y232 x138_4)) = false := beq_eq_false_iff_ne.mpr c114
                      have c114b1 : (t138 != (rd y232 x138_4)) = true := bne_iff_ne.mpr c114
                      have H' := Aside0.mk H
                      clear H
                      go_wp2
                      go_meet
                      case rel => exact ⟨_, (((rd y223 x138_4) != 13)), (by first | rfl | (simp; done) | (simp [*]; done)), H', ⟨by have := HJ3.out; have := HJ39.out; have := HJ71.out; have := HK4.out; first | omega | exact Nat.le_refl _⟩, ⟨krA HO_12⟩, ⟨krA HO_14⟩, ⟨krA HO_16⟩, ⟨krA HO_136⟩, ⟨bkA BK101⟩, ⟨bkA BK102⟩, ⟨bkA BK143⟩, ⟨bkA BK144⟩, ⟨hbA HB⟩⟩
                   ·
                    rw [if_neg c110] at H
                    have c110b0 : (t145 == 0) = false := beq_eq_false_iff_ne.mpr c110
                    have c110b1 : (t145 != 0) = true := bne_iff_ne.mpr c110
                    (first | rw [c110b0] | (simp only [i64_w, i32_w]; rw [c110b0]) | skip)
                    by_cases c115 : (rd y223 x138_4) = t145
                    ·
                     rw [if_pos c115] at H
                     have c115b0 : ((rd y223 x138_4) == t145) = true := beq_iff_eq.mpr c115
                     have c115b1 : ((rd y223 x138_4) != t145) = false := bne_eq_false_iff_eq.mpr c115
                     clear c115
                     have H' := Aside0.mk H
                     clear H
                     go_wp2
                     go_meet
                     case rel => exact ⟨_, (false), (by first | rfl | (simp; done) | (simp [*]; done)), H', ⟨by have := HJ3.out; have := HJ39.out; have := HJ71.out; have := HK4.out; first | omega | exact Nat.le_refl _⟩, ⟨krA HO_12⟩, ⟨krA HO_14⟩, ⟨krA HO_16⟩, ⟨krA HO_136⟩, ⟨bkA BK101⟩, ⟨bkA BK102⟩, ⟨bkA BK143⟩, ⟨bkA BK144⟩, ⟨hbA HB⟩⟩
                    ·
                     rw [if_neg c115] at H
                     exact absurd H (by simp)
                  case rest =>
                   clear HC105; try clear c7; try clear c10; try clear c38; try clear c65; try clear c65b0; try clear c66; try clear c66b0; try clear c67; try clear c67b0; try clear c67b1; try clear c73; try clear c75; try clear c75b0; try clear c75b1; try clear c76; try clear c76b0; try clear c76b1; try clear c77; try clear c77b0; try clear c77b1; try clear c83; try clear c83b0; try clear c83b1; try clear c101; try clear c101b0; try clear c102; try clear c102b0; try clear c103; try clear c103b0; try clear c104; try clear c104b0; try clear c110; try clear c110b0; try clear c110b1; try clear c111; try clear c111b0; try clear c111b1; try clear c112; try clear c112b0; try clear c112b1; try clear c113; try clear c113b0; try clear c113b1; try clear c114; try clear c114b0; try clear c114b1; try clear c115; try clear c115b0; try clear c115b1; try clear hcz58_0; try clear hcz58_1; try clear hcz58_2; try clear hcz58_3; try clear hcz64_0; try clear hcz64_1; try clear hcz64_2; try clear hcz64_3; try clear hcz71_0; try clear hcz71_1; try clear hcz71_2; try clear hcz71_3; try clear hcz81_0; try clear hcz81_1; try clear hcz81_2; try clear hcz81_3; try clear hcz90_0; try clear hcz90_1; try clear hcz90_2; try clear hcz90_3; try clear hcz92_0; try clear hcz92_1; try clear hcz92_2; try clear hcz92_3; try clear hcz94_0; try clear hcz94_1; try clear hcz94_2; try clear hcz94_3; try clear hcz96_0; try clear hcz96_1; try clear hcz96_2; try clear hcz96_3; try clear hfz58_0; try clear hfz58_1; try clear hfz58_2; try clear hfz58_3; try clear hfz64_0; try clear hfz64_1; try clear hfz64_2; try clear hfz64_3; try clear hfz71_0; try clear hfz71_1; try clear hfz71_2; try clear hfz71_3; try clear hfz81_0; try clear hfz81_1; try clear hfz81_2; try clear hfz81_3; try clear hfz90_0; try clear hfz90_1; try clear hfz90_2; try clear hfz90_3; try clear hfz92_0; try clear hfz92_1; try clear hfz92_2; try clear hfz92_3; try clear hfz94_0; try clear hfz94_1; try clear hfz94_2; try clear hfz94_3; try clear hfz96_0; try clear hfz96_1; try clear hfz96_2; try clear hfz96_3; try clear hx231_0; try clear hx235_0; try clear p231; try clear p235; try clear q231; try clear q235
                   obtain ⟨kq, x179_104, rfl, HA, HJ104, HO_12, HO_14, HO_16, HO_136, BK101, BK102, BK143, BK144, HB⟩ := hcut
                   cases kq with
                   | zero => exact absurd HA.out (by simp [agatelaw07_TensorTells.j4])
                   | succ kj104 =>
                    have H := HA.out; clear HA
                    simp only [agatelaw07_TensorTells.j4] at H
                    by_cases c116 : x179_104 = true
                    ·
                     subst c116
                     have H1 : (none) = some r := by rw [if_pos rfl] at H; exact H
                     clear H
                     have H := H1
                     clear H1
                     exact absurd H (by simp)
                    ·
                     replace c116 := Bool.eq_false_iff.mpr c116
                     subst c116
                     have H1 : (agatelaw07_TensorTells.l0 kj104 t145 t211 t214 t215 t218 t219 t222 y223 (y223.length : Int) (wrap64 (x138_4 + 1)) a0_0 a0_1 l0_2 a0_3 t137 t138 l0_2 t139) = some r := by rw [if_neg (show ¬ (false = true) by decide)] at H; exact H
                     clear H
                     have H := H1
                     clear H1
                     have H' := Aside0.mk H
                     clear H
                     go_wp2
                     go_roundg kj104
                     case measure => have := HJ3.out; have := HJ39.out; have := HJ71.out; have := HK4.out; have := HJ104.out; omega
                     case rel => exact ⟨(wrap64 (x138_4 + 1)), (by first | rfl | (simp; done) | (simp [*]; done)), H', ⟨by have := HJ3.out; have := HJ39.out; have := HJ71.out; have := HK4.out; have := HJ104.out; omega⟩, ⟨krA HO_12⟩, ⟨krA HO_14⟩, ⟨krA HO_16⟩, ⟨krA HO_136⟩, ⟨bkA BK101⟩, ⟨bkA BK102⟩, ⟨bkA BK143⟩, ⟨bkA BK144⟩, ⟨hbA HB⟩⟩
                 ·
                  rw [if_neg c104] at H
                  exact absurd H (by simp)
                ·
                 rw [if_neg c103] at H
                 exact absurd H (by simp)
               ·
                rw [if_neg c102] at H
                exact absurd H (by simp)
              ·
               rw [if_neg c101] at H
               have c101b0 : decide (x138_4 < (y223.length : Int)) = false := decide_eq_false c101
               clear c101
               have HC117 := Aside0.mk H
               clear H
               go_upto_region 23 with (fail)
               go_cut [214] from 180 to 213 (fun v214 wc => ∃ (kq : Nat) (x214_116 : Bool), v214 = .bool x214_116 ∧ Aside0 (agatelaw07_TensorTells.j5 kq t211 t214 t215 t218 t219 t222 x214_116 a0_0 a0_1 l0_2 a0_3 = some r) ∧ Aside0 (kq ≤ k4) ∧ Aside0 (Kd.R (Kd.int .i64) 2 wc w.heap.size (fun _ => True) v212 t211) ∧ Aside0 (Kd.R Kd.bool 4 wc w.heap.size (fun _ => True) v216 t215) ∧ Aside0 (Kd.R kdC 26 wc w.heap.size (fun _ => True) v220 t219) ∧ Aside0 (wc.heap[gb101]? = some (.cells #[.string a0_0, .int .i64 a0_1, (.slice A0_2 l0_2.length c0_2), .string a0_3] 62 (0, 0))) ∧ Aside0 (wc.heap[gb102]? = some (.cells #[.string a1_0, .int .i64 a1_1, (.slice A1_2 l1_2.length c1_2), .string a1_3] 62 (0, 0))) ∧ Aside0 (wc.heap[gb143]? = some (.cells #[.string t137, .int .i64 t138, (.slice A0_2 l0_2.length c0_2), .string t139] 64 (0, 0))) ∧ Aside0 (wc.heap[gb144]? = some (.cells #[.string t140, .int .i64 t141, (.slice A1_2 l1_2.length c1_2), .string t142] 64 (0, 0))) ∧ Aside0 (Below w.heap.size w wc))
               case first =>
                have H := HC117.out; clear HC117
                by_cases c118 : t214 = 0
                ·
                 rw [if_pos c118] at H
                 have c118b0 : (t214 == 0) = true := beq_iff_eq.mpr c118
                 have c118b1 : (t214 != 0) = false := bne_eq_false_iff_eq.mpr c118
                 clear c118
                 (first | rw [c118b0] | (simp only [i64_w, i32_w]; rw [c118b0]) | skip)
                 replace H := Option.bind_eq_some_iff.mp H
                 obtain ⟨t240, A1190, H⟩ := H
                 replace H : ((agatelaw03_Ints_s.f t211 t240).bind fun t243 => (if t243 = true then (if t218 = 0 then (if (t215.length : Int) = (a0_3.size : Int) then (if t222 = 0 then (agatelaw07_TensorTells.j5 k4 t211 t214 t215 t218 t219 t222 ((wrap64 (8 * (t219.length : Int))) != (a0_3.size : Int)) a0_0 a0_1 l0_2 a0_3) else (agatelaw07_TensorTells.j5 k4 t211 t214 t215 t218 t219 t222 false a0_0 a0_1 l0_2 a0_3)) else (none)) else (if t222 = 0 then (agatelaw07_TensorTells.j5 k4 t211 t214 t215 t218 t219 t222 ((wrap64 (8 * (t219.length : Int))) != (a0_3.size : Int)) a0_0 a0_1 l0_2 a0_3) else (agatelaw07_TensorTells.j5 k4 t211 t214 t215 t218 t219 t222 false a0_0 a0_1 l0_2 a0_3))) else (none))) = some r := H
                 have A119 := Aside0.mk A1190
                 clear A1190
                 replace H := Option.bind_eq_some_iff.mp H
                 obtain ⟨t243, A1200, H⟩ := H
                 replace H : (if t243 = true then (if t218 = 0 then (if (t215.length : Int) = (a0_3.size : Int) then (if t222 = 0 then (agatelaw07_TensorTells.j5 k4 t211 t214 t215 t218 t219 t222 ((wrap64 (8 * (t219.length : Int))) != (a0_3.size : Int)) a0_0 a0_1 l0_2 a0_3) else (agatelaw07_TensorTells.j5 k4 t211 t214 t215 t218 t219 t222 false a0_0 a0_1 l0_2 a0_3)) else (none)) else (if t222 = 0 then (agatelaw07_TensorTells.j5 k4 t211 t214 t215 t218 t219 t222 ((wrap64 (8 * (t219.length : Int))) != (a0_3.size : Int)) a0_0 a0_1 l0_2 a0_3) else (agatelaw07_TensorTells.j5 k4 t211 t214 t215 t218 t219 t222 false a0_0 a0_1 l0_2 a0_3))) else (none)) = some r := H
                 have A120 := Aside0.mk A1200
                 clear A1200
                 by_cases c121 : t243 = true
                 ·
                  subst c121
                  have H1 : (if t218 = 0 then (if (t215.length : Int) = (a0_3.size : Int) then (if t222 = 0 then (agatelaw07_TensorTells.j5 k4 t211 t214 t215 t218 t219 t222 ((wrap64 (8 * (t219.length : Int))) != (a0_3.size : Int)) a0_0 a0_1 l0_2 a0_3) else (agatelaw07_TensorTells.j5 k4 t211 t214 t215 t218 t219 t222 false a0_0 a0_1 l0_2 a0_3)) else (none)) else (if t222 = 0 then (agatelaw07_TensorTells.j5 k4 t211 t214 t215 t218 t219 t222 ((wrap64 (8 * (t219.length : Int))) != (a0_3.size : Int)) a0_0 a0_1 l0_2 a0_3) else (agatelaw07_TensorTells.j5 k4 t211 t214 t215 t218 t219 t222 false a0_0 a0_1 l0_2 a0_3))) = some r := by rw [if_pos rfl] at H; exact H
                  clear H
                  have H := H1
                  clear H1
                  by_cases c122 : t218 = 0
                  ·
                   rw [if_pos c122] at H
                   have c122b0 : (t218 == 0) = true := beq_iff_eq.mpr c122
                   have c122b1 : (t218 != 0) = false := bne_eq_false_iff_eq.mpr c122
                   clear c122
                   by_cases c123 : (t215.length : Int) = (a0_3.size : Int)
                   ·
                    rw [if_pos c123] at H
                    have c123b0 : ((t215.length : Int) == (a0_3.size : Int)) = true := beq_iff_eq.mpr c123
                    have c123b1 : ((t215.length : Int) != (a0_3.size : Int)) = false := bne_eq_false_iff_eq.mpr c123
                    have c123b2 : (t215.length == a0_3.size) = true := by first | simpa using c123 | (simp at c123 ⊢; omega)
                    clear c123
                    by_cases c124 : t222 = 0
                    ·
                     rw [if_pos c124] at H
                     have c124b0 : (t222 == 0) = true := beq_iff_eq.mpr c124
                     have c124b1 : (t222 != 0) = false := bne_eq_false_iff_eq.mpr c124
                     clear c124
                     have H' := Aside0.mk H
                     clear H; have hnb125 := NB143_101.out; have hnc125 := NB101_143.out; have hnb126 := NB143_102.out; have hnc126 := NB102_143.out; have hnb127 := NB143_144.out; have hnc127 := NB144_143.out; have hcz128_0 : wr.cell? ⟨gb143, 0, none⟩ = some (.string t137) := bcA BK143 0; have hcz128_1 : wr.cell? ⟨gb143, 1, none⟩ = some (.int .i64 t138) := bcA BK143 1; have hcz128_2 : wr.cell? ⟨gb143, 2, none⟩ = some (.slice A0_2 l0_2.length c0_2) := bcA BK143 2; have hcz128_3 : wr.cell? ⟨gb143, 3, none⟩ = some (.string t139) := bcA BK143 3; have hfz128_0 := blk_frozen BK143.out 0; have hfz128_1 := blk_frozen BK143.out 1; have hfz128_2 := blk_frozen BK143.out 2; have hfz128_3 := blk_frozen BK143.out 3
                     go_wp2_with (first | (go_at_call 48; (with_reducible refine (agateref07_Ints_s.calls t137 t138 _ _ l0_2 t139 t240 _ ?side1 ?side2 A119.out).mono ?_); (case side1 => repeat (first | exact (Kd.C_below HR0_2.out HB.out) | (with_reducible refine Kd.C_alloc ?_ _) | (with_reducible refine Kd.C_drewN ?_ _) | (with_reducible refine Kd.C_drew ?_))); (case side2 => exact HC0_2.out); rintro e w129 ⟨v241, rfl, ho0, hb⟩; have n0_ := Aside0.mk (Kd.R_elder' (krA HO_12) (Kd.R_base ho0) hb); have n1_ := Aside0.mk (Kd.R_below (krA HO_14) hb); have n2_ := Aside0.mk (Kd.R_below (krA HO_16) hb); have n3_ := Aside0.mk (Kd.R_below (krA HO_136) hb); have n4_ := Aside0.mk (Kd.R_lower (Kd.R_new' ho0 (Kd.R_lt (krA HO_12))) (below_size (hbA HB))); have n5_ := Aside0.mk (blk_below (g := gb101) (bkA BK101) hb); have n6_ := Aside0.mk (blk_below (g := gb102) (bkA BK102) hb); have n7_ := Aside0.mk (blk_below (g := gb143) (bkA BK143) hb); have n8_ := Aside0.mk (blk_below (g := gb144) (bkA BK144) hb); have n9_ := Aside0.mk (below_step (hbA HB) hb); clear HO_12; clear HO_14; clear HO_16; clear HO_136; clear BK101; clear BK102; clear BK143; clear BK144; clear HB; have HO_12 := n0_; have HO_14 := n1_; have HO_16 := n2_; have HO_136 := n3_; have HO242 := n4_; have BK101 := n5_; have BK102 := n6_; have BK143 := n7_; have BK144 := n8_; have HB := n9_; clear n0_ n1_ n2_ n3_ n4_ n5_ n6_ n7_ n8_ n9_; (try clear hb); (try clear hb2); (try clear hk); (try clear hi); (try clear ho0); obtain ⟨Ao130, co130, eo130⟩ := Kd.R_slice HO_12.out; subst eo130; obtain ⟨Ao131, co131, eo131⟩ := Kd.R_slice HO242.out; subst eo131) | (go_at_call 23; (with_reducible refine (agatelaw03_Ints_s.calls _ _ t211 _ _ t240 true _ ?side1 ?side2 ?side3 ?side4 A120.out).mono ?_); (case side1 => repeat (first | exact (Kd.R_reads' HO_12.out).2.2 | (with_reducible refine Kd.C_alloc ?_ _) | (with_reducible refine Kd.C_drewN ?_ _) | (with_reducible refine Kd.C_drew ?_))); (case side2 => exact (Kd.R_reads' HO_12.out).2.1); (case side3 => repeat (first | exact (Kd.R_reads' HO242.out).2.2 | (with_reducible refine Kd.C_alloc ?_ _) | (with_reducible refine Kd.C_drewN ?_ _) | (with_reducible refine Kd.C_drew ?_))); (case side4 => exact (Kd.R_reads' HO242.out).2.1); rintro e w' ⟨rfl, ⟨nd, rfl⟩⟩; obtain ⟨Ao132, co132, eo132⟩ := Kd.R_slice HO_14.out; subst eo132; have hnb133 := NB101_102.out; have hnc133 := NB102_101.out; have hnb134 := NB101_144.out; have hnc134 := NB144_101.out; have hcz135_0 : w129.cell? ⟨gb101, 0, none⟩ = some (.string a0_0) := bcA BK101 0; have hcz135_1 : w129.cell? ⟨gb101, 1, none⟩ = some (.int .i64 a0_1) := bcA BK101 1; have hcz135_2 : w129.cell? ⟨gb101, 2, none⟩ = some (.slice A0_2 l0_2.length c0_2) := bcA BK101 2; have hcz135_3 : w129.cell? ⟨gb101, 3, none⟩ = some (.string a0_3) := bcA BK101 3; have hfz135_0 := blk_frozen BK101.out 0; have hfz135_1 := blk_frozen BK101.out 1; have hfz135_2 := blk_frozen BK101.out 2; have hfz135_3 := blk_frozen BK101.out 3; obtain ⟨Ao136, co136, eo136⟩ := Kd.R_slice HO_16.out; subst eo136))
                     go_meet
                     case rel => exact ⟨_, (((wrap64 (8 * (t219.length : Int))) != (a0_3.size : Int))), (by first | rfl | (simp; done) | (simp [*]; done)), H', ⟨by have := HJ3.out; have := HJ39.out; have := HJ71.out; have := HK4.out; first | omega | exact Nat.le_refl _⟩, ⟨by (with_reducible repeat (first | apply Kd.R_alloc | apply Kd.R_drewN | apply Kd.R_drew)); exact Kd.R_mono HO_12.out (fun _ hk => trivial)⟩, ⟨krA HO_14⟩, ⟨krA HO_16⟩, ⟨bkA BK101⟩, ⟨bkA BK102⟩, ⟨bkA BK143⟩, ⟨bkA BK144⟩, ⟨hbA HB⟩⟩
                    ·
                     rw [if_neg c124] at H
                     have c124b0 : (t222 == 0) = false := beq_eq_false_iff_ne.mpr c124
                     have c124b1 : (t222 != 0) = true := bne_iff_ne.mpr c124
                     have H' := Aside0.mk H
                     clear H; have hnb137 := NB143_101.out; have hnc137 := NB101_143.out; have hnb138 := NB143_102.out; have hnc138 := NB102_143.out; have hnb139 := NB143_144.out; have hnc139 := NB144_143.out; have hcz140_0 : wr.cell? ⟨gb143, 0, none⟩ = some (.string t137) := bcA BK143 0; have hcz140_1 : wr.cell? ⟨gb143, 1, none⟩ = some (.int .i64 t138) := bcA BK143 1; have hcz140_2 : wr.cell? ⟨gb143, 2, none⟩ = some (.slice A0_2 l0_2.length c0_2) := bcA BK143 2; have hcz140_3 : wr.cell? ⟨gb143, 3, none⟩ = some (.string t139) := bcA BK143 3; have hfz140_0 := blk_frozen BK143.out 0; have hfz140_1 := blk_frozen BK143.out 1; have hfz140_2 := blk_frozen BK143.out 2; have hfz140_3 := blk_frozen BK143.out 3
                     go_wp2_with (first | (go_at_call 48; (with_reducible refine (agateref07_Ints_s.calls t137 t138 _ _ l0_2 t139 t240 _ ?side1 ?side2 A119.out).mono ?_); (case side1 => repeat (first | exact (Kd.C_below HR0_2.out HB.out) | (with_reducible refine Kd.C_alloc ?_ _) | (with_reducible refine Kd.C_drewN ?_ _) | (with_reducible refine Kd.C_drew ?_))); (case side2 => exact HC0_2.out); rintro e w141 ⟨v241, rfl, ho0, hb⟩; have n0_ := Aside0.mk (Kd.R_elder' (krA HO_12) (Kd.R_base ho0) hb); have n1_ := Aside0.mk (Kd.R_below (krA HO_14) hb); have n2_ := Aside0.mk (Kd.R_below (krA HO_16) hb); have n3_ := Aside0.mk (Kd.R_below (krA HO_136) hb); have n4_ := Aside0.mk (Kd.R_lower (Kd.R_new' ho0 (Kd.R_lt (krA HO_12))) (below_size (hbA HB))); have n5_ := Aside0.mk (blk_below (g := gb101) (bkA BK101) hb); have n6_ := Aside0.mk (blk_below (g := gb102) (bkA BK102) hb); have n7_ := Aside0.mk (blk_below (g := gb143) (bkA BK143) hb); have n8_ := Aside0.mk (blk_below (g := gb144) (bkA BK144) hb); have n9_ := Aside0.mk (below_step (hbA HB) hb); clear HO_12; clear HO_14; clear HO_16; clear HO_136; clear BK101; clear BK102; clear BK143; clear BK144; clear HB; have HO_12 := n0_; have HO_14 := n1_; have HO_16 := n2_; have HO_136 := n3_; have HO242 := n4_; have BK101 := n5_; have BK102 := n6_; have BK143 := n7_; have BK144 := n8_; have HB := n9_; clear n0_ n1_ n2_ n3_ n4_ n5_ n6_ n7_ n8_ n9_; (try clear hb); (try clear hb2); (try clear hk); (try clear hi); (try clear ho0); obtain ⟨Ao142, co142, eo142⟩ := Kd.R_slice HO_12.out; subst eo142; obtain ⟨Ao143, co143, eo143⟩ := Kd.R_slice HO242.out; subst eo143) | (go_at_call 23; (with_reducible refine (agatelaw03_Ints_s.calls _ _ t211 _ _ t240 true _ ?side1 ?side2 ?side3 ?side4 A120.out).mono ?_); (case side1 => repeat (first | exact (Kd.R_reads' HO_12.out).2.2 | (with_reducible refine Kd.C_alloc ?_ _) | (with_reducible refine Kd.C_drewN ?_ _) | (with_reducible refine Kd.C_drew ?_))); (case side2 => exact (Kd.R_reads' HO_12.out).2.1); (case side3 => repeat (first | exact (Kd.R_reads' HO242.out).2.2 | (with_reducible refine Kd.C_alloc ?_ _) | (with_reducible refine Kd.C_drewN ?_ _) | (with_reducible refine Kd.C_drew ?_))); (case side4 => exact (Kd.R_reads' HO242.out).2.1); rintro e w' ⟨rfl, ⟨nd, rfl⟩⟩; obtain ⟨Ao144, co144, eo144⟩ := Kd.R_slice HO_14.out; subst eo144; have hnb145 := NB101_102.out; have hnc145 := NB102_101.out; have hnb146 := NB101_144.out; have hnc146 := NB144_101.out; have hcz147_0 : w141.cell? ⟨gb101, 0, none⟩ = some (.string a0_0) := bcA BK101 0; have hcz147_1 : w141.cell? ⟨gb101, 1, none⟩ = some (.int .i64 a0_1) := bcA BK101 1; have hcz147_2 : w141.cell? ⟨gb101, 2, none⟩ = some (.slice A0_2 l0_2.length c0_2) := bcA BK101 2; have hcz147_3 : w141.cell? ⟨gb101, 3, none⟩ = some (.string a0_3) := bcA BK101 3; have hfz147_0 := blk_frozen BK101.out 0; have hfz147_1 := blk_frozen BK101.out 1; have hfz147_2 := blk_frozen BK101.out 2; have hfz147_3 := blk_frozen BK101.out 3))
                     go_meet
                     case rel => exact ⟨_, (false), (by first | rfl | (simp; done) | (simp [*]; done)), H', ⟨by have := HJ3.out; have := HJ39.out; have := HJ71.out; have := HK4.out; first | omega | exact Nat.le_refl _⟩, ⟨by (with_reducible repeat (first | apply Kd.R_alloc | apply Kd.R_drewN | apply Kd.R_drew)); exact Kd.R_mono HO_12.out (fun _ hk => trivial)⟩, ⟨krA HO_14⟩, ⟨krA HO_16⟩, ⟨bkA BK101⟩, ⟨bkA BK102⟩, ⟨bkA BK143⟩, ⟨bkA BK144⟩, ⟨hbA HB⟩⟩
                   ·
                    rw [if_neg c123] at H
                    exact absurd H (by simp)
                  ·
                   rw [if_neg c122] at H
                   have c122b0 : (t218 == 0) = false := beq_eq_false_iff_ne.mpr c122
                   have c122b1 : (t218 != 0) = true := bne_iff_ne.mpr c122
                   by_cases c148 : t222 = 0
                   ·
                    rw [if_pos c148] at H
                    have c148b0 : (t222 == 0) = true := beq_iff_eq.mpr c148
                    have c148b1 : (t222 != 0) = false := bne_eq_false_iff_eq.mpr c148
                    clear c148
                    have H' := Aside0.mk H
                    clear H; have hnb149 := NB143_101.out; have hnc149 := NB101_143.out; have hnb150 := NB143_102.out; have hnc150 := NB102_143.out; have hnb151 := NB143_144.out; have hnc151 := NB144_143.out; have hcz152_0 : wr.cell? ⟨gb143, 0, none⟩ = some (.string t137) := bcA BK143 0; have hcz152_1 : wr.cell? ⟨gb143, 1, none⟩ = some (.int .i64 t138) := bcA BK143 1; have hcz152_2 : wr.cell? ⟨gb143, 2, none⟩ = some (.slice A0_2 l0_2.length c0_2) := bcA BK143 2; have hcz152_3 : wr.cell? ⟨gb143, 3, none⟩ = some (.string t139) := bcA BK143 3; have hfz152_0 := blk_frozen BK143.out 0; have hfz152_1 := blk_frozen BK143.out 1; have hfz152_2 := blk_frozen BK143.out 2; have hfz152_3 := blk_frozen BK143.out 3
                    go_wp2_with (first | (go_at_call 48; (with_reducible refine (agateref07_Ints_s.calls t137 t138 _ _ l0_2 t139 t240 _ ?side1 ?side2 A119.out).mono ?_); (case side1 => repeat (first | exact (Kd.C_below HR0_2.out HB.out) | (with_reducible refine Kd.C_alloc ?_ _) | (with_reducible refine Kd.C_drewN ?_ _) | (with_reducible refine Kd.C_drew ?_))); (case side2 => exact HC0_2.out); rintro e w153 ⟨v241, rfl, ho0, hb⟩; have n0_ := Aside0.mk (Kd.R_elder' (krA HO_12) (Kd.R_base ho0) hb); have n1_ := Aside0.mk (Kd.R_below (krA HO_14) hb); have n2_ := Aside0.mk (Kd.R_below (krA HO_16) hb); have n3_ := Aside0.mk (Kd.R_below (krA HO_136) hb); have n4_ := Aside0.mk (Kd.R_lower (Kd.R_new' ho0 (Kd.R_lt (krA HO_12))) (below_size (hbA HB))); have n5_ := Aside0.mk (blk_below (g := gb101) (bkA BK101) hb); have n6_ := Aside0.mk (blk_below (g := gb102) (bkA BK102) hb); have n7_ := Aside0.mk (blk_below (g := gb143) (bkA BK143) hb); have n8_ := Aside0.mk (blk_below (g := gb144) (bkA BK144) hb); have n9_ := Aside0.mk (below_step (hbA HB) hb); clear HO_12; clear HO_14; clear HO_16; clear HO_136; clear BK101; clear BK102; clear BK143; clear BK144; clear HB; have HO_12 := n0_; have HO_14 := n1_; have HO_16 := n2_; have HO_136 := n3_; have HO242 := n4_; have BK101 := n5_; have BK102 := n6_; have BK143 := n7_; have BK144 := n8_; have HB := n9_; clear n0_ n1_ n2_ n3_ n4_ n5_ n6_ n7_ n8_ n9_; (try clear hb); (try clear hb2); (try clear hk); (try clear hi); (try clear ho0); obtain ⟨Ao154, co154, eo154⟩ := Kd.R_slice HO_12.out; subst eo154; obtain ⟨Ao155, co155, eo155⟩ := Kd.R_slice HO242.out; subst eo155) | (go_at_call 23; (with_reducible refine (agatelaw03_Ints_s.calls _ _ t211 _ _ t240 true _ ?side1 ?side2 ?side3 ?side4 A120.out).mono ?_); (case side1 => repeat (first | exact (Kd.R_reads' HO_12.out).2.2 | (with_reducible refine Kd.C_alloc ?_ _) | (with_reducible refine Kd.C_drewN ?_ _) | (with_reducible refine Kd.C_drew ?_))); (case side2 => exact (Kd.R_reads' HO_12.out).2.1); (case side3 => repeat (first | exact (Kd.R_reads' HO242.out).2.2 | (with_reducible refine Kd.C_alloc ?_ _) | (with_reducible refine Kd.C_drewN ?_ _) | (with_reducible refine Kd.C_drew ?_))); (case side4 => exact (Kd.R_reads' HO242.out).2.1); rintro e w' ⟨rfl, ⟨nd, rfl⟩⟩; obtain ⟨Ao156, co156, eo156⟩ := Kd.R_slice HO_16.out; subst eo156; have hnb157 := NB101_102.out; have hnc157 := NB102_101.out; have hnb158 := NB101_144.out; have hnc158 := NB144_101.out; have hcz159_0 : w153.cell? ⟨gb101, 0, none⟩ = some (.string a0_0) := bcA BK101 0; have hcz159_1 : w153.cell? ⟨gb101, 1, none⟩ = some (.int .i64 a0_1) := bcA BK101 1; have hcz159_2 : w153.cell? ⟨gb101, 2, none⟩ = some (.slice A0_2 l0_2.length c0_2) := bcA BK101 2; have hcz159_3 : w153.cell? ⟨gb101, 3, none⟩ = some (.string a0_3) := bcA BK101 3; have hfz159_0 := blk_frozen BK101.out 0; have hfz159_1 := blk_frozen BK101.out 1; have hfz159_2 := blk_frozen BK101.out 2; have hfz159_3 := blk_frozen BK101.out 3))
                    go_meet
                    case rel => exact ⟨_, (((wrap64 (8 * (t219.length : Int))) != (a0_3.size : Int))), (by first | rfl | (simp; done) | (simp [*]; done)), H', ⟨by have := HJ3.out; have := HJ39.out; have := HJ71.out; have := HK4.out; first | omega | exact Nat.le_refl _⟩, ⟨by (with_reducible repeat (first | apply Kd.R_alloc | apply Kd.R_drewN | apply Kd.R_drew)); exact Kd.R_mono HO_12.out (fun _ hk => trivial)⟩, ⟨krA HO_14⟩, ⟨krA HO_16⟩, ⟨bkA BK101⟩, ⟨bkA BK102⟩, ⟨bkA BK143⟩, ⟨bkA BK144⟩, ⟨hbA HB⟩⟩
                   ·
                    rw [if_neg c148] at H
                    have c148b0 : (t222 == 0) = false := beq_eq_false_iff_ne.mpr c148
                    have c148b1 : (t222 != 0) = true := bne_iff_ne.mpr c148
                    have H' := Aside0.mk H
                    clear H; have hnb160 := NB143_101.out; have hnc160 := NB101_143.out; have hnb161 := NB143_102.out; have hnc161 := NB102_143.out; have hnb162 := NB143_144.out; have hnc162 := NB144_143.out; have hcz163_0 : wr.cell? ⟨gb143, 0, none⟩ = some (.string t137) := bcA BK143 0; have hcz163_1 : wr.cell? ⟨gb143, 1, none⟩ = some (.int .i64 t138) := bcA BK143 1; have hcz163_2 : wr.cell? ⟨gb143, 2, none⟩ = some (.slice A0_2 l0_2.length c0_2) := bcA BK143 2; have hcz163_3 : wr.cell? ⟨gb143, 3, none⟩ = some (.string t139) := bcA BK143 3; have hfz163_0 := blk_frozen BK143.out 0; have hfz163_1 := blk_frozen BK143.out 1; have hfz163_2 := blk_frozen BK143.out 2; have hfz163_3 := blk_frozen BK143.out 3
                    go_wp2_with (first | (go_at_call 48; (with_reducible refine (agateref07_Ints_s.calls t137 t138 _ _ l0_2 t139 t240 _ ?side1 ?side2 A119.out).mono ?_); (case side1 => repeat (first | exact (Kd.C_below HR0_2.out HB.out) | (with_reducible refine Kd.C_alloc ?_ _) | (with_reducible refine Kd.C_drewN ?_ _) | (with_reducible refine Kd.C_drew ?_))); (case side2 => exact HC0_2.out); rintro e w164 ⟨v241, rfl, ho0, hb⟩; have n0_ := Aside0.mk (Kd.R_elder' (krA HO_12) (Kd.R_base ho0) hb); have n1_ := Aside0.mk (Kd.R_below (krA HO_14) hb); have n2_ := Aside0.mk (Kd.R_below (krA HO_16) hb); have n3_ := Aside0.mk (Kd.R_below (krA HO_136) hb); have n4_ := Aside0.mk (Kd.R_lower (Kd.R_new' ho0 (Kd.R_lt (krA HO_12))) (below_size (hbA HB))); have n5_ := Aside0.mk (blk_below (g := gb101) (bkA BK101) hb); have n6_ := Aside0.mk (blk_below (g := gb102) (bkA BK102) hb); have n7_ := Aside0.mk (blk_below (g := gb143) (bkA BK143) hb); have n8_ := Aside0.mk (blk_below (g := gb144) (bkA BK144) hb); have n9_ := Aside0.mk (below_step (hbA HB) hb); clear HO_12; clear HO_14; clear HO_16; clear HO_136; clear BK101; clear BK102; clear BK143; clear BK144; clear HB; have HO_12 := n0_; have HO_14 := n1_; have HO_16 := n2_; have HO_136 := n3_; have HO242 := n4_; have BK101 := n5_; have BK102 := n6_; have BK143 := n7_; have BK144 := n8_; have HB := n9_; clear n0_ n1_ n2_ n3_ n4_ n5_ n6_ n7_ n8_ n9_; (try clear hb); (try clear hb2); (try clear hk); (try clear hi); (try clear ho0); obtain ⟨Ao165, co165, eo165⟩ := Kd.R_slice HO_12.out; subst eo165; obtain ⟨Ao166, co166, eo166⟩ := Kd.R_slice HO242.out; subst eo166) | (go_at_call 23; (with_reducible refine (agatelaw03_Ints_s.calls _ _ t211 _ _ t240 true _ ?side1 ?side2 ?side3 ?side4 A120.out).mono ?_); (case side1 => repeat (first | exact (Kd.R_reads' HO_12.out).2.2 | (with_reducible refine Kd.C_alloc ?_ _) | (with_reducible refine Kd.C_drewN ?_ _) | (with_reducible refine Kd.C_drew ?_))); (case side2 => exact (Kd.R_reads' HO_12.out).2.1); (case side3 => repeat (first | exact (Kd.R_reads' HO242.out).2.2 | (with_reducible refine Kd.C_alloc ?_ _) | (with_reducible refine Kd.C_drewN ?_ _) | (with_reducible refine Kd.C_drew ?_))); (case side4 => exact (Kd.R_reads' HO242.out).2.1); rintro e w' ⟨rfl, ⟨nd, rfl⟩⟩))
                    go_meet
                    case rel => exact ⟨_, (false), (by first | rfl | (simp; done) | (simp [*]; done)), H', ⟨by have := HJ3.out; have := HJ39.out; have := HJ71.out; have := HK4.out; first | omega | exact Nat.le_refl _⟩, ⟨by (with_reducible repeat (first | apply Kd.R_alloc | apply Kd.R_drewN | apply Kd.R_drew)); exact Kd.R_mono HO_12.out (fun _ hk => trivial)⟩, ⟨krA HO_14⟩, ⟨krA HO_16⟩, ⟨bkA BK101⟩, ⟨bkA BK102⟩, ⟨bkA BK143⟩, ⟨bkA BK144⟩, ⟨hbA HB⟩⟩
                 ·
                  replace c121 := Bool.eq_false_iff.mpr c121
                  subst c121
                  have H1 : (none) = some r := by rw [if_neg (show ¬ (false = true) by decide)] at H; exact H
                  clear H
                  have H := H1
                  clear H1
                  exact absurd H (by simp)
                ·
                 rw [if_neg c118] at H
                 have c118b0 : (t214 == 0) = false := beq_eq_false_iff_ne.mpr c118
                 have c118b1 : (t214 != 0) = true := bne_iff_ne.mpr c118
                 (first | rw [c118b0] | (simp only [i64_w, i32_w]; rw [c118b0]) | skip)
                 by_cases c167 : t218 = 0
                 ·
                  rw [if_pos c167] at H
                  have c167b0 : (t218 == 0) = true := beq_iff_eq.mpr c167
                  have c167b1 : (t218 != 0) = false := bne_eq_false_iff_eq.mpr c167
                  clear c167
                  by_cases c168 : (t215.length : Int) = (a0_3.size : Int)
                  ·
                   rw [if_pos c168] at H
                   have c168b0 : ((t215.length : Int) == (a0_3.size : Int)) = true := beq_iff_eq.mpr c168
                   have c168b1 : ((t215.length : Int) != (a0_3.size : Int)) = false := bne_eq_false_iff_eq.mpr c168
                   have c168b2 : (t215.length == a0_3.size) = true := by first | simpa using c168 | (simp at c168 ⊢; omega)
                   clear c168
                   by_cases c169 : t222 = 0
                   ·
                    rw [if_pos c169] at H
                    have c169b0 : (t222 == 0) = true := beq_iff_eq.mpr c169
                    have c169b1 : (t222 != 0) = false := bne_eq_false_iff_eq.mpr c169
                    clear c169
                    have H' := Aside0.mk H
                    clear H
                    obtain ⟨Ao170, co170, eo170⟩ := Kd.R_slice HO_14.out
                    subst eo170
                    have hnb171 := NB101_102.out; have hnc171 := NB102_101.out; have hnb172 := NB101_143.out; have hnc172 := NB143_101.out; have hnb173 := NB101_144.out; have hnc173 := NB144_101.out; have hcz174_0 : wr.cell? ⟨gb101, 0, none⟩ = some (.string a0_0) := bcA BK101 0; have hcz174_1 : wr.cell? ⟨gb101, 1, none⟩ = some (.int .i64 a0_1) := bcA BK101 1; have hcz174_2 : wr.cell? ⟨gb101, 2, none⟩ = some (.slice A0_2 l0_2.length c0_2) := bcA BK101 2; have hcz174_3 : wr.cell? ⟨gb101, 3, none⟩ = some (.string a0_3) := bcA BK101 3; have hfz174_0 := blk_frozen BK101.out 0; have hfz174_1 := blk_frozen BK101.out 1; have hfz174_2 := blk_frozen BK101.out 2; have hfz174_3 := blk_frozen BK101.out 3
                    obtain ⟨Ao175, co175, eo175⟩ := Kd.R_slice HO_16.out
                    subst eo175
                    go_wp2
                    go_meet
                    case rel => exact ⟨_, (((wrap64 (8 * (t219.length : Int))) != (a0_3.size : Int))), (by first | rfl | (simp; done) | (simp [*]; done)), H', ⟨by have := HJ3.out; have := HJ39.out; have := HJ71.out; have := HK4.out; first | omega | exact Nat.le_refl _⟩, ⟨krA HO_12⟩, ⟨krA HO_14⟩, ⟨krA HO_16⟩, ⟨bkA BK101⟩, ⟨bkA BK102⟩, ⟨bkA BK143⟩, ⟨bkA BK144⟩, ⟨hbA HB⟩⟩
                   ·
                    rw [if_neg c169] at H
                    have c169b0 : (t222 == 0) = false := beq_eq_false_iff_ne.mpr c169
                    have c169b1 : (t222 != 0) = true := bne_iff_ne.mpr c169
                    have H' := Aside0.mk H
                    clear H
                    obtain ⟨Ao176, co176, eo176⟩ := Kd.R_slice HO_14.out
                    subst eo176
                    have hnb177 := NB101_102.out; have hnc177 := NB102_101.out; have hnb178 := NB101_143.out; have hnc178 := NB143_101.out; have hnb179 := NB101_144.out; have hnc179 := NB144_101.out; have hcz180_0 : wr.cell? ⟨gb101, 0, none⟩ = some (.string a0_0) := bcA BK101 0; have hcz180_1 : wr.cell? ⟨gb101, 1, none⟩ = some (.int .i64 a0_1) := bcA BK101 1; have hcz180_2 : wr.cell? ⟨gb101, 2, none⟩ = some (.slice A0_2 l0_2.length c0_2) := bcA BK101 2; have hcz180_3 : wr.cell? ⟨gb101, 3, none⟩ = some (.string a0_3) := bcA BK101 3; have hfz180_0 := blk_frozen BK101.out 0; have hfz180_1 := blk_frozen BK101.out 1; have hfz180_2 := blk_frozen BK101.out 2; have hfz180_3 := blk_frozen BK101.out 3
                    go_wp2
                    go_meet
                    case rel => exact ⟨_, (false), (by first | rfl | (simp; done) | (simp [*]; done)), H', ⟨by have := HJ3.out; have := HJ39.out; have := HJ71.out; have := HK4.out; first | omega | exact Nat.le_refl _⟩, ⟨krA HO_12⟩, ⟨krA HO_14⟩, ⟨krA HO_16⟩, ⟨bkA BK101⟩, ⟨bkA BK102⟩, ⟨bkA BK143⟩, ⟨bkA BK144⟩, ⟨hbA HB⟩⟩
                  ·
                   rw [if_neg c168] at H
                   exact absurd H (by simp)
                 ·
                  rw [if_neg c167] at H
                  have c167b0 : (t218 == 0) = false := beq_eq_false_iff_ne.mpr c167
                  have c167b1 : (t218 != 0) = true := bne_iff_ne.mpr c167
                  by_cases c181 : t222 = 0
                  ·
                   rw [if_pos c181] at H
                   have c181b0 : (t222 == 0) = true := beq_iff_eq.mpr c181
                   have c181b1 : (t222 != 0) = false := bne_eq_false_iff_eq.mpr c181
                   clear c181
                   have H' := Aside0.mk H
                   clear H
                   obtain ⟨Ao182, co182, eo182⟩ := Kd.R_slice HO_16.out
                   subst eo182
                   have hnb183 := NB101_102.out; have hnc183 := NB102_101.out; have hnb184 := NB101_143.out; have hnc184 := NB143_101.out; have hnb185 := NB101_144.out; have hnc185 := NB144_101.out; have hcz186_0 : wr.cell? ⟨gb101, 0, none⟩ = some (.string a0_0) := bcA BK101 0; have hcz186_1 : wr.cell? ⟨gb101, 1, none⟩ = some (.int .i64 a0_1) := bcA BK101 1; have hcz186_2 : wr.cell? ⟨gb101, 2, none⟩ = some (.slice A0_2 l0_2.length c0_2) := bcA BK101 2; have hcz186_3 : wr.cell? ⟨gb101, 3, none⟩ = some (.string a0_3) := bcA BK101 3; have hfz186_0 := blk_frozen BK101.out 0; have hfz186_1 := blk_frozen BK101.out 1; have hfz186_2 := blk_frozen BK101.out 2; have hfz186_3 := blk_frozen BK101.out 3
                   go_wp2
                   go_meet
                   case rel => exact ⟨_, (((wrap64 (8 * (t219.length : Int))) != (a0_3.size : Int))), (by first | rfl | (simp; done) | (simp [*]; done)), H', ⟨by have := HJ3.out; have := HJ39.out; have := HJ71.out; have := HK4.out; first | omega | exact Nat.le_refl _⟩, ⟨krA HO_12⟩, ⟨krA HO_14⟩, ⟨krA HO_16⟩, ⟨bkA BK101⟩, ⟨bkA BK102⟩, ⟨bkA BK143⟩, ⟨bkA BK144⟩, ⟨hbA HB⟩⟩
                  ·
                   rw [if_neg c181] at H
                   have c181b0 : (t222 == 0) = false := beq_eq_false_iff_ne.mpr c181
                   have c181b1 : (t222 != 0) = true := bne_iff_ne.mpr c181
                   have H' := Aside0.mk H
                   clear H
                   go_wp2
                   go_meet
                   case rel => exact ⟨_, (false), (by first | rfl | (simp; done) | (simp [*]; done)), H', ⟨by have := HJ3.out; have := HJ39.out; have := HJ71.out; have := HK4.out; first | omega | exact Nat.le_refl _⟩, ⟨krA HO_12⟩, ⟨krA HO_14⟩, ⟨krA HO_16⟩, ⟨bkA BK101⟩, ⟨bkA BK102⟩, ⟨bkA BK143⟩, ⟨bkA BK144⟩, ⟨hbA HB⟩⟩
               case rest =>
                clear HC117; try clear c7; try clear c10; try clear c14; try clear c18; try clear c38; try clear c65; try clear c65b0; try clear c66; try clear c66b0; try clear c67; try clear c67b0; try clear c67b1; try clear c73; try clear c75; try clear c75b0; try clear c75b1; try clear c76; try clear c76b0; try clear c76b1; try clear c77; try clear c77b0; try clear c77b1; try clear c83; try clear c83b0; try clear c83b1; try clear c101; try clear c101b0; try clear c102; try clear c102b0; try clear c103; try clear c103b0; try clear c104; try clear c104b0; try clear c110; try clear c110b0; try clear c110b1; try clear c111; try clear c111b0; try clear c111b1; try clear c112; try clear c112b0; try clear c112b1; try clear c113; try clear c113b0; try clear c113b1; try clear c114; try clear c114b0; try clear c114b1; try clear c115; try clear c115b0; try clear c115b1; try clear c116; try clear c118; try clear c118b0; try clear c118b1; try clear c121; try clear c122; try clear c122b0; try clear c122b1; try clear c123; try clear c123b0; try clear c123b1; try clear c123b2; try clear c124; try clear c124b0; try clear c124b1; try clear c148; try clear c148b0; try clear c148b1; try clear c167; try clear c167b0; try clear c167b1; try clear c168; try clear c168b0; try clear c168b1; try clear c168b2; try clear c169; try clear c169b0; try clear c169b1; try clear c181; try clear c181b0; try clear c181b1; try clear hcz128_0; try clear hcz128_1; try clear hcz128_2; try clear hcz128_3; try clear hcz135_0; try clear hcz135_1; try clear hcz135_2; try clear hcz135_3; try clear hcz140_0; try clear hcz140_1; try clear hcz140_2; try clear hcz140_3; try clear hcz147_0; try clear hcz147_1; try clear hcz147_2; try clear hcz147_3; try clear hcz152_0; try clear hcz152_1; try clear hcz152_2; try clear hcz152_3; try clear hcz159_0; try clear hcz159_1; try clear hcz159_2; try clear hcz159_3; try clear hcz163_0; try clear hcz163_1; try clear hcz163_2; try clear hcz163_3; try clear hcz174_0; try clear hcz174_1; try clear hcz174_2; try clear hcz174_3; try clear hcz180_0; try clear hcz180_1; try clear hcz180_2; try clear hcz180_3; try clear hcz186_0; try clear hcz186_1; try clear hcz186_2; try clear hcz186_3; try clear hcz58_0; try clear hcz58_1; try clear hcz58_2; try clear hcz58_3; try clear hcz64_0; try clear hcz64_1; try clear hcz64_2; try clear hcz64_3; try clear hcz71_0; try clear hcz71_1; try clear hcz71_2; try clear hcz71_3; try clear hcz81_0; try clear hcz81_1; try clear hcz81_2; try clear hcz81_3; try clear hcz90_0; try clear hcz90_1; try clear hcz90_2; try clear hcz90_3; try clear hcz92_0; try clear hcz92_1; try clear hcz92_2; try clear hcz92_3; try clear hcz94_0; try clear hcz94_1; try clear hcz94_2; try clear hcz94_3; try clear hcz96_0; try clear hcz96_1; try clear hcz96_2; try clear hcz96_3; try clear hfz128_0; try clear hfz128_1; try clear hfz128_2; try clear hfz128_3; try clear hfz135_0; try clear hfz135_1; try clear hfz135_2; try clear hfz135_3; try clear hfz140_0; try clear hfz140_1; try clear hfz140_2; try clear hfz140_3; try clear hfz147_0; try clear hfz147_1; try clear hfz147_2; try clear hfz147_3; try clear hfz152_0; try clear hfz152_1; try clear hfz152_2; try clear hfz152_3; try clear hfz159_0; try clear hfz159_1; try clear hfz159_2; try clear hfz159_3; try clear hfz163_0; try clear hfz163_1; try clear hfz163_2; try clear hfz163_3; try clear hfz174_0; try clear hfz174_1; try clear hfz174_2; try clear hfz174_3; try clear hfz180_0; try clear hfz180_1; try clear hfz180_2; try clear hfz180_3; try clear hfz186_0; try clear hfz186_1; try clear hfz186_2; try clear hfz186_3; try clear hfz58_0; try clear hfz58_1; try clear hfz58_2; try clear hfz58_3; try clear hfz64_0; try clear hfz64_1; try clear hfz64_2; try clear hfz64_3; try clear hfz71_0; try clear hfz71_1; try clear hfz71_2; try clear hfz71_3; try clear hfz81_0; try clear hfz81_1; try clear hfz81_2; try clear hfz81_3; try clear hfz90_0; try clear hfz90_1; try clear hfz90_2; try clear hfz90_3; try clear hfz92_0; try clear hfz92_1; try clear hfz92_2; try clear hfz92_3; try clear hfz94_0; try clear hfz94_1; try clear hfz94_2; try clear hfz94_3; try clear hfz96_0; try clear hfz96_1; try clear hfz96_2; try clear hfz96_3; try clear hx231_0; try clear hx235_0; try clear p231; try clear p235; try clear q231; try clear q235
                obtain ⟨kq, x214_116, rfl, HA, HJ116, HO_12, HO_14, HO_16, BK101, BK102, BK143, BK144, HB⟩ := hcut
                cases kq with
                | zero => exact absurd HA.out (by simp [agatelaw07_TensorTells.j5])
                | succ kj116 =>
                 have H := HA.out; clear HA
                 simp only [agatelaw07_TensorTells.j5] at H
                 by_cases c187 : x214_116 = true
                 ·
                  subst c187
                  have H1 : (none) = some r := by rw [if_pos rfl] at H; exact H
                  clear H
                  have H := H1
                  clear H1
                  exact absurd H (by simp)
                 ·
                  replace c187 := Bool.eq_false_iff.mpr c187
                  subst c187
                  have H1 : (agatelaw07_TensorTells.l1 kj116 t211 t214 t215 t218 t219 t222 t215 (t215.length : Int) 0 a0_0 a0_1 l0_2 a0_3) = some r := by rw [if_neg (show ¬ (false = true) by decide)] at H; exact H
                  clear H
                  have H := H1
                  clear H1
                  have H' := Aside0.mk H
                  clear H
                  obtain ⟨Ao188, co188, eo188⟩ := Kd.R_slice HO_14.out
                  subst eo188
                  go_wp2
                  go_loopg [217] kj116 (fun kq v217 w' => ∃ (x217_6 : Int), v217 = .int .i64 x217_6 ∧ Aside0 (agatelaw07_TensorTells.l1 kq t211 t214 t215 t218 t219 t222 t215 (t215.length : Int) x217_6 a0_0 a0_1 l0_2 a0_3 = some r) ∧ Aside0 (kq ≤ kj116) ∧ Aside0 (Kd.R (Kd.int .i64) 2 w' w.heap.size (fun _ => True) v212 t211) ∧ Aside0 (Kd.R Kd.bool 4 w' w.heap.size (fun _ => True) (.slice Ao188 t215.length co188) t215) ∧ Aside0 (Kd.R kdC 26 w' w.heap.size (fun _ => True) v220 t219) ∧ Aside0 (Kd.R Kd.bool 4 w' w.heap.size (fun _ => True) (.slice Ao188 t215.length co188) t215) ∧ Aside0 (w'.heap[gb101]? = some (.cells #[.string a0_0, .int .i64 a0_1, (.slice A0_2 l0_2.length c0_2), .string a0_3] 62 (0, 0))) ∧ Aside0 (w'.heap[gb102]? = some (.cells #[.string a1_0, .int .i64 a1_1, (.slice A1_2 l1_2.length c1_2), .string a1_3] 62 (0, 0))) ∧ Aside0 (w'.heap[gb143]? = some (.cells #[.string t137, .int .i64 t138, (.slice A0_2 l0_2.length c0_2), .string t139] 64 (0, 0))) ∧ Aside0 (w'.heap[gb144]? = some (.cells #[.string t140, .int .i64 t141, (.slice A1_2 l1_2.length c1_2), .string t142] 64 (0, 0))) ∧ Aside0 (Below w.heap.size w w'))
                  case atStart => exact ⟨(0), (by first | rfl | (simp; done) | (simp [*]; done)), H', ⟨Nat.le_refl _⟩, ⟨krA HO_12⟩, ⟨krA HO_14⟩, ⟨krA HO_16⟩, ⟨krA HO_14⟩, ⟨bkA BK101⟩, ⟨bkA BK102⟩, ⟨bkA BK143⟩, ⟨bkA BK144⟩, ⟨hbA HB⟩⟩
                  case round =>
                   clear H'
                   obtain ⟨x217_6, rfl, HA, HK6, HO_12, HO_14, HO_16, HO_215, BK101, BK102, BK143, BK144, HB⟩ := hrel
                   cases gk with
                   | zero => exact absurd HA.out (by simp [agatelaw07_TensorTells.l1])
                   | succ k6 =>
                    have H := HA.out; clear HA
                    simp only [agatelaw07_TensorTells.l1] at H
                    by_cases c189 : x217_6 < (t215.length : Int)
                    ·
                     rw [if_pos c189] at H
                     have c189b0 : decide (x217_6 < (t215.length : Int)) = true := decide_eq_true c189
                     clear c189
                     by_cases c190 : 0 ≤ x217_6
                     ·
                      rw [if_pos c190] at H
                      have c190b0 : decide (0 ≤ x217_6) = true := decide_eq_true c190
                      clear c190
                      by_cases c191 : x217_6 < (t215.length : Int)
                      ·
                       rw [if_pos c191] at H
                       have c191b0 : decide (x217_6 < (t215.length : Int)) = true := decide_eq_true c191
                       clear c191
                       by_cases c192 : x217_6 < (a0_3.size : Int)
                       ·
                        rw [if_pos c192] at H
                        have c192b0 : decide (x217_6 < (a0_3.size : Int)) = true := decide_eq_true c192
                        clear c192
                        by_cases c194 : ((rdOf false t215 x217_6) != ((bt a0_3 x217_6) == 1)) = true
                        ·
                         rw [if_pos c194] at H
                         exact absurd H (by simp)
                        ·
                         rw [if_neg c194] at H
                         have c194b0 : ((rdOf false t215 x217_6) != ((bt a0_3 x217_6) == 1)) = false := by simpa using c194
                         (try (have c194b1 : decide ((rdOf false t215 x217_6) = ((bt a0_3 x217_6) == 1)) = true := by simpa using c194))
                         (try (have c194b2 : ((rdOf false t215 x217_6) == ((bt a0_3 x217_6) == 1)) = true := by simpa using c194))
                         clear c194
                         have H' := Aside0.mk H
                         clear H
                         have p245 : 0 ≤ (x217_6 : Int) := of_decide_eq_true (by first | (with_reducible assumption) | assumption)
                         have q245 : x217_6 < (t215.length : Int) := of_decide_eq_true (by first | (with_reducible assumption) | assumption)
                         obtain ⟨ad245, e245, hx245_0⟩ := Kd.at_bool (Kd.R_reads' HO_215.out).2.2 x217_6 p245 q245
                         cases e245
                         replace p245 := eq_true p245
                         replace q245 := eq_true q245
                         have hnb195 := NB101_102.out; have hnc195 := NB102_101.out; have hnb196 := NB101_143.out; have hnc196 := NB143_101.out; have hnb197 := NB101_144.out; have hnc197 := NB144_101.out; have hcz198_0 : wr.cell? ⟨gb101, 0, none⟩ = some (.string a0_0) := bcA BK101 0; have hcz198_1 : wr.cell? ⟨gb101, 1, none⟩ = some (.int .i64 a0_1) := bcA BK101 1; have hcz198_2 : wr.cell? ⟨gb101, 2, none⟩ = some (.slice A0_2 l0_2.length c0_2) := bcA BK101 2; have hcz198_3 : wr.cell? ⟨gb101, 3, none⟩ = some (.string a0_3) := bcA BK101 3; have hfz198_0 := blk_frozen BK101.out 0; have hfz198_1 := blk_frozen BK101.out 1; have hfz198_2 := blk_frozen BK101.out 2; have hfz198_3 := blk_frozen BK101.out 3
                         have p193 : 0 ≤ (x217_6 : Int) := of_decide_eq_true (by first | (with_reducible assumption) | assumption)
                         have q193 : x217_6 < (a0_3.size : Int) := of_decide_eq_true (by first | (with_reducible assumption) | assumption)
                         have hx193 := bt_at a0_3 x217_6
                         replace p193 := eq_true p193
                         replace q193 := eq_true q193
                         go_wp2
                         go_roundg k6
                         case measure => have := HJ3.out; have := HJ39.out; have := HJ71.out; have := HK4.out; have := HJ116.out; have := HK6.out; omega
                         case rel => exact ⟨(wrap64 (x217_6 + 1)), (by first | rfl | (simp; done) | (simp [*]; done)), H', ⟨by have := HJ3.out; have := HJ39.out; have := HJ71.out; have := HK4.out; have := HJ116.out; have := HK6.out; omega⟩, ⟨krA HO_12⟩, ⟨krA HO_14⟩, ⟨krA HO_16⟩, ⟨krA HO_215⟩, ⟨bkA BK101⟩, ⟨bkA BK102⟩, ⟨bkA BK143⟩, ⟨bkA BK144⟩, ⟨hbA HB⟩⟩
                       ·
                        rw [if_neg c192] at H
                        exact absurd H (by simp)
                      ·
                       exact absurd (of_decide_eq_true c189b0) c191
                     ·
                      rw [if_neg c190] at H
                      exact absurd H (by simp)
                    ·
                     rw [if_neg c189] at H
                     have c189b0 : decide (x217_6 < (t215.length : Int)) = false := decide_eq_false c189
                     clear c189
                     have H' := Aside0.mk H
                     clear H
                     obtain ⟨Ao199, co199, eo199⟩ := Kd.R_slice HO_16.out
                     subst eo199
                     go_wp2
                     go_loopg [232] k6 (fun kq v232 w' => ∃ (x232_7 : Int), v232 = .int .i64 x232_7 ∧ Aside0 (agatelaw07_TensorTells.l2 kq t211 t214 t215 t218 t219 t222 t219 (t219.length : Int) x232_7 a0_0 a0_1 l0_2 a0_3 = some r) ∧ Aside0 (kq ≤ k6) ∧ Aside0 (Kd.R (Kd.int .i64) 2 w' w.heap.size (fun _ => True) v212 t211) ∧ Aside0 (Kd.R Kd.bool 4 w' w.heap.size (fun _ => True) (.slice Ao188 t215.length co188) t215) ∧ Aside0 (Kd.R kdC 26 w' w.heap.size (fun _ => True) (.slice Ao199 t219.length co199) t219) ∧ Aside0 (Kd.R kdC 26 w' w.heap.size (fun _ => True) (.slice Ao199 t219.length co199) t219) ∧ Aside0 (w'.heap[gb101]? = some (.cells #[.string a0_0, .int .i64 a0_1, (.slice A0_2 l0_2.length c0_2), .string a0_3] 62 (0, 0))) ∧ Aside0 (w'.heap[gb102]? = some (.cells #[.string a1_0, .int .i64 a1_1, (.slice A1_2 l1_2.length c1_2), .string a1_3] 62 (0, 0))) ∧ Aside0 (w'.heap[gb143]? = some (.cells #[.string t137, .int .i64 t138, (.slice A0_2 l0_2.length c0_2), .string t139] 64 (0, 0))) ∧ Aside0 (w'.heap[gb144]? = some (.cells #[.string t140, .int .i64 t141, (.slice A1_2 l1_2.length c1_2), .string t142] 64 (0, 0))) ∧ Aside0 (Below w.heap.size w w'))
                     case atStart => exact ⟨(0), (by first | rfl | (simp; done) | (simp [*]; done)), H', ⟨Nat.le_refl _⟩, ⟨krA HO_12⟩, ⟨krA HO_14⟩, ⟨krA HO_16⟩, ⟨krA HO_16⟩, ⟨bkA BK101⟩, ⟨bkA BK102⟩, ⟨bkA BK143⟩, ⟨bkA BK144⟩, ⟨hbA HB⟩⟩
                     case round =>
                      clear H'
                      obtain ⟨x232_7, rfl, HA, HK7, HO_12, HO_14, HO_16, HO_230, BK101, BK102, BK143, BK144, HB⟩ := hrel
                      cases gk with
                      | zero => exact absurd HA.out (by simp [agatelaw07_TensorTells.l2])
                      | succ k7 =>
                       have H := HA.out; clear HA
                       simp only [agatelaw07_TensorTells.l2] at H
                       by_cases c200 : x232_7 < (t219.length : Int)
                       ·
                        rw [if_pos c200] at H
                        have c200b0 : decide (x232_7 < (t219.length : Int)) = true := decide_eq_true c200
                        clear c200
                        by_cases c201 : 0 ≤ x232_7
                        ·
                         rw [if_pos c201] at H
                         have c201b0 : decide (0 ≤ x232_7) = true := decide_eq_true c201
                         clear c201
                         by_cases c202 : x232_7 < (t219.length : Int)
                         ·
                          rw [if_pos c202] at H
                          have c202b0 : decide (x232_7 < (t219.length : Int)) = true := decide_eq_true c202
                          clear c202
                          obtain ⟨ji203, hji203⟩ : ∃ j_ : Int, (wrap64 (8 * x232_7)) = j_ := ⟨_, rfl⟩
                          replace H : (if 0 ≤ (ji203) then (if (ji203) ≤ (wrap64 ((ji203) + 8)) then (if (wrap64 ((ji203) + 8)) ≤ (a0_3.size : Int) then ((agateref06_Read_s.f (a0_3.extract ((ji203) : Int).toNat ((wrap64 ((ji203) + 8)) : Int).toNat)).bind fun bt253 => ((agatelaw06_OfX.f bt253.1 bt253.2.1).bind fun t257 => (if (ceq (rdOf ((0, 0) : Nat × Nat) t219 x232_7) t257 = true) then (agatelaw07_TensorTells.l2 k7 t211 t214 t215 t218 t219 t222 t219 (t219.length : Int) (wrap64 (x232_7 + 1)) a0_0 a0_1 l0_2 a0_3) else (none)))) else (none)) else (none)) else (none)) = some r := by first | (rw [hji203] at H; exact H) | (simp only [hji203] at H ⊢; exact H)
                          have hji203w : (IntKind.i64.wrap (8 * x232_7)) = ji203 := (i64_w _).trans hji203
                          by_cases c204 : 0 ≤ (ji203)
                          ·
                           rw [if_pos c204] at H
                           have c204b0 := eq_true c204
                           have c204b1 : decide (0 ≤ (ji203)) = true := decide_eq_true c204
                           clear c204
                           by_cases c205 : (ji203) ≤ (wrap64 ((ji203) + 8))
                           ·
                            rw [if_pos c205] at H
                            have c205b0 := eq_true c205
                            have c205b1 : decide ((ji203) ≤ (wrap64 ((ji203) + 8))) = true := decide_eq_true c205
                            by_cases c206 : (wrap64 ((ji203) + 8)) ≤ (a0_3.size : Int)
                            ·
                             rw [if_pos c206] at H
                             have c206b0 := eq_true c206
                             have c206b1 : decide ((wrap64 ((ji203) + 8)) ≤ (a0_3.size : Int)) = true := decide_eq_true c206
                             replace H := Option.bind_eq_some_iff.mp H
                             obtain ⟨⟨t253, t254, t255⟩, A2070, H⟩ := H
                             replace H : ((agatelaw06_OfX.f t253 t254).bind fun t257 => (if (ceq (rdOf ((0, 0) : Nat × Nat) t219 x232_7) t257 = true) then (agatelaw07_TensorTells.l2 k7 t211 t214 t215 t218 t219 t222 t219 (t219.length : Int) (wrap64 (x232_7 + 1)) a0_0 a0_1 l0_2 a0_3) else (none))) = some r := H
                             have A207 := Aside0.mk A2070
                             clear A2070
                             replace H := Option.bind_eq_some_iff.mp H
                             obtain ⟨t257, A2080, H⟩ := H
                             replace H : (if (ceq (rdOf ((0, 0) : Nat × Nat) t219 x232_7) t257 = true) then (agatelaw07_TensorTells.l2 k7 t211 t214 t215 t218 t219 t222 t219 (t219.length : Int) (wrap64 (x232_7 + 1)) a0_0 a0_1 l0_2 a0_3) else (none)) = some r := H
                             have A208 := Aside0.mk A2080
                             clear A2080
                             by_cases c209 : (ceq (rdOf ((0, 0) : Nat × Nat) t219 x232_7) t257 = true)
                             ·
                              rw [if_pos c209] at H
                              have c209b0 : ceq (rdOf ((0, 0) : Nat × Nat) t219 x232_7) t257 = true := c209
                              clear c209
                              have H' := Aside0.mk H
                              clear H
                              have p252 : 0 ≤ (x232_7 : Int) := of_decide_eq_true (by first | (with_reducible assumption) | assumption)
                              have q252 : x232_7 < (t219.length : Int) := of_decide_eq_true (by first | (with_reducible assumption) | assumption)
                              obtain ⟨ad252, e252, hx252_0⟩ := at_kdC (Kd.R_reads' HO_230.out).2.2 x232_7 p252 q252
                              cases e252
                              replace p252 := eq_true p252
                              replace q252 := eq_true q252
                              have hnb210 := NB101_102.out; have hnc210 := NB102_101.out; have hnb211 := NB101_143.out; have hnc211 := NB143_101.out; have hnb212 := NB101_144.out; have hnc212 := NB144_101.out; have hcz213_0 : wr.cell? ⟨gb101, 0, none⟩ = some (.string a0_0) := bcA BK101 0; have hcz213_1 : wr.cell? ⟨gb101, 1, none⟩ = some (.int .i64 a0_1) := bcA BK101 1; have hcz213_2 : wr.cell? ⟨gb101, 2, none⟩ = some (.slice A0_2 l0_2.length c0_2) := bcA BK101 2; have hcz213_3 : wr.cell? ⟨gb101, 3, none⟩ = some (.string a0_3) := bcA BK101 3; have hfz213_0 := blk_frozen BK101.out 0; have hfz213_1 := blk_frozen BK101.out 1; have hfz213_2 := blk_frozen BK101.out 2; have hfz213_3 := blk_frozen BK101.out 3
                              go_wp2_with (first | ((with_reducible refine gate_callee (f := 25) rfl ?_); refine goesL_ (some 246) rfl rfl Try.func25 (by kernel_rfl) rfl #[.string (a0_3.extract ((ji203) : Int).toNat ((wrap64 ((ji203) + 8)) : Int).toNat)] rfl (by (try simp only [List.map_toArray, List.map_cons, List.map_nil]); first | done | (simp only [hji203]; rfl) | rfl | (simp only [List.length_drop, List.length_take]; rfl)) ?_; (with_reducible refine (agateref06_Read_s.calls (a0_3.extract ((ji203) : Int).toNat ((wrap64 ((ji203) + 8)) : Int).toNat) t253 t254 t255 _ A207.out).mono ?_); rintro e w214 ⟨rfl, hb⟩; refine ⟨_, rfl, ?_⟩; have n0_ := Aside0.mk (Kd.R_below (krA HO_12) hb); have n1_ := Aside0.mk (Kd.R_below (krA HO_14) hb); have n2_ := Aside0.mk (Kd.R_below (krA HO_16) hb); have n3_ := Aside0.mk (Kd.R_below (krA HO_230) hb); have n4_ := Aside0.mk (blk_below (g := gb101) (bkA BK101) hb); have n5_ := Aside0.mk (blk_below (g := gb102) (bkA BK102) hb); have n6_ := Aside0.mk (blk_below (g := gb143) (bkA BK143) hb); have n7_ := Aside0.mk (blk_below (g := gb144) (bkA BK144) hb); have n8_ := Aside0.mk (below_step (hbA HB) hb); clear HO_12; clear HO_14; clear HO_16; clear HO_230; clear BK101; clear BK102; clear BK143; clear BK144; clear HB; have HO_12 := n0_; have HO_14 := n1_; have HO_16 := n2_; have HO_230 := n3_; have BK101 := n4_; have BK102 := n5_; have BK143 := n6_; have BK144 := n7_; have HB := n8_; clear n0_ n1_ n2_ n3_ n4_ n5_ n6_ n7_ n8_; (try clear hb); (try clear hb2); (try clear hk); (try clear hi)) | ((with_reducible refine gate_dst (N := 25) rfl ?_); (try (refine gate_guard (by rfl) ?_; dsimp only)); refine box_event ?hg (N := 25) ?hd (cs := #[.int .i64 0, .int .i64 0]) (t := 23) ?hr ?_; (case hd => rfl); (case hg => rfl); (case hr => first | (go_simp; done) | (go_simp; rfl)); intro gb256 hg w215 hbox hb; have n0_ := Aside0.mk (Kd.R_below (krA HO_12) hb); have n1_ := Aside0.mk (Kd.R_below (krA HO_14) hb); have n2_ := Aside0.mk (Kd.R_below (krA HO_16) hb); have n3_ := Aside0.mk (Kd.R_below (krA HO_230) hb); have n4_ := Aside0.mk (blk_below (g := gb101) (bkA BK101) hb); have n5_ := Aside0.mk (blk_below (g := gb102) (bkA BK102) hb); have n6_ := Aside0.mk (blk_below (g := gb143) (bkA BK143) hb); have n7_ := Aside0.mk (blk_below (g := gb144) (bkA BK144) hb); have n8_ := Aside0.mk (below_step (hbA HB) hb); have n9_ := Aside0.mk (hbox); have n10_ := Aside0.mk ((by rw [hg]; exact (below_size (hbA HB)) : w.heap.size ≤ gb256)); have n11_ := Aside0.mk ((by rw [hg]; exact (below_size (hbA HB)) : w.heap.size ≤ gb256)); have n12_ := Aside0.mk ((by rw [hg]; exact Nat.ne_of_lt (blk_lt (g := gb101) (bkA BK101)) : gb101 ≠ gb256)); have n13_ := Aside0.mk ((by rw [hg]; exact Nat.ne_of_gt (blk_lt (g := gb101) (bkA BK101)) : gb256 ≠ gb101)); have n14_ := Aside0.mk ((by rw [hg]; exact Nat.ne_of_lt (blk_lt (g := gb102) (bkA BK102)) : gb102 ≠ gb256)); have n15_ := Aside0.mk ((by rw [hg]; exact Nat.ne_of_gt (blk_lt (g := gb102) (bkA BK102)) : gb256 ≠ gb102)); have n16_ := Aside0.mk ((by rw [hg]; exact Nat.ne_of_lt (blk_lt (g := gb143) (bkA BK143)) : gb143 ≠ gb256)); have n17_ := Aside0.mk ((by rw [hg]; exact Nat.ne_of_gt (blk_lt (g := gb143) (bkA BK143)) : gb256 ≠ gb143)); have n18_ := Aside0.mk ((by rw [hg]; exact Nat.ne_of_lt (blk_lt (g := gb144) (bkA BK144)) : gb144 ≠ gb256)); have n19_ := Aside0.mk ((by rw [hg]; exact Nat.ne_of_gt (blk_lt (g := gb144) (bkA BK144)) : gb256 ≠ gb144)); clear HO_12; clear HO_14; clear HO_16; clear HO_230; clear BK101; clear BK102; clear BK143; clear BK144; clear HB; have HO_12 := n0_; have HO_14 := n1_; have HO_16 := n2_; have HO_230 := n3_; have BK101 := n4_; have BK102 := n5_; have BK143 := n6_; have BK144 := n7_; have HB := n8_; have BK256 := n9_; have GW256 := n10_; have GE256 := n11_; have NB101_256 := n12_; have NB256_101 := n13_; have NB102_256 := n14_; have NB256_102 := n15_; have NB143_256 := n16_; have NB256_143 := n17_; have NB144_256 := n18_; have NB256_144 := n19_; clear n0_ n1_ n2_ n3_ n4_ n5_ n6_ n7_ n8_ n9_ n10_ n11_ n12_ n13_ n14_ n15_ n16_ n17_ n18_ n19_; clear hb hbox hg; have hnb216 := NB256_101.out; have hnc216 := NB101_256.out; have hnb217 := NB256_102.out; have hnc217 := NB102_256.out; have hnb218 := NB256_143.out; have hnc218 := NB143_256.out; have hnb219 := NB256_144.out; have hnc219 := NB144_256.out; have hcz220_0 : w215.cell? ⟨gb256, 0, none⟩ = some (.int .i64 0) := bcA BK256 0; have hcz220_1 : w215.cell? ⟨gb256, 1, none⟩ = some (.int .i64 0) := bcA BK256 1; have hfz220_0 := blk_frozen BK256.out 0; have hfz220_1 := blk_frozen BK256.out 1) | ((with_reducible refine gate_callee (f := 14) rfl ?_); refine goesL_ (some 251) rfl rfl Try.func14 (by kernel_rfl) rfl #[.agg #[.int .i64 t253, .int .i64 t254]] rfl (by (try simp only [List.map_toArray, List.map_cons, List.map_nil]); first | done | rfl | (simp only [List.length_drop, List.length_take]; rfl)) ?_; (with_reducible refine (agatelaw06_OfX.calls t253 t254 t257 _ A208.out).mono ?_); rintro e w221 ⟨rfl, hb⟩; refine ⟨_, rfl, ?_⟩; have n0_ := Aside0.mk (Kd.R_below (by (with_reducible repeat (first | apply Kd.R_alloc | apply Kd.R_drewN | apply Kd.R_drew)); exact (Kd.R_mono (Kd.R_far (p := ⟨gb256, 1, none⟩) (Kd.R_far (p := ⟨gb256, 0, none⟩) (Kd.R_types HO_12.out BK256.out (by decide)) (fun _ hk => hk.2) (.int .i64 t253)) (fun _ hk => hk.2) (.int .i64 t254)) (fun _ h_ => h_.1))) hb); have n1_ := Aside0.mk (Kd.R_below (by (with_reducible repeat (first | apply Kd.R_alloc | apply Kd.R_drewN | apply Kd.R_drew)); exact (Kd.R_mono (Kd.R_far (p := ⟨gb256, 1, none⟩) (Kd.R_far (p := ⟨gb256, 0, none⟩) (Kd.R_types HO_14.out BK256.out (by decide)) (fun _ hk => hk.2) (.int .i64 t253)) (fun _ hk => hk.2) (.int .i64 t254)) (fun _ h_ => h_.1))) hb); have n2_ := Aside0.mk (Kd.R_below (by (with_reducible repeat (first | apply Kd.R_alloc | apply Kd.R_drewN | apply Kd.R_drew)); exact (Kd.R_mono (Kd.R_far (p := ⟨gb256, 1, none⟩) (Kd.R_far (p := ⟨gb256, 0, none⟩) (Kd.R_types HO_16.out BK256.out (by decide)) (fun _ hk => hk.2) (.int .i64 t253)) (fun _ hk => hk.2) (.int .i64 t254)) (fun _ h_ => h_.1))) hb); have n3_ := Aside0.mk (Kd.R_below (by (with_reducible repeat (first | apply Kd.R_alloc | apply Kd.R_drewN | apply Kd.R_drew)); exact (Kd.R_mono (Kd.R_far (p := ⟨gb256, 1, none⟩) (Kd.R_far (p := ⟨gb256, 0, none⟩) (Kd.R_types HO_230.out BK256.out (by decide)) (fun _ hk => hk.2) (.int .i64 t253)) (fun _ hk => hk.2) (.int .i64 t254)) (fun _ h_ => h_.1))) hb); have n4_ := Aside0.mk (blk_below (g := gb101) (o := .cells #[.string a0_0, .int .i64 a0_1, .slice A0_2 l0_2.length c0_2, .string a0_3] 62 (0, 0)) (by (with_reducible repeat (first | refine blk_drewN ?_ _ | refine blk_drew ?_ | refine blk_alloc ?_ _)); refine blk_far ?_ NB101_256.out _; (with_reducible repeat (first | refine blk_drewN ?_ _ | refine blk_drew ?_ | refine blk_alloc ?_ _)); refine blk_far ?_ NB101_256.out _; (with_reducible repeat (first | refine blk_drewN ?_ _ | refine blk_drew ?_ | refine blk_alloc ?_ _)); exact BK101.out) hb); have n5_ := Aside0.mk (blk_below (g := gb102) (o := .cells #[.string a1_0, .int .i64 a1_1, .slice A1_2 l1_2.length c1_2, .string a1_3] 62 (0, 0)) (by (with_reducible repeat (first | refine blk_drewN ?_ _ | refine blk_drew ?_ | refine blk_alloc ?_ _)); refine blk_far ?_ NB102_256.out _; (with_reducible repeat (first | refine blk_drewN ?_ _ | refine blk_drew ?_ | refine blk_alloc ?_ _)); refine blk_far ?_ NB102_256.out _; (with_reducible repeat (first | refine blk_drewN ?_ _ | refine blk_drew ?_ | refine blk_alloc ?_ _)); exact BK102.out) hb); have n6_ := Aside0.mk (blk_below (g := gb143) (o := .cells #[.string t137, .int .i64 t138, .slice A0_2 l0_2.length c0_2, .string t139] 64 (0, 0)) (by (with_reducible repeat (first | refine blk_drewN ?_ _ | refine blk_drew ?_ | refine blk_alloc ?_ _)); refine blk_far ?_ NB143_256.out _; (with_reducible repeat (first | refine blk_drewN ?_ _ | refine blk_drew ?_ | refine blk_alloc ?_ _)); refine blk_far ?_ NB143_256.out _; (with_reducible repeat (first | refine blk_drewN ?_ _ | refine blk_drew ?_ | refine blk_alloc ?_ _)); exact BK143.out) hb); have n7_ := Aside0.mk (blk_below (g := gb144) (o := .cells #[.string t140, .int .i64 t141, .slice A1_2 l1_2.length c1_2, .string t142] 64 (0, 0)) (by (with_reducible repeat (first | refine blk_drewN ?_ _ | refine blk_drew ?_ | refine blk_alloc ?_ _)); refine blk_far ?_ NB144_256.out _; (with_reducible repeat (first | refine blk_drewN ?_ _ | refine blk_drew ?_ | refine blk_alloc ?_ _)); refine blk_far ?_ NB144_256.out _; (with_reducible repeat (first | refine blk_drewN ?_ _ | refine blk_drew ?_ | refine blk_alloc ?_ _)); exact BK144.out) hb); have n8_ := Aside0.mk (blk_below (g := gb256) (o := .cells #[.int .i64 t253, .int .i64 t254] 23 (0, 0)) (by (with_reducible repeat (first | refine blk_drewN ?_ _ | refine blk_drew ?_ | refine blk_alloc ?_ _)); refine blk_put (cs := #[.int .i64 t253, .int .i64 0]) ?_ 1 _ rfl; (with_reducible repeat (first | refine blk_drewN ?_ _ | refine blk_drew ?_ | refine blk_alloc ?_ _)); refine blk_put (cs := #[.int .i64 0, .int .i64 0]) ?_ 0 _ rfl; (with_reducible repeat (first | refine blk_drewN ?_ _ | refine blk_drew ?_ | refine blk_alloc ?_ _)); exact BK256.out) hb); have n9_ := Aside0.mk (below_step (hbA HB) hb); clear HO_12; clear HO_14; clear HO_16; clear HO_230; clear BK101; clear BK102; clear BK143; clear BK144; clear BK256; clear HB; have HO_12 := n0_; have HO_14 := n1_; have HO_16 := n2_; have HO_230 := n3_; have BK101 := n4_; have BK102 := n5_; have BK143 := n6_; have BK144 := n7_; have BK256 := n8_; have HB := n9_; clear n0_ n1_ n2_ n3_ n4_ n5_ n6_ n7_ n8_ n9_; (try clear hb); (try clear hb2); (try clear hk); (try clear hi)))
                              go_roundg k7
                              case measure => have := HJ3.out; have := HJ39.out; have := HJ71.out; have := HK4.out; have := HJ116.out; have := HK6.out; have := HK7.out; omega
                              case rel => exact ⟨(wrap64 (x232_7 + 1)), (by first | rfl | (simp; done) | (simp [*]; done)), H', ⟨by have := HJ3.out; have := HJ39.out; have := HJ71.out; have := HK4.out; have := HJ116.out; have := HK6.out; have := HK7.out; omega⟩, ⟨krA HO_12⟩, ⟨krA HO_14⟩, ⟨krA HO_16⟩, ⟨krA HO_230⟩, ⟨bkA BK101⟩, ⟨bkA BK102⟩, ⟨bkA BK143⟩, ⟨bkA BK144⟩, ⟨hbA HB⟩⟩
                             ·
                              rw [if_neg c209] at H
                              exact absurd H (by simp)
                            ·
                             rw [if_neg c206] at H
                             exact absurd H (by simp)
                           ·
                            rw [if_neg c205] at H
                            exact absurd H (by simp)
                          ·
                           rw [if_neg c204] at H
                           exact absurd H (by simp)
                         ·
                          exact absurd (of_decide_eq_true c200b0) c202
                        ·
                         rw [if_neg c201] at H
                         exact absurd H (by simp)
                       ·
                        rw [if_neg c200] at H
                        have c200b0 : decide (x232_7 < (t219.length : Int)) = false := decide_eq_false c200
                        clear c200
                        replace H := Option.bind_eq_some_iff.mp H
                        obtain ⟨t259, A2220, H⟩ := H
                        replace H : (if t259 = true then (if t214 = 0 then (if t218 = 0 then (if t222 = 0 then (some true) else (some ((t219.length : Int) == 0))) else (if (t215.length : Int) = 0 then (if t222 = 0 then (some true) else (some ((t219.length : Int) == 0))) else (none))) else (if (t211.length : Int) = 0 then (if t218 = 0 then (if t222 = 0 then (some true) else (some ((t219.length : Int) == 0))) else (if (t215.length : Int) = 0 then (if t222 = 0 then (some true) else (some ((t219.length : Int) == 0))) else (none))) else (none))) else (none)) = some r := H
                        have A222 := Aside0.mk A2220
                        clear A2220
                        by_cases c223 : t259 = true
                        ·
                         subst c223
                         have H1 : (if t214 = 0 then (if t218 = 0 then (if t222 = 0 then (some true) else (some ((t219.length : Int) == 0))) else (if (t215.length : Int) = 0 then (if t222 = 0 then (some true) else (some ((t219.length : Int) == 0))) else (none))) else (if (t211.length : Int) = 0 then (if t218 = 0 then (if t222 = 0 then (some true) else (some ((t219.length : Int) == 0))) else (if (t215.length : Int) = 0 then (if t222 = 0 then (some true) else (some ((t219.length : Int) == 0))) else (none))) else (none))) = some r := by rw [if_pos rfl] at H; exact H
                         clear H
                         have H := H1
                         clear H1
                         by_cases c224 : t214 = 0
                         ·
                          rw [if_pos c224] at H
                          have c224b0 : (t214 == 0) = true := beq_iff_eq.mpr c224
                          have c224b1 : (t214 != 0) = false := bne_eq_false_iff_eq.mpr c224
                          clear c224
                          by_cases c225 : t218 = 0
                          ·
                           rw [if_pos c225] at H
                           have c225b0 : (t218 == 0) = true := beq_iff_eq.mpr c225
                           have c225b1 : (t218 != 0) = false := bne_eq_false_iff_eq.mpr c225
                           clear c225
                           by_cases c226 : t222 = 0
                           ·
                            rw [if_pos c226] at H
                            have c226b0 : (t222 == 0) = true := beq_iff_eq.mpr c226
                            have c226b1 : (t222 != 0) = false := bne_eq_false_iff_eq.mpr c226
                            clear c226
                            obtain rfl := Option.some.inj H
                            go_wp2_with (first | ((with_reducible refine gate_callee (f := 35) rfl ?_); refine goesL_ (some 254) rfl rfl Try.func35 (by kernel_rfl) rfl #[] rfl (by (try simp only [List.map_toArray, List.map_cons, List.map_nil]); first | done | rfl | (simp only [List.length_drop, List.length_take]; rfl)) ?_; (with_reducible refine (agatelaw07_Awake.calls  true _ A222.out).mono ?_); rintro e w227 ⟨rfl, hb⟩; refine ⟨_, rfl, ?_⟩; have n0_ := Aside0.mk (Kd.R_below (krA HO_12) hb); have n1_ := Aside0.mk (Kd.R_below (krA HO_14) hb); have n2_ := Aside0.mk (Kd.R_below (krA HO_16) hb); have n3_ := Aside0.mk (Kd.R_below (krA HO_230) hb); have n4_ := Aside0.mk (blk_below (g := gb101) (bkA BK101) hb); have n5_ := Aside0.mk (blk_below (g := gb102) (bkA BK102) hb); have n6_ := Aside0.mk (blk_below (g := gb143) (bkA BK143) hb); have n7_ := Aside0.mk (blk_below (g := gb144) (bkA BK144) hb); have n8_ := Aside0.mk (below_step (hbA HB) hb); clear HO_12; clear HO_14; clear HO_16; clear HO_230; clear BK101; clear BK102; clear BK143; clear BK144; clear HB; have HO_12 := n0_; have HO_14 := n1_; have HO_16 := n2_; have HO_230 := n3_; have BK101 := n4_; have BK102 := n5_; have BK143 := n6_; have BK144 := n7_; have HB := n8_; clear n0_ n1_ n2_ n3_ n4_ n5_ n6_ n7_ n8_; (try clear hb); (try clear hb2); (try clear hk); (try clear hi)))
                            go_ret
                            exact ⟨by first | rfl | (simp [errW_none, errW_some] <;> rfl) | (simp [*, errW_none, errW_some] <;> rfl), hbA HB⟩
                           ·
                            rw [if_neg c226] at H
                            have c226b0 : (t222 == 0) = false := beq_eq_false_iff_ne.mpr c226
                            have c226b1 : (t222 != 0) = true := bne_iff_ne.mpr c226
                            obtain rfl := Option.some.inj H
                            go_wp2_with (first | ((with_reducible refine gate_callee (f := 35) rfl ?_); refine goesL_ (some 254) rfl rfl Try.func35 (by kernel_rfl) rfl #[] rfl (by (try simp only [List.map_toArray, List.map_cons, List.map_nil]); first | done | rfl | (simp only [List.length_drop, List.length_take]; rfl)) ?_; (with_reducible refine (agatelaw07_Awake.calls  true _ A222.out).mono ?_); rintro e w228 ⟨rfl, hb⟩; refine ⟨_, rfl, ?_⟩; have n0_ := Aside0.mk (Kd.R_below (krA HO_12) hb); have n1_ := Aside0.mk (Kd.R_below (krA HO_14) hb); have n2_ := Aside0.mk (Kd.R_below (krA HO_16) hb); have n3_ := Aside0.mk (Kd.R_below (krA HO_230) hb); have n4_ := Aside0.mk (blk_below (g := gb101) (bkA BK101) hb); have n5_ := Aside0.mk (blk_below (g := gb102) (bkA BK102) hb); have n6_ := Aside0.mk (blk_below (g := gb143) (bkA BK143) hb); have n7_ := Aside0.mk (blk_below (g := gb144) (bkA BK144) hb); have n8_ := Aside0.mk (below_step (hbA HB) hb); clear HO_12; clear HO_14; clear HO_16; clear HO_230; clear BK101; clear BK102; clear BK143; clear BK144; clear HB; have HO_12 := n0_; have HO_14 := n1_; have HO_16 := n2_; have HO_230 := n3_; have BK101 := n4_; have BK102 := n5_; have BK143 := n6_; have BK144 := n7_; have HB := n8_; clear n0_ n1_ n2_ n3_ n4_ n5_ n6_ n7_ n8_; (try clear hb); (try clear hb2); (try clear hk); (try clear hi)))
                            go_ret
                            exact ⟨by first | rfl | (simp [errW_none, errW_some] <;> rfl) | (simp [*, errW_none, errW_some] <;> rfl), hbA HB⟩
                          ·
                           rw [if_neg c225] at H
                           have c225b0 : (t218 == 0) = false := beq_eq_false_iff_ne.mpr c225
                           have c225b1 : (t218 != 0) = true := bne_iff_ne.mpr c225
                           by_cases c229 : (t215.length : Int) = 0
                           ·
                            rw [if_pos c229] at H
                            have c229b0 : ((t215.length : Int) == 0) = true := beq_iff_eq.mpr c229
                            have c229b1 : ((t215.length : Int) != 0) = false := bne_eq_false_iff_eq.mpr c229
                            clear c229
                            by_cases c230 : t222 = 0
                            ·
                             rw [if_pos c230] at H
                             have c230b0 : (t222 == 0) = true := beq_iff_eq.mpr c230
                             have c230b1 : (t222 != 0) = false := bne_eq_false_iff_eq.mpr c230
                             clear c230
                             obtain rfl := Option.some.inj H
                             go_wp2_with (first | ((with_reducible refine gate_callee (f := 35) rfl ?_); refine goesL_ (some 254) rfl rfl Try.func35 (by kernel_rfl) rfl #[] rfl (by (try simp only [List.map_toArray, List.map_cons, List.map_nil]); first | done | rfl | (simp only [List.length_drop, List.length_take]; rfl)) ?_; (with_reducible refine (agatelaw07_Awake.calls  true _ A222.out).mono ?_); rintro e w231 ⟨rfl, hb⟩; refine ⟨_, rfl, ?_⟩; have n0_ := Aside0.mk (Kd.R_below (krA HO_12) hb); have n1_ := Aside0.mk (Kd.R_below (krA HO_14) hb); have n2_ := Aside0.mk (Kd.R_below (krA HO_16) hb); have n3_ := Aside0.mk (Kd.R_below (krA HO_230) hb); have n4_ := Aside0.mk (blk_below (g := gb101) (bkA BK101) hb); have n5_ := Aside0.mk (blk_below (g := gb102) (bkA BK102) hb); have n6_ := Aside0.mk (blk_below (g := gb143) (bkA BK143) hb); have n7_ := Aside0.mk (blk_below (g := gb144) (bkA BK144) hb); have n8_ := Aside0.mk (below_step (hbA HB) hb); clear HO_12; clear HO_14; clear HO_16; clear HO_230; clear BK101; clear BK102; clear BK143; clear BK144; clear HB; have HO_12 := n0_; have HO_14 := n1_; have HO_16 := n2_; have HO_230 := n3_; have BK101 := n4_; have BK102 := n5_; have BK143 := n6_; have BK144 := n7_; have HB := n8_; clear n0_ n1_ n2_ n3_ n4_ n5_ n6_ n7_ n8_; (try clear hb); (try clear hb2); (try clear hk); (try clear hi)))
                             go_ret
                             exact ⟨by first | rfl | (simp [errW_none, errW_some] <;> rfl) | (simp [*, errW_none, errW_some] <;> rfl), hbA HB⟩
                            ·
                             rw [if_neg c230] at H
                             have c230b0 : (t222 == 0) = false := beq_eq_false_iff_ne.mpr c230
                             have c230b1 : (t222 != 0) = true := bne_iff_ne.mpr c230
                             obtain rfl := Option.some.inj H
                             go_wp2_with (first | ((with_reducible refine gate_callee (f := 35) rfl ?_); refine goesL_ (some 254) rfl rfl Try.func35 (by kernel_rfl) rfl #[] rfl (by (try simp only [List.map_toArray, List.map_cons, List.map_nil]); first | done | rfl | (simp only [List.length_drop, List.length_take]; rfl)) ?_; (with_reducible refine (agatelaw07_Awake.calls  true _ A222.out).mono ?_); rintro e w232 ⟨rfl, hb⟩; refine ⟨_, rfl, ?_⟩; have n0_ := Aside0.mk (Kd.R_below (krA HO_12) hb); have n1_ := Aside0.mk (Kd.R_below (krA HO_14) hb); have n2_ := Aside0.mk (Kd.R_below (krA HO_16) hb); have n3_ := Aside0.mk (Kd.R_below (krA HO_230) hb); have n4_ := Aside0.mk (blk_below (g := gb101) (bkA BK101) hb); have n5_ := Aside0.mk (blk_below (g := gb102) (bkA BK102) hb); have n6_ := Aside0.mk (blk_below (g := gb143) (bkA BK143) hb); have n7_ := Aside0.mk (blk_below (g := gb144) (bkA BK144) hb); have n8_ := Aside0.mk (below_step (hbA HB) hb); clear HO_12; clear HO_14; clear HO_16; clear HO_230; clear BK101; clear BK102; clear BK143; clear BK144; clear HB; have HO_12 := n0_; have HO_14 := n1_; have HO_16 := n2_; have HO_230 := n3_; have BK101 := n4_; have BK102 := n5_; have BK143 := n6_; have BK144 := n7_; have HB := n8_; clear n0_ n1_ n2_ n3_ n4_ n5_ n6_ n7_ n8_; (try clear hb); (try clear hb2); (try clear hk); (try clear hi)))
                             go_ret
                             exact ⟨by first | rfl | (simp [errW_none, errW_some] <;> rfl) | (simp [*, errW_none, errW_some] <;> rfl), hbA HB⟩
                           ·
                            rw [if_neg c229] at H
                            exact absurd H (by simp)
                         ·
                          rw [if_neg c224] at H
                          have c224b0 : (t214 == 0) = false := beq_eq_false_iff_ne.mpr c224
                          have c224b1 : (t214 != 0) = true := bne_iff_ne.mpr c224
                          by_cases c233 : (t211.length : Int) = 0
                          ·
                           rw [if_pos c233] at H
                           have c233b0 : ((t211.length : Int) == 0) = true := beq_iff_eq.mpr c233
                           have c233b1 : ((t211.length : Int) != 0) = false := bne_eq_false_iff_eq.mpr c233
                           clear c233
                           by_cases c234 : t218 = 0
                           ·
                            rw [if_pos c234] at H
                            have c234b0 : (t218 == 0) = true := beq_iff_eq.mpr c234
                            have c234b1 : (t218 != 0) = false := bne_eq_false_iff_eq.mpr c234
                            clear c234
                            by_cases c235 : t222 = 0
                            ·
                             rw [if_pos c235] at H
                             have c235b0 : (t222 == 0) = true := beq_iff_eq.mpr c235
                             have c235b1 : (t222 != 0) = false := bne_eq_false_iff_eq.mpr c235
                             clear c235
                             obtain rfl := Option.some.inj H
                             go_wp2_with (first | ((with_reducible refine gate_callee (f := 35) rfl ?_); refine goesL_ (some 254) rfl rfl Try.func35 (by kernel_rfl) rfl #[] rfl (by (try simp only [List.map_toArray, List.map_cons, List.map_nil]); first | done | rfl | (simp only [List.length_drop, List.length_take]; rfl)) ?_; (with_reducible refine (agatelaw07_Awake.calls  true _ A222.out).mono ?_); rintro e w236 ⟨rfl, hb⟩; refine ⟨_, rfl, ?_⟩; have n0_ := Aside0.mk (Kd.R_below (krA HO_12) hb); have n1_ := Aside0.mk (Kd.R_below (krA HO_14) hb); have n2_ := Aside0.mk (Kd.R_below (krA HO_16) hb); have n3_ := Aside0.mk (Kd.R_below (krA HO_230) hb); have n4_ := Aside0.mk (blk_below (g := gb101) (bkA BK101) hb); have n5_ := Aside0.mk (blk_below (g := gb102) (bkA BK102) hb); have n6_ := Aside0.mk (blk_below (g := gb143) (bkA BK143) hb); have n7_ := Aside0.mk (blk_below (g := gb144) (bkA BK144) hb); have n8_ := Aside0.mk (below_step (hbA HB) hb); clear HO_12; clear HO_14; clear HO_16; clear HO_230; clear BK101; clear BK102; clear BK143; clear BK144; clear HB; have HO_12 := n0_; have HO_14 := n1_; have HO_16 := n2_; have HO_230 := n3_; have BK101 := n4_; have BK102 := n5_; have BK143 := n6_; have BK144 := n7_; have HB := n8_; clear n0_ n1_ n2_ n3_ n4_ n5_ n6_ n7_ n8_; (try clear hb); (try clear hb2); (try clear hk); (try clear hi); obtain ⟨Ao237, co237, eo237⟩ := Kd.R_slice HO_12.out; subst eo237))
                             go_ret
                             exact ⟨by first | rfl | (simp [errW_none, errW_some] <;> rfl) | (simp [*, errW_none, errW_some] <;> rfl), hbA HB⟩
                            ·
                             rw [if_neg c235] at H
                             have c235b0 : (t222 == 0) = false := beq_eq_false_iff_ne.mpr c235
                             have c235b1 : (t222 != 0) = true := bne_iff_ne.mpr c235
                             obtain rfl := Option.some.inj H
                             go_wp2_with (first | ((with_reducible refine gate_callee (f := 35) rfl ?_); refine goesL_ (some 254) rfl rfl Try.func35 (by kernel_rfl) rfl #[] rfl (by (try simp only [List.map_toArray, List.map_cons, List.map_nil]); first | done | rfl | (simp only [List.length_drop, List.length_take]; rfl)) ?_; (with_reducible refine (agatelaw07_Awake.calls  true _ A222.out).mono ?_); rintro e w238 ⟨rfl, hb⟩; refine ⟨_, rfl, ?_⟩; have n0_ := Aside0.mk (Kd.R_below (krA HO_12) hb); have n1_ := Aside0.mk (Kd.R_below (krA HO_14) hb); have n2_ := Aside0.mk (Kd.R_below (krA HO_16) hb); have n3_ := Aside0.mk (Kd.R_below (krA HO_230) hb); have n4_ := Aside0.mk (blk_below (g := gb101) (bkA BK101) hb); have n5_ := Aside0.mk (blk_below (g := gb102) (bkA BK102) hb); have n6_ := Aside0.mk (blk_below (g := gb143) (bkA BK143) hb); have n7_ := Aside0.mk (blk_below (g := gb144) (bkA BK144) hb); have n8_ := Aside0.mk (below_step (hbA HB) hb); clear HO_12; clear HO_14; clear HO_16; clear HO_230; clear BK101; clear BK102; clear BK143; clear BK144; clear HB; have HO_12 := n0_; have HO_14 := n1_; have HO_16 := n2_; have HO_230 := n3_; have BK101 := n4_; have BK102 := n5_; have BK143 := n6_; have BK144 := n7_; have HB := n8_; clear n0_ n1_ n2_ n3_ n4_ n5_ n6_ n7_ n8_; (try clear hb); (try clear hb2); (try clear hk); (try clear hi); obtain ⟨Ao239, co239, eo239⟩ := Kd.R_slice HO_12.out; subst eo239))
                             go_ret
                             exact ⟨by first | rfl | (simp [errW_none, errW_some] <;> rfl) | (simp [*, errW_none, errW_some] <;> rfl), hbA HB⟩
                           ·
                            rw [if_neg c234] at H
                            have c234b0 : (t218 == 0) = false := beq_eq_false_iff_ne.mpr c234
                            have c234b1 : (t218 != 0) = true := bne_iff_ne.mpr c234
                            by_cases c240 : (t215.length : Int) = 0
                            ·
                             rw [if_pos c240] at H
                             have c240b0 : ((t215.length : Int) == 0) = true := beq_iff_eq.mpr c240
                             have c240b1 : ((t215.length : Int) != 0) = false := bne_eq_false_iff_eq.mpr c240
                             clear c240
                             by_cases c241 : t222 = 0
                             ·
                              rw [if_pos c241] at H
                              have c241b0 : (t222 == 0) = true := beq_iff_eq.mpr c241
                              have c241b1 : (t222 != 0) = false := bne_eq_false_iff_eq.mpr c241
                              clear c241
                              obtain rfl := Option.some.inj H
                              go_wp2_with (first | ((with_reducible refine gate_callee (f := 35) rfl ?_); refine goesL_ (some 254) rfl rfl Try.func35 (by kernel_rfl) rfl #[] rfl (by (try simp only [List.map_toArray, List.map_cons, List.map_nil]); first | done | rfl | (simp only [List.length_drop, List.length_take]; rfl)) ?_; (with_reducible refine (agatelaw07_Awake.calls  true _ A222.out).mono ?_); rintro e w242 ⟨rfl, hb⟩; refine ⟨_, rfl, ?_⟩; have n0_ := Aside0.mk (Kd.R_below (krA HO_12) hb); have n1_ := Aside0.mk (Kd.R_below (krA HO_14) hb); have n2_ := Aside0.mk (Kd.R_below (krA HO_16) hb); have n3_ := Aside0.mk (Kd.R_below (krA HO_230) hb); have n4_ := Aside0.mk (blk_below (g := gb101) (bkA BK101) hb); have n5_ := Aside0.mk (blk_below (g := gb102) (bkA BK102) hb); have n6_ := Aside0.mk (blk_below (g := gb143) (bkA BK143) hb); have n7_ := Aside0.mk (blk_below (g := gb144) (bkA BK144) hb); have n8_ := Aside0.mk (below_step (hbA HB) hb); clear HO_12; clear HO_14; clear HO_16; clear HO_230; clear BK101; clear BK102; clear BK143; clear BK144; clear HB; have HO_12 := n0_; have HO_14 := n1_; have HO_16 := n2_; have HO_230 := n3_; have BK101 := n4_; have BK102 := n5_; have BK143 := n6_; have BK144 := n7_; have HB := n8_; clear n0_ n1_ n2_ n3_ n4_ n5_ n6_ n7_ n8_; (try clear hb); (try clear hb2); (try clear hk); (try clear hi); obtain ⟨Ao243, co243, eo243⟩ := Kd.R_slice HO_12.out; subst eo243))
                              go_ret
                              exact ⟨by first | rfl | (simp [errW_none, errW_some] <;> rfl) | (simp [*, errW_none, errW_some] <;> rfl), hbA HB⟩
                             ·
                              rw [if_neg c241] at H
                              have c241b0 : (t222 == 0) = false := beq_eq_false_iff_ne.mpr c241
                              have c241b1 : (t222 != 0) = true := bne_iff_ne.mpr c241
                              obtain rfl := Option.some.inj H
                              go_wp2_with (first | ((with_reducible refine gate_callee (f := 35) rfl ?_); refine goesL_ (some 254) rfl rfl Try.func35 (by kernel_rfl) rfl #[] rfl (by (try simp only [List.map_toArray, List.map_cons, List.map_nil]); first | done | rfl | (simp only [List.length_drop, List.length_take]; rfl)) ?_; (with_reducible refine (agatelaw07_Awake.calls  true _ A222.out).mono ?_); rintro e w244 ⟨rfl, hb⟩; refine ⟨_, rfl, ?_⟩; have n0_ := Aside0.mk (Kd.R_below (krA HO_12) hb); have n1_ := Aside0.mk (Kd.R_below (krA HO_14) hb); have n2_ := Aside0.mk (Kd.R_below (krA HO_16) hb); have n3_ := Aside0.mk (Kd.R_below (krA HO_230) hb); have n4_ := Aside0.mk (blk_below (g := gb101) (bkA BK101) hb); have n5_ := Aside0.mk (blk_below (g := gb102) (bkA BK102) hb); have n6_ := Aside0.mk (blk_below (g := gb143) (bkA BK143) hb); have n7_ := Aside0.mk (blk_below (g := gb144) (bkA BK144) hb); have n8_ := Aside0.mk (below_step (hbA HB) hb); clear HO_12; clear HO_14; clear HO_16; clear HO_230; clear BK101; clear BK102; clear BK143; clear BK144; clear HB; have HO_12 := n0_; have HO_14 := n1_; have HO_16 := n2_; have HO_230 := n3_; have BK101 := n4_; have BK102 := n5_; have BK143 := n6_; have BK144 := n7_; have HB := n8_; clear n0_ n1_ n2_ n3_ n4_ n5_ n6_ n7_ n8_; (try clear hb); (try clear hb2); (try clear hk); (try clear hi); obtain ⟨Ao245, co245, eo245⟩ := Kd.R_slice HO_12.out; subst eo245))
                              go_ret
                              exact ⟨by first | rfl | (simp [errW_none, errW_some] <;> rfl) | (simp [*, errW_none, errW_some] <;> rfl), hbA HB⟩
                            ·
                             rw [if_neg c240] at H
                             exact absurd H (by simp)
                          ·
                           rw [if_neg c233] at H
                           exact absurd H (by simp)
                        ·
                         replace c223 := Bool.eq_false_iff.mpr c223
                         subst c223
                         have H1 : (none) = some r := by rw [if_neg (show ¬ (false = true) by decide)] at H; exact H
                         clear H
                         have H := H1
                         clear H1
                         exact absurd H (by simp)
           ·
            rw [if_neg c83] at H
            exact absurd H (by simp)
    ·
     rw [if_neg c32] at H
     have c32b0 : (t146 == t145) = false := beq_eq_false_iff_ne.mpr c32
     have c32b1 : (t146 != t145) = true := bne_iff_ne.mpr c32
     exact absurd H (by simp)
end Go.Proofs.Ytpojamikfcmnoaa.X
