import Derived.Test.YtdemgfbolcmcdaaMOpsAll3
import Derived.Test.YtdemgfbolcmcdaaMOpsAll16
import Derived.Test.YtdemgfbolcmcdaaMOpsAll4
namespace Go.Proofs.Ytdemgfbolcmcdaa.X
open Go.RowKit Go.Proofs.YtdemgfbolcmcdaaW.PrintWords Go.Proofs.YtdemgfbolcmcdaaW.PrintLast Go.Proofs.YtdemgfbolcmcdaaW.PrintMore
attribute [local go_sem] max2_int min2_int max_two min_two max_three min_three max_four min_four
set_option linter.unusedVariables false
set_option linter.unusedSimpArgs false
def agateref13_Find.l0 : Nat → ByteArray → Int → List (S72) → Int → Option (ByteArray × Int × Int × Int × Int × (List (S91)) × Bool)
 | 0, _, _, _, _ => none
 | k + 1, x0, x1, x6, x7 => if x7 < (x6.length : Int) then (if 0 ≤ x7 then (if ((rd_T72 x6 x7).f0).toList = x0.toList then (if ((rd_T72 x6 x7).f1) ≤ x1 then (if x1 ≤ ((rd_T72 x6 x7).f2) then (some ((rd_T72 x6 x7).f0, (rd_T72 x6 x7).f1, (rd_T72 x6 x7).f2, (rd_T72 x6 x7).f3, (rd_T72 x6 x7).f4, (rd_T72 x6 x7).f5, true)) else (agateref13_Find.l0 k x0 x1 x6 (wrap64 (x7 + 1)))) else (agateref13_Find.l0 k x0 x1 x6 (wrap64 (x7 + 1)))) else (agateref13_Find.l0 k x0 x1 x6 (wrap64 (x7 + 1)))) else (none)) else (some ((⟨#[]⟩ : ByteArray), 0, 0, 0, 0, ([] : List (S91)), false))
def agateref13_Find.f (k : Nat) (a0 : ByteArray) (a1 : Int) : Option (ByteArray × Int × Int × Int × Int × (List (S91)) × Bool) := (agateref13_Table.f).bind fun t102 => (agateref13_Find.l0 k a0 a1 t102 0)
set_option maxHeartbeats 8000000 in
set_option maxRecDepth 100000 in
theorem agateref13_Find.calls (k : Nat) (a0 : ByteArray) (a1 : Int) (r1 : ByteArray) (r2 : Int) (r3 : Int) (r4 : Int) (r5 : Int) (r6 : List (S91)) (r7 : Bool) (w : World) (h : agateref13_Find.f k a0 a1 = some (r1, r2, r3, r4, r5, r6, r7)) :
  Calls Try.prog 25 #[.string a0, .int .i64 a1] w fun e w' => ∃ v5_ : Value, e = .returned (.tuple #[.agg #[.string r1, .int .i64 r2, .int .i64 r3, .int .i64 r4, .int .i64 r5, v5_], .bool r7]) ∧ Kd.V k91 91 w' w.heap.size (fun k_ => (w.heap.size ≤ k_)) v5_ r6 ∧ Below w.heap.size w w' := by
 have hu72 := Try.underlying72
 have HB := Aside0.mk (Below.refl w.heap.size w)
 have H : ((agateref13_Table.f).bind fun t102 => (agateref13_Find.l0 k a0 a1 t102 0)) = some (r1, r2, r3, r4, r5, r6, r7) := h
 clear h
 replace H := Option.bind_eq_some_iff.mp H
 obtain ⟨t102, A30, H⟩ := H
 replace H : (agateref13_Find.l0 k a0 a1 t102 0) = some (r1, r2, r3, r4, r5, r6, r7) := H
 have A3 := Aside0.mk A30
 clear A30
 have H' := Aside0.mk H
 clear H
 go_enter Try.func25, Try.ntmps25
 go_wp2_with (first | ((with_reducible refine gate_dst (N := 4) rfl ?_); refine box_event ?hg (N := 4) ?hd (cs := #[.string (⟨#[]⟩ : ByteArray), .int .i64 0, .int .i64 0, .int .i64 0, .int .i64 0, .slice none 0 0]) (t := 72) ?hr ?_; (case hd => rfl); (case hg => rfl); (case hr => first | (go_simp; done) | (go_simp; rfl)); intro gb101 hg w4 hbox hb; have n0_ := Aside0.mk (below_step (hbA HB) hb); have n1_ := Aside0.mk (hbox); have n2_ := Aside0.mk ((by rw [hg]; exact (below_size (hbA HB)) : w.heap.size ≤ gb101)); have n3_ := Aside0.mk ((by rw [hg]; exact (below_size (hbA HB)) : w.heap.size ≤ gb101)); clear HB; have HB := n0_; have BK101 := n1_; have GW101 := n2_; have GE101 := n3_; clear n0_ n1_ n2_ n3_; clear hb hbox hg) | ((with_reducible refine gate_callee (f := 44) rfl ?_); refine goesL_ (some 8) rfl rfl Try.func44 (by kernel_rfl) rfl #[] rfl (by (try simp only [List.map_toArray, List.map_cons, List.map_nil]); first | done | rfl | (simp only [List.length_drop, List.length_take]; rfl)) ?_; (with_reducible refine (agateref13_Table.calls  t102 _ A3.out).mono ?_); rintro e w5 ⟨v103, rfl, ho0, hb⟩; refine ⟨_, rfl, ?_⟩; have n0_ := Aside0.mk (Kd.N_lower (Kd.N_mono (ok' := fun k_ => (w.heap.size ≤ k_) ∧ k_ ≠ gb101) ho0 (fun k_ hk_ => ⟨(Nat.le_trans (below_size (hbA HB)) hk_), (Kd.freshB (g := gb101) (o := .cells #[.string (⟨#[]⟩ : ByteArray), .int .i64 0, .int .i64 0, .int .i64 0, .int .i64 0, .slice none 0 0] 72 (0, 0)) (bkA BK101) k_ hk_)⟩)) (below_size (hbA HB))); have n1_ := Aside0.mk (blk_below (g := gb101) (o := .cells #[.string (⟨#[]⟩ : ByteArray), .int .i64 0, .int .i64 0, .int .i64 0, .int .i64 0, .slice none 0 0] 72 (0, 0)) (bkA BK101) hb); have n2_ := Aside0.mk (below_step (hbA HB) hb); clear BK101; clear HB; have HO104 := n0_; have BK101 := n1_; have HB := n2_; clear n0_ n1_ n2_; (try clear hb); (try clear hb2); (try clear hk); (try clear hi); (try clear ho0)))
 go_loopg [7] k (fun kq v7 w' => ∃ (x7_1 : Int) (x102000_1 : ByteArray) (x102001_1 : Int) (x102002_1 : Int) (x102003_1 : Int) (x102004_1 : Int), v7 = .int .i64 x7_1 ∧ Aside0 (agateref13_Find.l0 kq a0 a1 t102 x7_1 = some (r1, r2, r3, r4, r5, r6, r7)) ∧ Aside0 (kq ≤ k) ∧ Aside0 (Kd.N k72 72 w' w.heap.size (fun k_ => (w.heap.size ≤ k_) ∧ k_ ≠ gb101) v103 t102) ∧ Aside0 (w'.heap[gb101]? = some (.cells #[.string x102000_1, .int .i64 x102001_1, .int .i64 x102002_1, .int .i64 x102003_1, .int .i64 x102004_1, (.slice none 0 0)] 72 (0, 0))) ∧ Aside0 (Below w.heap.size w w'))
 case atStart => exact ⟨(0), ((⟨#[]⟩ : ByteArray)), (0), (0), (0), (0), (by first | rfl | (simp; done) | (simp [*]; done)), H', ⟨Nat.le_refl _⟩, ⟨by (with_reducible repeat (first | apply Kd.N_alloc | apply Kd.N_drewN | apply Kd.N_drew)); exact HO104.out⟩, ⟨bkA BK101⟩, ⟨hbA HB⟩⟩
 case round =>
  clear H'
  obtain ⟨x7_1, x102000_1, x102001_1, x102002_1, x102003_1, x102004_1, rfl, HA, HK1, HO_6, BK101, HB⟩ := hrel
  cases gk with
  | zero => exact absurd HA.out (by simp [agateref13_Find.l0])
  | succ k1 =>
   have H := HA.out; clear HA
   simp only [agateref13_Find.l0] at H
   by_cases c6 : x7_1 < (t102.length : Int)
   ·
    rw [if_pos c6] at H
    have c6b0 : decide (x7_1 < (t102.length : Int)) = true := decide_eq_true c6
    clear c6
    by_cases c7 : 0 ≤ x7_1
    ·
     rw [if_pos c7] at H
     have c7b0 : decide (0 ≤ x7_1) = true := decide_eq_true c7
     clear c7
     by_cases c8 : ((rd_T72 t102 x7_1).f0).toList = a0.toList
     ·
      rw [if_pos c8] at H
      have c8b0 : (((rd_T72 t102 x7_1).f0).toList == a0.toList) = true := beq_iff_eq.mpr c8
      have c8b1 : (((rd_T72 t102 x7_1).f0).toList != a0.toList) = false := bne_eq_false_iff_eq.mpr c8
      clear c8
      by_cases c9 : ((rd_T72 t102 x7_1).f1) ≤ a1
      ·
       rw [if_pos c9] at H
       have c9b0 : decide (((rd_T72 t102 x7_1).f1) ≤ a1) = true := decide_eq_true c9
       clear c9
       by_cases c10 : a1 ≤ ((rd_T72 t102 x7_1).f2)
       ·
        rw [if_pos c10] at H
        have c10b0 : decide (a1 ≤ ((rd_T72 t102 x7_1).f2)) = true := decide_eq_true c10
        clear c10
        simp only [Option.some.injEq, Prod.mk.injEq] at H
        obtain ⟨rfl, rfl, rfl, rfl, rfl, rfl, rfl⟩ := H
        obtain ⟨Ao11, co11, eo11⟩ := Kd.N_slice HO_6.out
        subst eo11
        have p105 : 0 ≤ (x7_1 : Int) := of_decide_eq_true (by first | (with_reducible assumption) | assumption)
        have q105 : x7_1 < (t102.length : Int) := of_decide_eq_true (by first | (with_reducible assumption) | assumption)
        obtain ⟨ad105, A105_5, c105_5, e105, hx105_0, hx105_1, hx105_2, hx105_3, hx105_4, hx105_5, hl105_5, hi105_5⟩ := at_T72 (Kd.N_reads' HO_6.out).2.2 x7_1 p105 q105
        cases e105
        obtain ⟨ce105, hce105, hMe105, hcc105⟩ := Kd.N_get HO_6.out z72 x7_1 p105 (by first | exact q105 | exact of_decide_eq_true (by first | (with_reducible assumption) | assumption) | (have e_ := (Kd.N_reads' HO_6.out).1; omega))
        obtain ⟨ua105_5, uc105_5, rfl, ul105_5, ge105_5⟩ := k72_openF hMe105
        have hv105_5 := hcc105 5 _ rfl
        rw [add_field _ _ 5 (by omega)] at hv105_5
        replace hv105_5 := Option.some.inj (hv105_5.symm.trans hx105_5)
        injection hv105_5 with hva_ hvn_ hvc_
        rw [hva_] at ge105_5
        rw [hvc_] at ul105_5
        have HL105_5 := Aside0.mk (show Kd.V k91 91 _ w.heap.size _ _ ((rd_T72 t102 x7_1).f5) from Kd.V_mk ul105_5 ge105_5)
        clear hva_ hvn_ hvc_ ge105_5 ul105_5; clear hcc105 hce105
        have HR105_5 := Aside0.mk hi105_5
        have HC105_5 := Aside0.mk hl105_5
        clear hi105_5 hl105_5
        replace p105 := eq_true p105
        replace q105 := eq_true q105
        have p106 : 0 ≤ (x7_1 : Int) := of_decide_eq_true (by first | (with_reducible assumption) | assumption)
        have q106 : x7_1 < (t102.length : Int) := of_decide_eq_true (by first | (with_reducible assumption) | assumption)
        obtain ⟨ad106, A106_5, c106_5, e106, hx106_0, hx106_1, hx106_2, hx106_3, hx106_4, hx106_5, hl106_5, hi106_5⟩ := at_T72 (Kd.N_reads' HO_6.out).2.2 x7_1 p106 q106
        obtain rfl : ad105 = ad106 := (by injection e106)
        obtain ⟨ce106, hce106, hMe106, hcc106⟩ := Kd.N_get HO_6.out z72 x7_1 p106 (by first | exact q106 | exact of_decide_eq_true (by first | (with_reducible assumption) | assumption) | (have e_ := (Kd.N_reads' HO_6.out).1; omega))
        obtain ⟨ua106_5, uc106_5, rfl, ul106_5, ge106_5⟩ := k72_openF hMe106
        have hv106_5 := hcc106 5 _ rfl
        rw [add_field _ _ 5 (by omega)] at hv106_5
        replace hv106_5 := Option.some.inj (hv106_5.symm.trans hx106_5)
        injection hv106_5 with hva_ hvn_ hvc_
        rw [hva_] at ge106_5
        rw [hvc_] at ul106_5
        have HL106_5 := Aside0.mk (show Kd.V k91 91 _ w.heap.size _ _ ((rd_T72 t102 x7_1).f5) from Kd.V_mk ul106_5 ge106_5)
        clear hva_ hvn_ hvc_ ge106_5 ul106_5; clear hcc106 hce106
        have HR106_5 := Aside0.mk hi106_5
        have HC106_5 := Aside0.mk hl106_5
        clear hi106_5 hl106_5
        replace p106 := eq_true p106
        replace q106 := eq_true q106
        have ea_ := Option.some.inj (hx105_5.symm.trans hx106_5)
        injection ea_ with ea_ en_ ec_
        subst ea_
        subst ec_
        clear en_
        have p107 : 0 ≤ (x7_1 : Int) := of_decide_eq_true (by first | (with_reducible assumption) | assumption)
        have q107 : x7_1 < (t102.length : Int) := of_decide_eq_true (by first | (with_reducible assumption) | assumption)
        obtain ⟨ad107, A107_5, c107_5, e107, hx107_0, hx107_1, hx107_2, hx107_3, hx107_4, hx107_5, hl107_5, hi107_5⟩ := at_T72 (Kd.N_reads' HO_6.out).2.2 x7_1 p107 q107
        obtain rfl : ad105 = ad107 := (by injection e107)
        obtain ⟨ce107, hce107, hMe107, hcc107⟩ := Kd.N_get HO_6.out z72 x7_1 p107 (by first | exact q107 | exact of_decide_eq_true (by first | (with_reducible assumption) | assumption) | (have e_ := (Kd.N_reads' HO_6.out).1; omega))
        obtain ⟨ua107_5, uc107_5, rfl, ul107_5, ge107_5⟩ := k72_openF hMe107
        have hv107_5 := hcc107 5 _ rfl
        rw [add_field _ _ 5 (by omega)] at hv107_5
        replace hv107_5 := Option.some.inj (hv107_5.symm.trans hx107_5)
        injection hv107_5 with hva_ hvn_ hvc_
        rw [hva_] at ge107_5
        rw [hvc_] at ul107_5
        have HL107_5 := Aside0.mk (show Kd.V k91 91 _ w.heap.size _ _ ((rd_T72 t102 x7_1).f5) from Kd.V_mk ul107_5 ge107_5)
        clear hva_ hvn_ hvc_ ge107_5 ul107_5; clear hcc107 hce107
        have HR107_5 := Aside0.mk hi107_5
        have HC107_5 := Aside0.mk hl107_5
        clear hi107_5 hl107_5
        replace p107 := eq_true p107
        replace q107 := eq_true q107
        have ea_ := Option.some.inj (hx105_5.symm.trans hx107_5)
        injection ea_ with ea_ en_ ec_
        subst ea_
        subst ec_
        clear en_
        have p108 : 0 ≤ (x7_1 : Int) := of_decide_eq_true (by first | (with_reducible assumption) | assumption)
        have q108 : x7_1 < (t102.length : Int) := of_decide_eq_true (by first | (with_reducible assumption) | assumption)
        obtain ⟨ad108, A108_5, c108_5, e108, hx108_0, hx108_1, hx108_2, hx108_3, hx108_4, hx108_5, hl108_5, hi108_5⟩ := at_T72 (Kd.N_reads' HO_6.out).2.2 x7_1 p108 q108
        obtain rfl : ad105 = ad108 := (by injection e108)
        obtain ⟨ce108, hce108, hMe108, hcc108⟩ := Kd.N_get HO_6.out z72 x7_1 p108 (by first | exact q108 | exact of_decide_eq_true (by first | (with_reducible assumption) | assumption) | (have e_ := (Kd.N_reads' HO_6.out).1; omega))
        obtain ⟨ua108_5, uc108_5, rfl, ul108_5, ge108_5⟩ := k72_openF hMe108
        have hv108_5 := hcc108 5 _ rfl
        rw [add_field _ _ 5 (by omega)] at hv108_5
        replace hv108_5 := Option.some.inj (hv108_5.symm.trans hx108_5)
        injection hv108_5 with hva_ hvn_ hvc_
        rw [hva_] at ge108_5
        rw [hvc_] at ul108_5
        have HL108_5 := Aside0.mk (show Kd.V k91 91 _ w.heap.size _ _ ((rd_T72 t102 x7_1).f5) from Kd.V_mk ul108_5 ge108_5)
        clear hva_ hvn_ hvc_ ge108_5 ul108_5; clear hcc108 hce108
        have HR108_5 := Aside0.mk hi108_5
        have HC108_5 := Aside0.mk hl108_5
        clear hi108_5 hl108_5
        replace p108 := eq_true p108
        replace q108 := eq_true q108
        have ea_ := Option.some.inj (hx105_5.symm.trans hx108_5)
        injection ea_ with ea_ en_ ec_
        subst ea_
        subst ec_
        clear en_; have hcz12_0 : wr.cell? ⟨gb101, 0, none⟩ = some (.string x102000_1) := bcA BK101 0; have hcz12_1 : wr.cell? ⟨gb101, 1, none⟩ = some (.int .i64 x102001_1) := bcA BK101 1; have hcz12_2 : wr.cell? ⟨gb101, 2, none⟩ = some (.int .i64 x102002_1) := bcA BK101 2; have hcz12_3 : wr.cell? ⟨gb101, 3, none⟩ = some (.int .i64 x102003_1) := bcA BK101 3; have hcz12_4 : wr.cell? ⟨gb101, 4, none⟩ = some (.int .i64 x102004_1) := bcA BK101 4; have hcz12_5 : wr.cell? ⟨gb101, 5, none⟩ = some (.slice none 0 0) := bcA BK101 5; have hfz12_0 := blk_frozen BK101.out 0; have hfz12_1 := blk_frozen BK101.out 1; have hfz12_2 := blk_frozen BK101.out 2; have hfz12_3 := blk_frozen BK101.out 3; have hfz12_4 := blk_frozen BK101.out 4; have hfz12_5 := blk_frozen BK101.out 5
        go_wp2
        refine bodyPost_ret (results_ct rfl _ _ gb101 72 #[.string ((rd_T72 t102 x7_1).f0), .int .i64 ((rd_T72 t102 x7_1).f1), .int .i64 ((rd_T72 t102 x7_1).f2), .int .i64 ((rd_T72 t102 x7_1).f3), .int .i64 ((rd_T72 t102 x7_1).f4), .slice A105_5 ((rd_T72 t102 x7_1).f5).length c105_5] (0, 0) _ rfl (by (with_reducible repeat (first | refine blk_drewN ?_ _ | refine blk_drew ?_ | refine blk_alloc ?_ _)); refine blk_put (cs := #[.string ((rd_T72 t102 x7_1).f0), .int .i64 ((rd_T72 t102 x7_1).f1), .int .i64 ((rd_T72 t102 x7_1).f2), .int .i64 ((rd_T72 t102 x7_1).f3), .int .i64 ((rd_T72 t102 x7_1).f4), .slice none 0 0]) ?_ 5 _ rfl; (with_reducible repeat (first | refine blk_drewN ?_ _ | refine blk_drew ?_ | refine blk_alloc ?_ _)); refine blk_put (cs := #[.string ((rd_T72 t102 x7_1).f0), .int .i64 ((rd_T72 t102 x7_1).f1), .int .i64 ((rd_T72 t102 x7_1).f2), .int .i64 ((rd_T72 t102 x7_1).f3), .int .i64 x102004_1, .slice none 0 0]) ?_ 4 _ rfl; (with_reducible repeat (first | refine blk_drewN ?_ _ | refine blk_drew ?_ | refine blk_alloc ?_ _)); refine blk_put (cs := #[.string ((rd_T72 t102 x7_1).f0), .int .i64 ((rd_T72 t102 x7_1).f1), .int .i64 ((rd_T72 t102 x7_1).f2), .int .i64 x102003_1, .int .i64 x102004_1, .slice none 0 0]) ?_ 3 _ rfl; (with_reducible repeat (first | refine blk_drewN ?_ _ | refine blk_drew ?_ | refine blk_alloc ?_ _)); refine blk_put (cs := #[.string ((rd_T72 t102 x7_1).f0), .int .i64 ((rd_T72 t102 x7_1).f1), .int .i64 x102002_1, .int .i64 x102003_1, .int .i64 x102004_1, .slice none 0 0]) ?_ 2 _ rfl; (with_reducible repeat (first | refine blk_drewN ?_ _ | refine blk_drew ?_ | refine blk_alloc ?_ _)); refine blk_put (cs := #[.string ((rd_T72 t102 x7_1).f0), .int .i64 x102001_1, .int .i64 x102002_1, .int .i64 x102003_1, .int .i64 x102004_1, .slice none 0 0]) ?_ 1 _ rfl; (with_reducible repeat (first | refine blk_drewN ?_ _ | refine blk_drew ?_ | refine blk_alloc ?_ _)); refine blk_put (cs := #[.string x102000_1, .int .i64 x102001_1, .int .i64 x102002_1, .int .i64 x102003_1, .int .i64 x102004_1, .slice none 0 0]) ?_ 0 _ rfl; (with_reducible repeat (first | refine blk_drewN ?_ _ | refine blk_drew ?_ | refine blk_alloc ?_ _)); exact BK101.out) Try.underlying72 rfl (by kernel_rfl)) rfl ?_
        exact ⟨_, by first | rfl | (simp [errW_none, errW_some] <;> rfl) | (simp [*, errW_none, errW_some] <;> rfl), by (with_reducible repeat (first | apply Kd.V_alloc | apply Kd.V_drewN | apply Kd.V_drew)); exact Kd.V_mono (Kd.V_far (p := ⟨gb101, 5, none⟩) (Kd.V_far (p := ⟨gb101, 4, none⟩) (Kd.V_far (p := ⟨gb101, 3, none⟩) (Kd.V_far (p := ⟨gb101, 2, none⟩) (Kd.V_far (p := ⟨gb101, 1, none⟩) (Kd.V_far (p := ⟨gb101, 0, none⟩) (Kd.V_mono HL108_5.out (fun k_ hk => (⟨hk, hk.1.2⟩ : _ ∧ k_ ≠ gb101))) (fun _ hk => hk.2) (.string ((rd_T72 t102 x7_1).f0))) (fun _ hk => hk.2) (.int .i64 ((rd_T72 t102 x7_1).f1))) (fun _ hk => hk.2) (.int .i64 ((rd_T72 t102 x7_1).f2))) (fun _ hk => hk.2) (.int .i64 ((rd_T72 t102 x7_1).f3))) (fun _ hk => hk.2) (.int .i64 ((rd_T72 t102 x7_1).f4))) (fun _ hk => hk.2) (.slice A105_5 ((rd_T72 t102 x7_1).f5).length c105_5)) (fun _ hk => hk.1.1.1), hbA HB⟩
       ·
        rw [if_neg c10] at H
        have c10b0 : decide (a1 ≤ ((rd_T72 t102 x7_1).f2)) = false := decide_eq_false c10
        clear c10
        have H' := Aside0.mk H
        clear H
        obtain ⟨Ao13, co13, eo13⟩ := Kd.N_slice HO_6.out
        subst eo13
        have p105 : 0 ≤ (x7_1 : Int) := of_decide_eq_true (by first | (with_reducible assumption) | assumption)
        have q105 : x7_1 < (t102.length : Int) := of_decide_eq_true (by first | (with_reducible assumption) | assumption)
        obtain ⟨ad105, A105_5, c105_5, e105, hx105_0, hx105_1, hx105_2, hx105_3, hx105_4, hx105_5, hl105_5, hi105_5⟩ := at_T72 (Kd.N_reads' HO_6.out).2.2 x7_1 p105 q105
        cases e105
        obtain ⟨ce105, hce105, hMe105, hcc105⟩ := Kd.N_get HO_6.out z72 x7_1 p105 (by first | exact q105 | exact of_decide_eq_true (by first | (with_reducible assumption) | assumption) | (have e_ := (Kd.N_reads' HO_6.out).1; omega))
        obtain ⟨ua105_5, uc105_5, rfl, ul105_5, ge105_5⟩ := k72_openF hMe105
        have hv105_5 := hcc105 5 _ rfl
        rw [add_field _ _ 5 (by omega)] at hv105_5
        replace hv105_5 := Option.some.inj (hv105_5.symm.trans hx105_5)
        injection hv105_5 with hva_ hvn_ hvc_
        rw [hva_] at ge105_5
        rw [hvc_] at ul105_5
        have HL105_5 := Aside0.mk (show Kd.V k91 91 _ w.heap.size _ _ ((rd_T72 t102 x7_1).f5) from Kd.V_mk ul105_5 ge105_5)
        clear hva_ hvn_ hvc_ ge105_5 ul105_5; clear hcc105 hce105
        have HR105_5 := Aside0.mk hi105_5
        have HC105_5 := Aside0.mk hl105_5
        clear hi105_5 hl105_5
        replace p105 := eq_true p105
        replace q105 := eq_true q105
        have p106 : 0 ≤ (x7_1 : Int) := of_decide_eq_true (by first | (with_reducible assumption) | assumption)
        have q106 : x7_1 < (t102.length : Int) := of_decide_eq_true (by first | (with_reducible assumption) | assumption)
        obtain ⟨ad106, A106_5, c106_5, e106, hx106_0, hx106_1, hx106_2, hx106_3, hx106_4, hx106_5, hl106_5, hi106_5⟩ := at_T72 (Kd.N_reads' HO_6.out).2.2 x7_1 p106 q106
        obtain rfl : ad105 = ad106 := (by injection e106)
        obtain ⟨ce106, hce106, hMe106, hcc106⟩ := Kd.N_get HO_6.out z72 x7_1 p106 (by first | exact q106 | exact of_decide_eq_true (by first | (with_reducible assumption) | assumption) | (have e_ := (Kd.N_reads' HO_6.out).1; omega))
        obtain ⟨ua106_5, uc106_5, rfl, ul106_5, ge106_5⟩ := k72_openF hMe106
        have hv106_5 := hcc106 5 _ rfl
        rw [add_field _ _ 5 (by omega)] at hv106_5
        replace hv106_5 := Option.some.inj (hv106_5.symm.trans hx106_5)
        injection hv106_5 with hva_ hvn_ hvc_
        rw [hva_] at ge106_5
        rw [hvc_] at ul106_5
        have HL106_5 := Aside0.mk (show Kd.V k91 91 _ w.heap.size _ _ ((rd_T72 t102 x7_1).f5) from Kd.V_mk ul106_5 ge106_5)
        clear hva_ hvn_ hvc_ ge106_5 ul106_5; clear hcc106 hce106
        have HR106_5 := Aside0.mk hi106_5
        have HC106_5 := Aside0.mk hl106_5
        clear hi106_5 hl106_5
        replace p106 := eq_true p106
        replace q106 := eq_true q106
        have ea_ := Option.some.inj (hx105_5.symm.trans hx106_5)
        injection ea_ with ea_ en_ ec_
        subst ea_
        subst ec_
        clear en_
        have p107 : 0 ≤ (x7_1 : Int) := of_decide_eq_true (by first | (with_reducible assumption) | assumption)
        have q107 : x7_1 < (t102.length : Int) := of_decide_eq_true (by first | (with_reducible assumption) | assumption)
        obtain ⟨ad107, A107_5, c107_5, e107, hx107_0, hx107_1, hx107_2, hx107_3, hx107_4, hx107_5, hl107_5, hi107_5⟩ := at_T72 (Kd.N_reads' HO_6.out).2.2 x7_1 p107 q107
        obtain rfl : ad105 = ad107 := (by injection e107)
        obtain ⟨ce107, hce107, hMe107, hcc107⟩ := Kd.N_get HO_6.out z72 x7_1 p107 (by first | exact q107 | exact of_decide_eq_true (by first | (with_reducible assumption) | assumption) | (have e_ := (Kd.N_reads' HO_6.out).1; omega))
        obtain ⟨ua107_5, uc107_5, rfl, ul107_5, ge107_5⟩ := k72_openF hMe107
        have hv107_5 := hcc107 5 _ rfl
        rw [add_field _ _ 5 (by omega)] at hv107_5
        replace hv107_5 := Option.some.inj (hv107_5.symm.trans hx107_5)
        injection hv107_5 with hva_ hvn_ hvc_
        rw [hva_] at ge107_5
        rw [hvc_] at ul107_5
        have HL107_5 := Aside0.mk (show Kd.V k91 91 _ w.heap.size _ _ ((rd_T72 t102 x7_1).f5) from Kd.V_mk ul107_5 ge107_5)
        clear hva_ hvn_ hvc_ ge107_5 ul107_5; clear hcc107 hce107
        have HR107_5 := Aside0.mk hi107_5
        have HC107_5 := Aside0.mk hl107_5
        clear hi107_5 hl107_5
        replace p107 := eq_true p107
        replace q107 := eq_true q107
        have ea_ := Option.some.inj (hx105_5.symm.trans hx107_5)
        injection ea_ with ea_ en_ ec_
        subst ea_
        subst ec_
        clear en_
        go_wp2
        go_roundg k1
        case measure => have := HK1.out; omega
        case rel => exact ⟨(wrap64 (x7_1 + 1)), (x102000_1), (x102001_1), (x102002_1), (x102003_1), (x102004_1), (by first | rfl | (simp; done) | (simp [*]; done)), H', ⟨by have := HK1.out; omega⟩, ⟨by (with_reducible repeat (first | apply Kd.N_alloc | apply Kd.N_drewN | apply Kd.N_drew)); exact HO_6.out⟩, ⟨bkA BK101⟩, ⟨hbA HB⟩⟩
      ·
       rw [if_neg c9] at H
       have c9b0 : decide (((rd_T72 t102 x7_1).f1) ≤ a1) = false := decide_eq_false c9
       clear c9
       have H' := Aside0.mk H
       clear H
       obtain ⟨Ao14, co14, eo14⟩ := Kd.N_slice HO_6.out
       subst eo14
       have p105 : 0 ≤ (x7_1 : Int) := of_decide_eq_true (by first | (with_reducible assumption) | assumption)
       have q105 : x7_1 < (t102.length : Int) := of_decide_eq_true (by first | (with_reducible assumption) | assumption)
       obtain ⟨ad105, A105_5, c105_5, e105, hx105_0, hx105_1, hx105_2, hx105_3, hx105_4, hx105_5, hl105_5, hi105_5⟩ := at_T72 (Kd.N_reads' HO_6.out).2.2 x7_1 p105 q105
       cases e105
       obtain ⟨ce105, hce105, hMe105, hcc105⟩ := Kd.N_get HO_6.out z72 x7_1 p105 (by first | exact q105 | exact of_decide_eq_true (by first | (with_reducible assumption) | assumption) | (have e_ := (Kd.N_reads' HO_6.out).1; omega))
       obtain ⟨ua105_5, uc105_5, rfl, ul105_5, ge105_5⟩ := k72_openF hMe105
       have hv105_5 := hcc105 5 _ rfl
       rw [add_field _ _ 5 (by omega)] at hv105_5
       replace hv105_5 := Option.some.inj (hv105_5.symm.trans hx105_5)
       injection hv105_5 with hva_ hvn_ hvc_
       rw [hva_] at ge105_5
       rw [hvc_] at ul105_5
       have HL105_5 := Aside0.mk (show Kd.V k91 91 _ w.heap.size _ _ ((rd_T72 t102 x7_1).f5) from Kd.V_mk ul105_5 ge105_5)
       clear hva_ hvn_ hvc_ ge105_5 ul105_5; clear hcc105 hce105
       have HR105_5 := Aside0.mk hi105_5
       have HC105_5 := Aside0.mk hl105_5
       clear hi105_5 hl105_5
       replace p105 := eq_true p105
       replace q105 := eq_true q105
       have p106 : 0 ≤ (x7_1 : Int) := of_decide_eq_true (by first | (with_reducible assumption) | assumption)
       have q106 : x7_1 < (t102.length : Int) := of_decide_eq_true (by first | (with_reducible assumption) | assumption)
       obtain ⟨ad106, A106_5, c106_5, e106, hx106_0, hx106_1, hx106_2, hx106_3, hx106_4, hx106_5, hl106_5, hi106_5⟩ := at_T72 (Kd.N_reads' HO_6.out).2.2 x7_1 p106 q106
       obtain rfl : ad105 = ad106 := (by injection e106)
       obtain ⟨ce106, hce106, hMe106, hcc106⟩ := Kd.N_get HO_6.out z72 x7_1 p106 (by first | exact q106 | exact of_decide_eq_true (by first | (with_reducible assumption) | assumption) | (have e_ := (Kd.N_reads' HO_6.out).1; omega))
       obtain ⟨ua106_5, uc106_5, rfl, ul106_5, ge106_5⟩ := k72_openF hMe106
       have hv106_5 := hcc106 5 _ rfl
       rw [add_field _ _ 5 (by omega)] at hv106_5
       replace hv106_5 := Option.some.inj (hv106_5.symm.trans hx106_5)
       injection hv106_5 with hva_ hvn_ hvc_
       rw [hva_] at ge106_5
       rw [hvc_] at ul106_5
       have HL106_5 := Aside0.mk (show Kd.V k91 91 _ w.heap.size _ _ ((rd_T72 t102 x7_1).f5) from Kd.V_mk ul106_5 ge106_5)
       clear hva_ hvn_ hvc_ ge106_5 ul106_5; clear hcc106 hce106
       have HR106_5 := Aside0.mk hi106_5
       have HC106_5 := Aside0.mk hl106_5
       clear hi106_5 hl106_5
       replace p106 := eq_true p106
       replace q106 := eq_true q106
       have ea_ := Option.some.inj (hx105_5.symm.trans hx106_5)
       injection ea_ with ea_ en_ ec_
       subst ea_
       subst ec_
       clear en_
       go_wp2
       go_roundg k1
       case measure => have := HK1.out; omega
       case rel => exact ⟨(wrap64 (x7_1 + 1)), (x102000_1), (x102001_1), (x102002_1), (x102003_1), (x102004_1), (by first | rfl | (simp; done) | (simp [*]; done)), H', ⟨by have := HK1.out; omega⟩, ⟨by (with_reducible repeat (first | apply Kd.N_alloc | apply Kd.N_drewN | apply Kd.N_drew)); exact HO_6.out⟩, ⟨bkA BK101⟩, ⟨hbA HB⟩⟩
     ·
      rw [if_neg c8] at H
      have c8b0 : (((rd_T72 t102 x7_1).f0).toList == a0.toList) = false := beq_eq_false_iff_ne.mpr c8
      have c8b1 : (((rd_T72 t102 x7_1).f0).toList != a0.toList) = true := bne_iff_ne.mpr c8
      have H' := Aside0.mk H
      clear H
      obtain ⟨Ao15, co15, eo15⟩ := Kd.N_slice HO_6.out
      subst eo15
      have p105 : 0 ≤ (x7_1 : Int) := of_decide_eq_true (by first | (with_reducible assumption) | assumption)
      have q105 : x7_1 < (t102.length : Int) := of_decide_eq_true (by first | (with_reducible assumption) | assumption)
      obtain ⟨ad105, A105_5, c105_5, e105, hx105_0, hx105_1, hx105_2, hx105_3, hx105_4, hx105_5, hl105_5, hi105_5⟩ := at_T72 (Kd.N_reads' HO_6.out).2.2 x7_1 p105 q105
      cases e105
      obtain ⟨ce105, hce105, hMe105, hcc105⟩ := Kd.N_get HO_6.out z72 x7_1 p105 (by first | exact q105 | exact of_decide_eq_true (by first | (with_reducible assumption) | assumption) | (have e_ := (Kd.N_reads' HO_6.out).1; omega))
      obtain ⟨ua105_5, uc105_5, rfl, ul105_5, ge105_5⟩ := k72_openF hMe105
      have hv105_5 := hcc105 5 _ rfl
      rw [add_field _ _ 5 (by omega)] at hv105_5
      replace hv105_5 := Option.some.inj (hv105_5.symm.trans hx105_5)
      injection hv105_5 with hva_ hvn_ hvc_
      rw [hva_] at ge105_5
      rw [hvc_] at ul105_5
      have HL105_5 := Aside0.mk (show Kd.V k91 91 _ w.heap.size _ _ ((rd_T72 t102 x7_1).f5) from Kd.V_mk ul105_5 ge105_5)
      clear hva_ hvn_ hvc_ ge105_5 ul105_5; clear hcc105 hce105
      have HR105_5 := Aside0.mk hi105_5
      have HC105_5 := Aside0.mk hl105_5
      clear hi105_5 hl105_5
      replace p105 := eq_true p105
      replace q105 := eq_true q105
      go_wp2
      go_roundg k1
      case measure => have := HK1.out; omega
      case rel => exact ⟨(wrap64 (x7_1 + 1)), (x102000_1), (x102001_1), (x102002_1), (x102003_1), (x102004_1), (by first | rfl | (simp; done) | (simp [*]; done)), H', ⟨by have := HK1.out; omega⟩, ⟨by (with_reducible repeat (first | apply Kd.N_alloc | apply Kd.N_drewN | apply Kd.N_drew)); exact HO_6.out⟩, ⟨bkA BK101⟩, ⟨hbA HB⟩⟩
    ·
     rw [if_neg c7] at H
     exact absurd H (by simp)
   ·
    rw [if_neg c6] at H
    have c6b0 : decide (x7_1 < (t102.length : Int)) = false := decide_eq_false c6
    clear c6
    simp only [Option.some.injEq, Prod.mk.injEq] at H
    obtain ⟨rfl, rfl, rfl, rfl, rfl, rfl, rfl⟩ := H
    obtain ⟨Ao16, co16, eo16⟩ := Kd.N_slice HO_6.out
    subst eo16
    have hcz17_0 : wr.cell? ⟨gb101, 0, none⟩ = some (.string x102000_1) := bcA BK101 0; have hcz17_1 : wr.cell? ⟨gb101, 1, none⟩ = some (.int .i64 x102001_1) := bcA BK101 1; have hcz17_2 : wr.cell? ⟨gb101, 2, none⟩ = some (.int .i64 x102002_1) := bcA BK101 2; have hcz17_3 : wr.cell? ⟨gb101, 3, none⟩ = some (.int .i64 x102003_1) := bcA BK101 3; have hcz17_4 : wr.cell? ⟨gb101, 4, none⟩ = some (.int .i64 x102004_1) := bcA BK101 4; have hcz17_5 : wr.cell? ⟨gb101, 5, none⟩ = some (.slice none 0 0) := bcA BK101 5; have hfz17_0 := blk_frozen BK101.out 0; have hfz17_1 := blk_frozen BK101.out 1; have hfz17_2 := blk_frozen BK101.out 2; have hfz17_3 := blk_frozen BK101.out 3; have hfz17_4 := blk_frozen BK101.out 4; have hfz17_5 := blk_frozen BK101.out 5
    go_wp2
    refine bodyPost_ret (results_ct rfl _ _ gb101 72 #[.string (⟨#[]⟩ : ByteArray), .int .i64 0, .int .i64 0, .int .i64 0, .int .i64 0, .slice none 0 0] (0, 0) _ rfl (by (with_reducible repeat (first | refine blk_drewN ?_ _ | refine blk_drew ?_ | refine blk_alloc ?_ _)); refine blk_put (cs := #[.string (⟨#[]⟩ : ByteArray), .int .i64 0, .int .i64 0, .int .i64 0, .int .i64 0, .slice none 0 0]) ?_ 5 _ rfl; (with_reducible repeat (first | refine blk_drewN ?_ _ | refine blk_drew ?_ | refine blk_alloc ?_ _)); refine blk_put (cs := #[.string (⟨#[]⟩ : ByteArray), .int .i64 0, .int .i64 0, .int .i64 0, .int .i64 x102004_1, .slice none 0 0]) ?_ 4 _ rfl; (with_reducible repeat (first | refine blk_drewN ?_ _ | refine blk_drew ?_ | refine blk_alloc ?_ _)); refine blk_put (cs := #[.string (⟨#[]⟩ : ByteArray), .int .i64 0, .int .i64 0, .int .i64 x102003_1, .int .i64 x102004_1, .slice none 0 0]) ?_ 3 _ rfl; (with_reducible repeat (first | refine blk_drewN ?_ _ | refine blk_drew ?_ | refine blk_alloc ?_ _)); refine blk_put (cs := #[.string (⟨#[]⟩ : ByteArray), .int .i64 0, .int .i64 x102002_1, .int .i64 x102003_1, .int .i64 x102004_1, .slice none 0 0]) ?_ 2 _ rfl; (with_reducible repeat (first | refine blk_drewN ?_ _ | refine blk_drew ?_ | refine blk_alloc ?_ _)); refine blk_put (cs := #[.string (⟨#[]⟩ : ByteArray), .int .i64 x102001_1, .int .i64 x102002_1, .int .i64 x102003_1, .int .i64 x102004_1, .slice none 0 0]) ?_ 1 _ rfl; (with_reducible repeat (first | refine blk_drewN ?_ _ | refine blk_drew ?_ | refine blk_alloc ?_ _)); refine blk_put (cs := #[.string x102000_1, .int .i64 x102001_1, .int .i64 x102002_1, .int .i64 x102003_1, .int .i64 x102004_1, .slice none 0 0]) ?_ 0 _ rfl; (with_reducible repeat (first | refine blk_drewN ?_ _ | refine blk_drew ?_ | refine blk_alloc ?_ _)); exact BK101.out) Try.underlying72 rfl (by kernel_rfl)) rfl ?_
    exact ⟨_, by first | rfl | (simp [errW_none, errW_some] <;> rfl) | (simp [*, errW_none, errW_some] <;> rfl), Kd.V_nil _ _ _ _ _, hbA HB⟩
end Go.Proofs.Ytdemgfbolcmcdaa.X
namespace Go.Proofs.Ytdemgfbolcmcdaa.X
open Go.RowKit Go.Proofs.YtdemgfbolcmcdaaW.PrintWords Go.Proofs.YtdemgfbolcmcdaaW.PrintLast Go.Proofs.YtdemgfbolcmcdaaW.PrintMore
attribute [local go_sem] max2_int min2_int max_two min_two max_three min_three max_four min_four
set_option linter.unusedVariables false
set_option linter.unusedSimpArgs false
def ops_All.f  : Option (List ByteArray) := some (([(⟨#[65, 100, 100]⟩ : ByteArray), (⟨#[65, 110, 100]⟩ : ByteArray), (⟨#[67, 111, 110, 99, 97, 116]⟩ : ByteArray), (⟨#[69, 113, 117, 97, 108]⟩ : ByteArray), (⟨#[73, 100, 101, 110, 116, 105, 116, 121]⟩ : ByteArray), (⟨#[77, 117, 108]⟩ : ByteArray), (⟨#[78, 101, 103]⟩ : ByteArray), (⟨#[78, 111, 116]⟩ : ByteArray), (⟨#[82, 101, 100, 117, 99, 101, 83, 117, 109]⟩ : ByteArray), (⟨#[82, 101, 115, 104, 97, 112, 101]⟩ : ByteArray), (⟨#[83, 108, 105, 99, 101]⟩ : ByteArray), (⟨#[83, 113, 117, 101, 101, 122, 101]⟩ : ByteArray), (⟨#[83, 117, 98]⟩ : ByteArray), (⟨#[84, 114, 97, 110, 115, 112, 111, 115, 101]⟩ : ByteArray), (⟨#[85, 110, 115, 113, 117, 101, 101, 122, 101]⟩ : ByteArray)] : List ByteArray))
set_option maxHeartbeats 8000000 in
set_option maxRecDepth 100000 in
theorem ops_All.calls  (r : List ByteArray) (w : World) (h : ops_All.f  = some r) :
  Calls Try.prog 24 #[] w fun e w' => ∃ v0_ : Value, e = .returned (v0_) ∧ Kd.R Kd.string 9 w' w.heap.size (fun _ => True) v0_ r ∧ Below w.heap.size w w' := by
 have HB := Aside0.mk (Below.refl w.heap.size w)
 have H : (some (([(⟨#[65, 100, 100]⟩ : ByteArray), (⟨#[65, 110, 100]⟩ : ByteArray), (⟨#[67, 111, 110, 99, 97, 116]⟩ : ByteArray), (⟨#[69, 113, 117, 97, 108]⟩ : ByteArray), (⟨#[73, 100, 101, 110, 116, 105, 116, 121]⟩ : ByteArray), (⟨#[77, 117, 108]⟩ : ByteArray), (⟨#[78, 101, 103]⟩ : ByteArray), (⟨#[78, 111, 116]⟩ : ByteArray), (⟨#[82, 101, 100, 117, 99, 101, 83, 117, 109]⟩ : ByteArray), (⟨#[82, 101, 115, 104, 97, 112, 101]⟩ : ByteArray), (⟨#[83, 108, 105, 99, 101]⟩ : ByteArray), (⟨#[83, 113, 117, 101, 101, 122, 101]⟩ : ByteArray), (⟨#[83, 117, 98]⟩ : ByteArray), (⟨#[84, 114, 97, 110, 115, 112, 111, 115, 101]⟩ : ByteArray), (⟨#[85, 110, 115, 113, 117, 101, 101, 122, 101]⟩ : ByteArray)] : List ByteArray))) = some r := h
 clear h
 obtain ⟨y101, hy101⟩ : ∃ y_ : List ByteArray, y_ = (([(⟨#[65, 100, 100]⟩ : ByteArray), (⟨#[65, 110, 100]⟩ : ByteArray), (⟨#[67, 111, 110, 99, 97, 116]⟩ : ByteArray), (⟨#[69, 113, 117, 97, 108]⟩ : ByteArray), (⟨#[73, 100, 101, 110, 116, 105, 116, 121]⟩ : ByteArray), (⟨#[77, 117, 108]⟩ : ByteArray), (⟨#[78, 101, 103]⟩ : ByteArray), (⟨#[78, 111, 116]⟩ : ByteArray), (⟨#[82, 101, 100, 117, 99, 101, 83, 117, 109]⟩ : ByteArray), (⟨#[82, 101, 115, 104, 97, 112, 101]⟩ : ByteArray), (⟨#[83, 108, 105, 99, 101]⟩ : ByteArray), (⟨#[83, 113, 117, 101, 101, 122, 101]⟩ : ByteArray), (⟨#[83, 117, 98]⟩ : ByteArray), (⟨#[84, 114, 97, 110, 115, 112, 111, 115, 101]⟩ : ByteArray), (⟨#[85, 110, 115, 113, 117, 101, 101, 122, 101]⟩ : ByteArray)] : List ByteArray)) := ⟨_, rfl⟩
 replace H : (some y101) = some r := by first | (rw [hy101]; with_reducible exact H) | (have H2_ := (Option.bind_some _ _).symm.trans H; rw [hy101]; with_reducible exact H2_) | (have H2_ := (Option.bind_some _ _).symm.trans H; with_reducible exact H2_) | with_reducible exact H | (rw [hy101]; exact H) | exact H
 have Ny101 := Aside0.mk hy101
 clear hy101
 obtain rfl := Option.some.inj H
 go_enter Try.func24, Try.ntmps24
 go_wp2_with (first | ((with_reducible refine gate_dst (N := 1) rfl ?_); refine Kd.R_lit Kd.string _ 9 ?hg (N := 1) ?hd (xs := ([(⟨#[65, 100, 100]⟩ : ByteArray), (⟨#[65, 110, 100]⟩ : ByteArray), (⟨#[67, 111, 110, 99, 97, 116]⟩ : ByteArray), (⟨#[69, 113, 117, 97, 108]⟩ : ByteArray), (⟨#[73, 100, 101, 110, 116, 105, 116, 121]⟩ : ByteArray), (⟨#[77, 117, 108]⟩ : ByteArray), (⟨#[78, 101, 103]⟩ : ByteArray), (⟨#[78, 111, 116]⟩ : ByteArray), (⟨#[82, 101, 100, 117, 99, 101, 83, 117, 109]⟩ : ByteArray), (⟨#[82, 101, 115, 104, 97, 112, 101]⟩ : ByteArray), (⟨#[83, 108, 105, 99, 101]⟩ : ByteArray), (⟨#[83, 113, 117, 101, 101, 122, 101]⟩ : ByteArray), (⟨#[83, 117, 98]⟩ : ByteArray), (⟨#[84, 114, 97, 110, 115, 112, 111, 115, 101]⟩ : ByteArray), (⟨#[85, 110, 115, 113, 117, 101, 101, 122, 101]⟩ : ByteArray)] : List ByteArray)) (inner := [.string (⟨#[65, 100, 100]⟩ : ByteArray), .string (⟨#[65, 110, 100]⟩ : ByteArray), .string (⟨#[67, 111, 110, 99, 97, 116]⟩ : ByteArray), .string (⟨#[69, 113, 117, 97, 108]⟩ : ByteArray), .string (⟨#[73, 100, 101, 110, 116, 105, 116, 121]⟩ : ByteArray), .string (⟨#[77, 117, 108]⟩ : ByteArray), .string (⟨#[78, 101, 103]⟩ : ByteArray), .string (⟨#[78, 111, 116]⟩ : ByteArray), .string (⟨#[82, 101, 100, 117, 99, 101, 83, 117, 109]⟩ : ByteArray), .string (⟨#[82, 101, 115, 104, 97, 112, 101]⟩ : ByteArray), .string (⟨#[83, 108, 105, 99, 101]⟩ : ByteArray), .string (⟨#[83, 113, 117, 101, 101, 122, 101]⟩ : ByteArray), .string (⟨#[83, 117, 98]⟩ : ByteArray), .string (⟨#[84, 114, 97, 110, 115, 112, 111, 115, 101]⟩ : ByteArray), .string (⟨#[85, 110, 115, 113, 117, 101, 101, 122, 101]⟩ : ByteArray)]) (ok := fun _ => True) (okp := fun _ => True) ?hr ?hp (fun _ hk => hk) trivial (Below.refl _ _) (Nat.le_refl _) (by simp) ?_; (case hd => rfl); (case hg => rfl); (case hr => first | (go_simp; done) | (go_simp; rfl)); (case hp => exact (Reps.one (show Kd.M Kd.string _ _ _ (⟨#[65, 100, 100]⟩ : ByteArray) [.string (⟨#[65, 100, 100]⟩ : ByteArray)] from rfl) (Reps.one (show Kd.M Kd.string _ _ _ (⟨#[65, 110, 100]⟩ : ByteArray) [.string (⟨#[65, 110, 100]⟩ : ByteArray)] from rfl) (Reps.one (show Kd.M Kd.string _ _ _ (⟨#[67, 111, 110, 99, 97, 116]⟩ : ByteArray) [.string (⟨#[67, 111, 110, 99, 97, 116]⟩ : ByteArray)] from rfl) (Reps.one (show Kd.M Kd.string _ _ _ (⟨#[69, 113, 117, 97, 108]⟩ : ByteArray) [.string (⟨#[69, 113, 117, 97, 108]⟩ : ByteArray)] from rfl) (Reps.one (show Kd.M Kd.string _ _ _ (⟨#[73, 100, 101, 110, 116, 105, 116, 121]⟩ : ByteArray) [.string (⟨#[73, 100, 101, 110, 116, 105, 116, 121]⟩ : ByteArray)] from rfl) (Reps.one (show Kd.M Kd.string _ _ _ (⟨#[77, 117, 108]⟩ : ByteArray) [.string (⟨#[77, 117, 108]⟩ : ByteArray)] from rfl) (Reps.one (show Kd.M Kd.string _ _ _ (⟨#[78, 101, 103]⟩ : ByteArray) [.string (⟨#[78, 101, 103]⟩ : ByteArray)] from rfl) (Reps.one (show Kd.M Kd.string _ _ _ (⟨#[78, 111, 116]⟩ : ByteArray) [.string (⟨#[78, 111, 116]⟩ : ByteArray)] from rfl) (Reps.one (show Kd.M Kd.string _ _ _ (⟨#[82, 101, 100, 117, 99, 101, 83, 117, 109]⟩ : ByteArray) [.string (⟨#[82, 101, 100, 117, 99, 101, 83, 117, 109]⟩ : ByteArray)] from rfl) (Reps.one (show Kd.M Kd.string _ _ _ (⟨#[82, 101, 115, 104, 97, 112, 101]⟩ : ByteArray) [.string (⟨#[82, 101, 115, 104, 97, 112, 101]⟩ : ByteArray)] from rfl) (Reps.one (show Kd.M Kd.string _ _ _ (⟨#[83, 108, 105, 99, 101]⟩ : ByteArray) [.string (⟨#[83, 108, 105, 99, 101]⟩ : ByteArray)] from rfl) (Reps.one (show Kd.M Kd.string _ _ _ (⟨#[83, 113, 117, 101, 101, 122, 101]⟩ : ByteArray) [.string (⟨#[83, 113, 117, 101, 101, 122, 101]⟩ : ByteArray)] from rfl) (Reps.one (show Kd.M Kd.string _ _ _ (⟨#[83, 117, 98]⟩ : ByteArray) [.string (⟨#[83, 117, 98]⟩ : ByteArray)] from rfl) (Reps.one (show Kd.M Kd.string _ _ _ (⟨#[84, 114, 97, 110, 115, 112, 111, 115, 101]⟩ : ByteArray) [.string (⟨#[84, 114, 97, 110, 115, 112, 111, 115, 101]⟩ : ByteArray)] from rfl) (Reps.one (show Kd.M Kd.string _ _ _ (⟨#[85, 110, 115, 113, 117, 101, 101, 122, 101]⟩ : ByteArray) [.string (⟨#[85, 110, 115, 113, 117, 101, 101, 122, 101]⟩ : ByteArray)] from rfl) (Reps.none _ _))))))))))))))))); intro v102 w1 ho2 hb hg_ hnew_; clear hg_ hnew_; (first | rw [← Ny101.out] at ho2 | (simp only [Int.reduceToNat] at ho2; rw [← Ny101.out] at ho2)); have n0_ := Aside0.mk (Kd.R_lower ho2 (below_size (hbA HB))); have n1_ := Aside0.mk (below_step (hbA HB) hb); clear HB; have HO103 := n0_; have HB := n1_; clear n0_ n1_; clear hb ho2))
 go_ret
 exact ⟨_, by first | rfl | (simp [errW_none, errW_some] <;> rfl) | (simp [*, errW_none, errW_some] <;> rfl), krA HO103, hbA HB⟩
end Go.Proofs.Ytdemgfbolcmcdaa.X
