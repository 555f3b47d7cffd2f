import Derived.Test.YtdemgfbolcmcdaaMOpsTell2
import Derived.Test.YtdemgfbolcmcdaaMOpsTell13
import Derived.Test.YtdemgfbolcmcdaaMOpsTell3
namespace Go.Proofs.Ytdemgfbolcmcdaa.X
open Go.RowKit Go.Proofs.YtdemgfbolcmcdaaW.PrintWords Go.Proofs.YtdemgfbolcmcdaaW.PrintLast Go.Proofs.YtdemgfbolcmcdaaW.PrintMore
attribute [local go_sem] max2_int min2_int max_two min_two max_three min_three max_four min_four
set_option linter.unusedVariables false
set_option linter.unusedSimpArgs false
def agateref13_Find.l0 : Nat → ByteArray → Int → List (S72) → Int → Option (ByteArray × Int × Int × Int × Int × (List (S91)) × Bool)
 | 0, _, _, _, _ => none
 | k + 1, x0, x1, x6, x7 => if x7 < (x6.length : Int) then (if 0 ≤ x7 then (if ((rd_T72 x6 x7).f0).toList = x0.toList then (if ((rd_T72 x6 x7).f1) ≤ x1 then (if x1 ≤ ((rd_T72 x6 x7).f2) then (some ((rd_T72 x6 x7).f0, (rd_T72 x6 x7).f1, (rd_T72 x6 x7).f2, (rd_T72 x6 x7).f3, (rd_T72 x6 x7).f4, (rd_T72 x6 x7).f5, true)) else (agateref13_Find.l0 k x0 x1 x6 (wrap64 (x7 + 1)))) else (agateref13_Find.l0 k x0 x1 x6 (wrap64 (x7 + 1)))) else (agateref13_Find.l0 k x0 x1 x6 (wrap64 (x7 + 1)))) else (none)) else (some ((⟨#[]⟩ : ByteArray), 0, 0, 0, 0, ([] : List (S91)), false))
def agateref13_Find.f (k : Nat) (a0 : ByteArray) (a1 : Int) : Option (ByteArray × Int × Int × Int × Int × (List (S91)) × Bool) := (agateref13_Table.f).bind fun t102 => (agateref13_Find.l0 k a0 a1 t102 0)
theorem agateref13_Find.mono_l : ∀ k, (∀ y0 y1 y2 y3, LeO (agateref13_Find.l0 k y0 y1 y2 y3) (agateref13_Find.l0 (k + 1) y0 y1 y2 y3))
 | 0 => fun _ _ _ _ r h => by simp [agateref13_Find.l0] at h
 | k + 1 => by
  have ih0 := agateref13_Find.mono_l k
  ·
   intro y0 y1 y2 y3
   unfold agateref13_Find.l0
   repeat' first
   | (with_reducible exact ih0 _ _ _ _)
   | (with_reducible exact LeO.refl _)
   | (with_reducible exact LeO.none _)
   | (with_reducible refine LeO.ite ?_ ?_)
   | (with_reducible refine LeO.bind ?_ (fun _ => ?_))
   | exact ih0 _ _ _ _
   | exact LeO.none _
   | refine LeO.ite ?_ ?_
   | refine LeO.bind ?_ (fun _ => ?_)
theorem agateref13_Find.mono : ∀ a0 a1 k, LeO (agateref13_Find.f k a0 a1) (agateref13_Find.f (k + 1) a0 a1) := by
 intro a0 a1 k
 have ih0 := agateref13_Find.mono_l k
 unfold agateref13_Find.f
 repeat' first
   | (with_reducible exact ih0 _ _ _ _)
   | (with_reducible exact LeO.refl _)
   | (with_reducible exact LeO.none _)
   | (with_reducible refine LeO.ite ?_ ?_)
   | (with_reducible refine LeO.bind ?_ (fun _ => ?_))
   | exact ih0 _ _ _ _
   | exact LeO.none _
   | refine LeO.ite ?_ ?_
   | refine LeO.bind ?_ (fun _ => ?_)
set_option maxHeartbeats 8000000 in
set_option maxRecDepth 100000 in
theorem agateref13_Find.calls (k : Nat) (a0 : ByteArray) (a1 : Int) (r1 : ByteArray) (r2 : Int) (r3 : Int) (r4 : Int) (r5 : Int) (r6 : List (S91)) (r7 : Bool) (w : World) (h : agateref13_Find.f k a0 a1 = some (r1, r2, r3, r4, r5, r6, r7)) :
  Calls Try.prog 25 #[.string a0, .int .i64 a1] w fun e w' => ∃ v5_ : Value, e = .returned (.tuple #[.agg #[.string r1, .int .i64 r2, .int .i64 r3, .int .i64 r4, .int .i64 r5, v5_], .bool r7]) ∧ Kd.V k91 91 w' w.heap.size (fun k_ => (w.heap.size ≤ k_)) v5_ r6 ∧ Below w.heap.size w w' := by
 have hu72 := Try.underlying72
 have HB := Aside0.mk (Below.refl w.heap.size w)
 have H : ((agateref13_Table.f).bind fun t102 => (agateref13_Find.l0 k a0 a1 t102 0)) = some (r1, r2, r3, r4, r5, r6, r7) := h
 clear h
 replace H := Option.bind_eq_some_iff.mp H
 obtain ⟨t102, A30, H⟩ := H
 replace H : (agateref13_Find.l0 k a0 a1 t102 0) = some (r1, r2, r3, r4, r5, r6, r7) := H
 have A3 := Aside0.mk A30
 clear A30
 have H' := Aside0.mk H
 clear H
 go_enter Try.func25, Try.ntmps25
 go_wp2_with (first | ((with_reducible refine gate_dst (N := 4) rfl ?_); refine box_event ?hg (N := 4) ?hd (cs := #[.string (⟨#[]⟩ : ByteArray), .int .i64 0, .int .i64 0, .int .i64 0, .int .i64 0, .slice none 0 0]) (t := 72) ?hr ?_; (case hd => rfl); (case hg => rfl); (case hr => first | (go_simp; done) | (go_simp; rfl)); intro gb101 hg w4 hbox hb; have n0_ := Aside0.mk (below_step (hbA HB) hb); have n1_ := Aside0.mk (hbox); have n2_ := Aside0.mk ((by rw [hg]; exact (below_size (hbA HB)) : w.heap.size ≤ gb101)); have n3_ := Aside0.mk ((by rw [hg]; exact (below_size (hbA HB)) : w.heap.size ≤ gb101)); clear HB; have HB := n0_; have BK101 := n1_; have GW101 := n2_; have GE101 := n3_; clear n0_ n1_ n2_ n3_; clear hb hbox hg) | ((with_reducible refine gate_callee (f := 44) rfl ?_); refine goesL_ (some 8) rfl rfl Try.func44 (by kernel_rfl) rfl #[] rfl (by (try simp only [List.map_toArray, List.map_cons, List.map_nil]); first | done | rfl | (simp only [List.length_drop, List.length_take]; rfl)) ?_; (with_reducible refine (agateref13_Table.calls  t102 _ A3.out).mono ?_); rintro e w5 ⟨v103, rfl, ho0, hb⟩; refine ⟨_, rfl, ?_⟩; have n0_ := Aside0.mk (Kd.N_lower (Kd.N_mono (ok' := fun k_ => (w.heap.size ≤ k_) ∧ k_ ≠ gb101) ho0 (fun k_ hk_ => ⟨(Nat.le_trans (below_size (hbA HB)) hk_), (Kd.freshB (g := gb101) (o := .cells #[.string (⟨#[]⟩ : ByteArray), .int .i64 0, .int .i64 0, .int .i64 0, .int .i64 0, .slice none 0 0] 72 (0, 0)) (bkA BK101) k_ hk_)⟩)) (below_size (hbA HB))); have n1_ := Aside0.mk (blk_below (g := gb101) (o := .cells #[.string (⟨#[]⟩ : ByteArray), .int .i64 0, .int .i64 0, .int .i64 0, .int .i64 0, .slice none 0 0] 72 (0, 0)) (bkA BK101) hb); have n2_ := Aside0.mk (below_step (hbA HB) hb); clear BK101; clear HB; have HO104 := n0_; have BK101 := n1_; have HB := n2_; clear n0_ n1_ n2_; (try clear hb); (try clear hb2); (try clear hk); (try clear hi); (try clear ho0)))
 go_loopg [7] k (fun kq v7 w' => ∃ (x7_1 : Int) (x102000_1 : ByteArray) (x102001_1 : Int) (x102002_1 : Int) (x102003_1 : Int) (x102004_1 : Int), v7 = .int .i64 x7_1 ∧ Aside0 (agateref13_Find.l0 kq a0 a1 t102 x7_1 = some (r1, r2, r3, r4, r5, r6, r7)) ∧ Aside0 (kq ≤ k) ∧ Aside0 (Kd.N k72 72 w' w.heap.size (fun k_ => (w.heap.size ≤ k_) ∧ k_ ≠ gb101) v103 t102) ∧ Aside0 (w'.heap[gb101]? = some (.cells #[.string x102000_1, .int .i64 x102001_1, .int .i64 x102002_1, .int .i64 x102003_1, .int .i64 x102004_1, (.slice none 0 0)] 72 (0, 0))) ∧ Aside0 (Below w.heap.size w w'))
 case atStart => exact ⟨(0), ((⟨#[]⟩ : ByteArray)), (0), (0), (0), (0), (by first | rfl | (simp; done) | (simp [*]; done)), H', ⟨Nat.le_refl _⟩, ⟨by (with_reducible repeat (first | apply Kd.N_alloc | apply Kd.N_drewN | apply Kd.N_drew)); exact HO104.out⟩, ⟨bkA BK101⟩, ⟨hbA HB⟩⟩
 case round =>
  clear H'
  obtain ⟨x7_1, x102000_1, x102001_1, x102002_1, x102003_1, x102004_1, rfl, HA, HK1, HO_6, BK101, HB⟩ := hrel
  cases gk with
  | zero => exact absurd HA.out (by simp [agateref13_Find.l0])
  | succ k1 =>
   have H := HA.out; clear HA
   simp only [agateref13_Find.l0] at H
   by_cases c6 : x7_1 < (t102.length : Int)
   ·
    rw [if_pos c6] at H
    have c6b0 : decide (x7_1 < (t102.length : Int)) = true := decide_eq_true c6
    clear c6
    by_cases c7 : 0 ≤ x7_1
    ·
     rw [if_pos c7] at H
     have c7b0 : decide (0 ≤ x7_1) = true := decide_eq_true c7
     clear c7
     by_cases c8 : ((rd_T72 t102 x7_1).f0).toList = a0.toList
     ·
      rw [if_pos c8] at H
      have c8b0 : (((rd_T72 t102 x7_1).f0).toList == a0.toList) = true := beq_iff_eq.mpr c8
      have c8b1 : (((rd_T72 t102 x7_1).f0).toList != a0.toList) = false := bne_eq_false_iff_eq.mpr c8
      clear c8
      by_cases c9 : ((rd_T72 t102 x7_1).f1) ≤ a1
      ·
       rw [if_pos c9] at H
       have c9b0 : decide (((rd_T72 t102 x7_1).f1) ≤ a1) = true := decide_eq_true c9
       clear c9
       by_cases c10 : a1 ≤ ((rd_T72 t102 x7_1).f2)
       ·
        rw [if_pos c10] at H
        have c10b0 : decide (a1 ≤ ((rd_T72 t102 x7_1).f2)) = true := decide_eq_true c10
        clear c10
        simp only [Option.some.injEq, Prod.mk.injEq] at H
        obtain ⟨rfl, rfl, rfl, rfl, rfl, rfl, rfl⟩ := H
        obtain ⟨Ao11, co11, eo11⟩ := Kd.N_slice HO_6.out
        subst eo11
        have p105 : 0 ≤ (x7_1 : Int) := of_decide_eq_true (by first | (with_reducible assumption) | assumption)
        have q105 : x7_1 < (t102.length : Int) := of_decide_eq_true (by first | (with_reducible assumption) | assumption)
        obtain ⟨ad105, A105_5, c105_5, e105, hx105_0, hx105_1, hx105_2, hx105_3, hx105_4, hx105_5, hl105_5, hi105_5⟩ := at_T72 (Kd.N_reads' HO_6.out).2.2 x7_1 p105 q105
        cases e105
        obtain ⟨ce105, hce105, hMe105, hcc105⟩ := Kd.N_get HO_6.out z72 x7_1 p105 (by first | exact q105 | exact of_decide_eq_true (by first | (with_reducible assumption) | assumption) | (have e_ := (Kd.N_reads' HO_6.out).1; omega))
        obtain ⟨ua105_5, uc105_5, rfl, ul105_5, ge105_5⟩ := k72_openF hMe105
        have hv105_5 := hcc105 5 _ rfl
        rw [add_field _ _ 5 (by omega)] at hv105_5
        replace hv105_5 := Option.some.inj (hv105_5.symm.trans hx105_5)
        injection hv105_5 with hva_ hvn_ hvc_
        rw [hva_] at ge105_5
        rw [hvc_] at ul105_5
        have HL105_5 := Aside0.mk (show Kd.V k91 91 _ w.heap.size _ _ ((rd_T72 t102 x7_1).f5) from Kd.V_mk ul105_5 ge105_5)
        clear hva_ hvn_ hvc_ ge105_5 ul105_5; clear hcc105 hce105
        have HR105_5 := Aside0.mk hi105_5
        have HC105_5 := Aside0.mk hl105_5
        clear hi105_5 hl105_5
        replace p105 := eq_true p105
        replace q105 := eq_true q105
        have p106 : 0 ≤ (x7_1 : Int) := of_decide_eq_true (by first | (with_reducible assumption) | assumption)
        have q106 : x7_1 < (t102.length : Int) := of_decide_eq_true (by first | (with_reducible assumption) | assumption)
        obtain ⟨ad106, A106_5, c106_5, e106, hx106_0, hx106_1, hx106_2, hx106_3, hx106_4, hx106_5, hl106_5, hi106_5⟩ := at_T72 (Kd.N_reads' HO_6.out).2.2 x7_1 p106 q106
        obtain rfl : ad105 = ad106 := (by injection e106)
        obtain ⟨ce106, hce106, hMe106, hcc106⟩ := Kd.N_get HO_6.out z72 x7_1 p106 (by first | exact q106 | exact of_decide_eq_true (by first | (with_reducible assumption) | assumption) | (have e_ := (Kd.N_reads' HO_6.out).1; omega))
        obtain ⟨ua106_5, uc106_5, rfl, ul106_5, ge106_5⟩ := k72_openF hMe106
        have hv106_5 := hcc106 5 _ rfl
        rw [add_field _ _ 5 (by omega)] at hv106_5
        replace hv106_5 := Option.some.inj (hv106_5.symm.trans hx106_5)
        injection hv106_5 with hva_ hvn_ hvc_
        rw [hva_] at ge106_5
        rw [hvc_] at ul106_5
        have HL106_5 := Aside0.mk (show Kd.V k91 91 _ w.heap.size _ _ ((rd_T72 t102 x7_1).f5) from Kd.V_mk ul106_5 ge106_5)
        clear hva_ hvn_ hvc_ ge106_5 ul106_5; clear hcc106 hce106
        have HR106_5 := Aside0.mk hi106_5
        have HC106_5 := Aside0.mk hl106_5
        clear hi106_5 hl106_5
        replace p106 := eq_true p106
        replace q106 := eq_true q106
        have ea_ := Option.some.inj (hx105_5.symm.trans hx106_5)
        injection ea_ with ea_ en_ ec_
        subst ea_
        subst ec_
        clear en_
        have p107 : 0 ≤ (x7_1 : Int) := of_decide_eq_true (by first | (with_reducible assumption) | assumption)
        have q107 : x7_1 < (t102.length : Int) := of_decide_eq_true (by first | (with_reducible assumption) | assumption)
        obtain ⟨ad107, A107_5, c107_5, e107, hx107_0, hx107_1, hx107_2, hx107_3, hx107_4, hx107_5, hl107_5, hi107_5⟩ := at_T72 (Kd.N_reads' HO_6.out).2.2 x7_1 p107 q107
        obtain rfl : ad105 = ad107 := (by injection e107)
        obtain ⟨ce107, hce107, hMe107, hcc107⟩ := Kd.N_get HO_6.out z72 x7_1 p107 (by first | exact q107 | exact of_decide_eq_true (by first | (with_reducible assumption) | assumption) | (have e_ := (Kd.N_reads' HO_6.out).1; omega))
        obtain ⟨ua107_5, uc107_5, rfl, ul107_5, ge107_5⟩ := k72_openF hMe107
        have hv107_5 := hcc107 5 _ rfl
        rw [add_field _ _ 5 (by omega)] at hv107_5
        replace hv107_5 := Option.some.inj (hv107_5.symm.trans hx107_5)
        injection hv107_5 with hva_ hvn_ hvc_
        rw [hva_] at ge107_5
        rw [hvc_] at ul107_5
        have HL107_5 := Aside0.mk (show Kd.V k91 91 _ w.heap.size _ _ ((rd_T72 t102 x7_1).f5) from Kd.V_mk ul107_5 ge107_5)
        clear hva_ hvn_ hvc_ ge107_5 ul107_5; clear hcc107 hce107
        have HR107_5 := Aside0.mk hi107_5
        have HC107_5 := Aside0.mk hl107_5
        clear hi107_5 hl107_5
        replace p107 := eq_true p107
        replace q107 := eq_true q107
        have ea_ := Option.some.inj (hx105_5.symm.trans hx107_5)
        injection ea_ with ea_ en_ ec_
        subst ea_
        subst ec_
        clear en_
        have p108 : 0 ≤ (x7_1 : Int) := of_decide_eq_true (by first | (with_reducible assumption) | assumption)
        have q108 : x7_1 < (t102.length : Int) := of_decide_eq_true (by first | (with_reducible assumption) | assumption)
        obtain ⟨ad108, A108_5, c108_5, e108, hx108_0, hx108_1, hx108_2, hx108_3, hx108_4, hx108_5, hl108_5, hi108_5⟩ := at_T72 (Kd.N_reads' HO_6.out).2.2 x7_1 p108 q108
        obtain rfl : ad105 = ad108 := (by injection e108)
        obtain ⟨ce108, hce108, hMe108, hcc108⟩ := Kd.N_get HO_6.out z72 x7_1 p108 (by first | exact q108 | exact of_decide_eq_true (by first | (with_reducible assumption) | assumption) | (have e_ := (Kd.N_reads' HO_6.out).1; omega))
        obtain ⟨ua108_5, uc108_5, rfl, ul108_5, ge108_5⟩ := k72_openF hMe108
        have hv108_5 := hcc108 5 _ rfl
        rw [add_field _ _ 5 (by omega)] at hv108_5
        replace hv108_5 := Option.some.inj (hv108_5.symm.trans hx108_5)
        injection hv108_5 with hva_ hvn_ hvc_
        rw [hva_] at ge108_5
        rw [hvc_] at ul108_5
        have HL108_5 := Aside0.mk (show Kd.V k91 91 _ w.heap.size _ _ ((rd_T72 t102 x7_1).f5) from Kd.V_mk ul108_5 ge108_5)
        clear hva_ hvn_ hvc_ ge108_5 ul108_5; clear hcc108 hce108
        have HR108_5 := Aside0.mk hi108_5
        have HC108_5 := Aside0.mk hl108_5
        clear hi108_5 hl108_5
        replace p108 := eq_true p108
        replace q108 := eq_true q108
        have ea_ := Option.some.inj (hx105_5.symm.trans hx108_5)
        injection ea_ with ea_ en_ ec_
        subst ea_
        subst ec_
        clear en_; have hcz12_0 : wr.cell? ⟨gb101, 0, none⟩ = some (.string x102000_1) := bcA BK101 0; have hcz12_1 : wr.cell? ⟨gb101, 1, none⟩ = some (.int .i64 x102001_1) := bcA BK101 1; have hcz12_2 : wr.cell? ⟨gb101, 2, none⟩ = some (.int .i64 x102002_1) := bcA BK101 2; have hcz12_3 : wr.cell? ⟨gb101, 3, none⟩ = some (.int .i64 x102003_1) := bcA BK101 3; have hcz12_4 : wr.cell? ⟨gb101, 4, none⟩ = some (.int .i64 x102004_1) := bcA BK101 4; have hcz12_5 : wr.cell? ⟨gb101, 5, none⟩ = some (.slice none 0 0) := bcA BK101 5; have hfz12_0 := blk_frozen BK101.out 0; have hfz12_1 := blk_frozen BK101.out 1; have hfz12_2 := blk_frozen BK101.out 2; have hfz12_3 := blk_frozen BK101.out 3; have hfz12_4 := blk_frozen BK101.out 4; have hfz12_5 := blk_frozen BK101.out 5
        go_wp2
        refine bodyPost_ret (results_ct rfl _ _ gb101 72 #[.string ((rd_T72 t102 x7_1).f0), .int .i64 ((rd_T72 t102 x7_1).f1), .int .i64 ((rd_T72 t102 x7_1).f2), .int .i64 ((rd_T72 t102 x7_1).f3), .int .i64 ((rd_T72 t102 x7_1).f4), .slice A105_5 ((rd_T72 t102 x7_1).f5).length c105_5] (0, 0) _ rfl (by (with_reducible repeat (first | refine blk_drewN ?_ _ | refine blk_drew ?_ | refine blk_alloc ?_ _)); refine blk_put (cs := #[.string ((rd_T72 t102 x7_1).f0), .int .i64 ((rd_T72 t102 x7_1).f1), .int .i64 ((rd_T72 t102 x7_1).f2), .int .i64 ((rd_T72 t102 x7_1).f3), .int .i64 ((rd_T72 t102 x7_1).f4), .slice none 0 0]) ?_ 5 _ rfl; (with_reducible repeat (first | refine blk_drewN ?_ _ | refine blk_drew ?_ | refine blk_alloc ?_ _)); refine blk_put (cs := #[.string ((rd_T72 t102 x7_1).f0), .int .i64 ((rd_T72 t102 x7_1).f1), .int .i64 ((rd_T72 t102 x7_1).f2), .int .i64 ((rd_T72 t102 x7_1).f3), .int .i64 x102004_1, .slice none 0 0]) ?_ 4 _ rfl; (with_reducible repeat (first | refine blk_drewN ?_ _ | refine blk_drew ?_ | refine blk_alloc ?_ _)); refine blk_put (cs := #[.string ((rd_T72 t102 x7_1).f0), .int .i64 ((rd_T72 t102 x7_1).f1), .int .i64 ((rd_T72 t102 x7_1).f2), .int .i64 x102003_1, .int .i64 x102004_1, .slice none 0 0]) ?_ 3 _ rfl; (with_reducible repeat (first | refine blk_drewN ?_ _ | refine blk_drew ?_ | refine blk_alloc ?_ _)); refine blk_put (cs := #[.string ((rd_T72 t102 x7_1).f0), .int .i64 ((rd_T72 t102 x7_1).f1), .int .i64 x102002_1, .int .i64 x102003_1, .int .i64 x102004_1, .slice none 0 0]) ?_ 2 _ rfl; (with_reducible repeat (first | refine blk_drewN ?_ _ | refine blk_drew ?_ | refine blk_alloc ?_ _)); refine blk_put (cs := #[.string ((rd_T72 t102 x7_1).f0), .int .i64 x102001_1, .int .i64 x102002_1, .int .i64 x102003_1, .int .i64 x102004_1, .slice none 0 0]) ?_ 1 _ rfl; (with_reducible repeat (first | refine blk_drewN ?_ _ | refine blk_drew ?_ | refine blk_alloc ?_ _)); refine blk_put (cs := #[.string x102000_1, .int .i64 x102001_1, .int .i64 x102002_1, .int .i64 x102003_1, .int .i64 x102004_1, .slice none 0 0]) ?_ 0 _ rfl; (with_reducible repeat (first | refine blk_drewN ?_ _ | refine blk_drew ?_ | refine blk_alloc ?_ _)); exact BK101.out) Try.underlying72 rfl (by kernel_rfl)) rfl ?_
        exact ⟨_, by first | rfl | (simp [errW_none, errW_some] <;> rfl) | (simp [*, errW_none, errW_some] <;> rfl), by (with_reducible repeat (first | apply Kd.V_alloc | apply Kd.V_drewN | apply Kd.V_drew)); exact Kd.V_mono (Kd.V_far (p := ⟨gb101, 5, none⟩) (Kd.V_far (p := ⟨gb101, 4, none⟩) (Kd.V_far (p := ⟨gb101, 3, none⟩) (Kd.V_far (p := ⟨gb101, 2, none⟩) (Kd.V_far (p := ⟨gb101, 1, none⟩) (Kd.V_far (p := ⟨gb101, 0, none⟩) (Kd.V_mono HL108_5.out (fun k_ hk => (⟨hk, hk.1.2⟩ : _ ∧ k_ ≠ gb101))) (fun _ hk => hk.2) (.string ((rd_T72 t102 x7_1).f0))) (fun _ hk => hk.2) (.int .i64 ((rd_T72 t102 x7_1).f1))) (fun _ hk => hk.2) (.int .i64 ((rd_T72 t102 x7_1).f2))) (fun _ hk => hk.2) (.int .i64 ((rd_T72 t102 x7_1).f3))) (fun _ hk => hk.2) (.int .i64 ((rd_T72 t102 x7_1).f4))) (fun _ hk => hk.2) (.slice A105_5 ((rd_T72 t102 x7_1).f5).length c105_5)) (fun _ hk => hk.1.1.1), hbA HB⟩
       ·
        rw [if_neg c10] at H
        have c10b0 : decide (a1 ≤ ((rd_T72 t102 x7_1).f2)) = false := decide_eq_false c10
        clear c10
        have H' := Aside0.mk H
        clear H
        obtain ⟨Ao13, co13, eo13⟩ := Kd.N_slice HO_6.out
        subst eo13
        have p105 : 0 ≤ (x7_1 : Int) := of_decide_eq_true (by first | (with_reducible assumption) | assumption)
        have q105 : x7_1 < (t102.length : Int) := of_decide_eq_true (by first | (with_reducible assumption) | assumption)
        obtain ⟨ad105, A105_5, c105_5, e105, hx105_0, hx105_1, hx105_2, hx105_3, hx105_4, hx105_5, hl105_5, hi105_5⟩ := at_T72 (Kd.N_reads' HO_6.out).2.2 x7_1 p105 q105
        cases e105
        obtain ⟨ce105, hce105, hMe105, hcc105⟩ := Kd.N_get HO_6.out z72 x7_1 p105 (by first | exact q105 | exact of_decide_eq_true (by first | (with_reducible assumption) | assumption) | (have e_ := (Kd.N_reads' HO_6.out).1; omega))
        obtain ⟨ua105_5, uc105_5, rfl, ul105_5, ge105_5⟩ := k72_openF hMe105
        have hv105_5 := hcc105 5 _ rfl
        rw [add_field _ _ 5 (by omega)] at hv105_5
        replace hv105_5 := Option.some.inj (hv105_5.symm.trans hx105_5)
        injection hv105_5 with hva_ hvn_ hvc_
        rw [hva_] at ge105_5
        rw [hvc_] at ul105_5
        have HL105_5 := Aside0.mk (show Kd.V k91 91 _ w.heap.size _ _ ((rd_T72 t102 x7_1).f5) from Kd.V_mk ul105_5 ge105_5)
        clear hva_ hvn_ hvc_ ge105_5 ul105_5; clear hcc105 hce105
        have HR105_5 := Aside0.mk hi105_5
        have HC105_5 := Aside0.mk hl105_5
        clear hi105_5 hl105_5
        replace p105 := eq_true p105
        replace q105 := eq_true q105
        have p106 : 0 ≤ (x7_1 : Int) := of_decide_eq_true (by first | (with_reducible assumption) | assumption)
        have q106 : x7_1 < (t102.length : Int) := of_decide_eq_true (by first | (with_reducible assumption) | assumption)
        obtain ⟨ad106, A106_5, c106_5, e106, hx106_0, hx106_1, hx106_2, hx106_3, hx106_4, hx106_5, hl106_5, hi106_5⟩ := at_T72 (Kd.N_reads' HO_6.out).2.2 x7_1 p106 q106
        obtain rfl : ad105 = ad106 := (by injection e106)
        obtain ⟨ce106, hce106, hMe106, hcc106⟩ := Kd.N_get HO_6.out z72 x7_1 p106 (by first | exact q106 | exact of_decide_eq_true (by first | (with_reducible assumption) | assumption) | (have e_ := (Kd.N_reads' HO_6.out).1; omega))
        obtain ⟨ua106_5, uc106_5, rfl, ul106_5, ge106_5⟩ := k72_openF hMe106
        have hv106_5 := hcc106 5 _ rfl
        rw [add_field _ _ 5 (by omega)] at hv106_5
        replace hv106_5 := Option.some.inj (hv106_5.symm.trans hx106_5)
        injection hv106_5 with hva_ hvn_ hvc_
        rw [hva_] at ge106_5
        rw [hvc_] at ul106_5
        have HL106_5 := Aside0.mk (show Kd.V k91 91 _ w.heap.size _ _ ((rd_T72 t102 x7_1).f5) from Kd.V_mk ul106_5 ge106_5)
        clear hva_ hvn_ hvc_ ge106_5 ul106_5; clear hcc106 hce106
        have HR106_5 := Aside0.mk hi106_5
        have HC106_5 := Aside0.mk hl106_5
        clear hi106_5 hl106_5
        replace p106 := eq_true p106
        replace q106 := eq_true q106
        have ea_ := Option.some.inj (hx105_5.symm.trans hx106_5)
        injection ea_ with ea_ en_ ec_
        subst ea_
        subst ec_
        clear en_
        have p107 : 0 ≤ (x7_1 : Int) := of_decide_eq_true (by first | (with_reducible assumption) | assumption)
        have q107 : x7_1 < (t102.length : Int) := of_decide_eq_true (by first | (with_reducible assumption) | assumption)
        obtain ⟨ad107, A107_5, c107_5, e107, hx107_0, hx107_1, hx107_2, hx107_3, hx107_4, hx107_5, hl107_5, hi107_5⟩ := at_T72 (Kd.N_reads' HO_6.out).2.2 x7_1 p107 q107
        obtain rfl : ad105 = ad107 := (by injection e107)
        obtain ⟨ce107, hce107, hMe107, hcc107⟩ := Kd.N_get HO_6.out z72 x7_1 p107 (by first | exact q107 | exact of_decide_eq_true (by first | (with_reducible assumption) | assumption) | (have e_ := (Kd.N_reads' HO_6.out).1; omega))
        obtain ⟨ua107_5, uc107_5, rfl, ul107_5, ge107_5⟩ := k72_openF hMe107
        have hv107_5 := hcc107 5 _ rfl
        rw [add_field _ _ 5 (by omega)] at hv107_5
        replace hv107_5 := Option.some.inj (hv107_5.symm.trans hx107_5)
        injection hv107_5 with hva_ hvn_ hvc_
        rw [hva_] at ge107_5
        rw [hvc_] at ul107_5
        have HL107_5 := Aside0.mk (show Kd.V k91 91 _ w.heap.size _ _ ((rd_T72 t102 x7_1).f5) from Kd.V_mk ul107_5 ge107_5)
        clear hva_ hvn_ hvc_ ge107_5 ul107_5; clear hcc107 hce107
        have HR107_5 := Aside0.mk hi107_5
        have HC107_5 := Aside0.mk hl107_5
        clear hi107_5 hl107_5
        replace p107 := eq_true p107
        replace q107 := eq_true q107
        have ea_ := Option.some.inj (hx105_5.symm.trans hx107_5)
        injection ea_ with ea_ en_ ec_
        subst ea_
        subst ec_
        clear en_
        go_wp2
        go_roundg k1
        case measure => have := HK1.out; omega
        case rel => exact ⟨(wrap64 (x7_1 + 1)), (x102000_1), (x102001_1), (x102002_1), (x102003_1), (x102004_1), (by first | rfl | (simp; done) | (simp [*]; done)), H', ⟨by have := HK1.out; omega⟩, ⟨by (with_reducible repeat (first | apply Kd.N_alloc | apply Kd.N_drewN | apply Kd.N_drew)); exact HO_6.out⟩, ⟨bkA BK101⟩, ⟨hbA HB⟩⟩
      ·
       rw [if_neg c9] at H
       have c9b0 : decide (((rd_T72 t102 x7_1).f1) ≤ a1) = false := decide_eq_false c9
       clear c9
       have H' := Aside0.mk H
       clear H
       obtain ⟨Ao14, co14, eo14⟩ := Kd.N_slice HO_6.out
       subst eo14
       have p105 : 0 ≤ (x7_1 : Int) := of_decide_eq_true (by first | (with_reducible assumption) | assumption)
       have q105 : x7_1 < (t102.length : Int) := of_decide_eq_true (by first | (with_reducible assumption) | assumption)
       obtain ⟨ad105, A105_5, c105_5, e105, hx105_0, hx105_1, hx105_2, hx105_3, hx105_4, hx105_5, hl105_5, hi105_5⟩ := at_T72 (Kd.N_reads' HO_6.out).2.2 x7_1 p105 q105
       cases e105
       obtain ⟨ce105, hce105, hMe105, hcc105⟩ := Kd.N_get HO_6.out z72 x7_1 p105 (by first | exact q105 | exact of_decide_eq_true (by first | (with_reducible assumption) | assumption) | (have e_ := (Kd.N_reads' HO_6.out).1; omega))
       obtain ⟨ua105_5, uc105_5, rfl, ul105_5, ge105_5⟩ := k72_openF hMe105
       have hv105_5 := hcc105 5 _ rfl
       rw [add_field _ _ 5 (by omega)] at hv105_5
       replace hv105_5 := Option.some.inj (hv105_5.symm.trans hx105_5)
       injection hv105_5 with hva_ hvn_ hvc_
       rw [hva_] at ge105_5
       rw [hvc_] at ul105_5
       have HL105_5 := Aside0.mk (show Kd.V k91 91 _ w.heap.size _ _ ((rd_T72 t102 x7_1).f5) from Kd.V_mk ul105_5 ge105_5)
       clear hva_ hvn_ hvc_ ge105_5 ul105_5; clear hcc105 hce105
       have HR105_5 := Aside0.mk hi105_5
       have HC105_5 := Aside0.mk hl105_5
       clear hi105_5 hl105_5
       replace p105 := eq_true p105
       replace q105 := eq_true q105
       have p106 : 0 ≤ (x7_1 : Int) := of_decide_eq_true (by first | (with_reducible assumption) | assumption)
       have q106 : x7_1 < (t102.length : Int) := of_decide_eq_true (by first | (with_reducible assumption) | assumption)
       obtain ⟨ad106, A106_5, c106_5, e106, hx106_0, hx106_1, hx106_2, hx106_3, hx106_4, hx106_5, hl106_5, hi106_5⟩ := at_T72 (Kd.N_reads' HO_6.out).2.2 x7_1 p106 q106
       obtain rfl : ad105 = ad106 := (by injection e106)
       obtain ⟨ce106, hce106, hMe106, hcc106⟩ := Kd.N_get HO_6.out z72 x7_1 p106 (by first | exact q106 | exact of_decide_eq_true (by first | (with_reducible assumption) | assumption) | (have e_ := (Kd.N_reads' HO_6.out).1; omega))
       obtain ⟨ua106_5, uc106_5, rfl, ul106_5, ge106_5⟩ := k72_openF hMe106
       have hv106_5 := hcc106 5 _ rfl
       rw [add_field _ _ 5 (by omega)] at hv106_5
       replace hv106_5 := Option.some.inj (hv106_5.symm.trans hx106_5)
       injection hv106_5 with hva_ hvn_ hvc_
       rw [hva_] at ge106_5
       rw [hvc_] at ul106_5
       have HL106_5 := Aside0.mk (show Kd.V k91 91 _ w.heap.size _ _ ((rd_T72 t102 x7_1).f5) from Kd.V_mk ul106_5 ge106_5)
       clear hva_ hvn_ hvc_ ge106_5 ul106_5; clear hcc106 hce106
       have HR106_5 := Aside0.mk hi106_5
       have HC106_5 := Aside0.mk hl106_5
       clear hi106_5 hl106_5
       replace p106 := eq_true p106
       replace q106 := eq_true q106
       have ea_ := Option.some.inj (hx105_5.symm.trans hx106_5)
       injection ea_ with ea_ en_ ec_
       subst ea_
       subst ec_
       clear en_
       go_wp2
       go_roundg k1
       case measure => have := HK1.out; omega
       case rel => exact ⟨(wrap64 (x7_1 + 1)), (x102000_1), (x102001_1), (x102002_1), (x102003_1), (x102004_1), (by first | rfl | (simp; done) | (simp [*]; done)), H', ⟨by have := HK1.out; omega⟩, ⟨by (with_reducible repeat (first | apply Kd.N_alloc | apply Kd.N_drewN | apply Kd.N_drew)); exact HO_6.out⟩, ⟨bkA BK101⟩, ⟨hbA HB⟩⟩
     ·
      rw [if_neg c8] at H
      have c8b0 : (((rd_T72 t102 x7_1).f0).toList == a0.toList) = false := beq_eq_false_iff_ne.mpr c8
      have c8b1 : (((rd_T72 t102 x7_1).f0).toList != a0.toList) = true := bne_iff_ne.mpr c8
      have H' := Aside0.mk H
      clear H
      obtain ⟨Ao15, co15, eo15⟩ := Kd.N_slice HO_6.out
      subst eo15
      have p105 : 0 ≤ (x7_1 : Int) := of_decide_eq_true (by first | (with_reducible assumption) | assumption)
      have q105 : x7_1 < (t102.length : Int) := of_decide_eq_true (by first | (with_reducible assumption) | assumption)
      obtain ⟨ad105, A105_5, c105_5, e105, hx105_0, hx105_1, hx105_2, hx105_3, hx105_4, hx105_5, hl105_5, hi105_5⟩ := at_T72 (Kd.N_reads' HO_6.out).2.2 x7_1 p105 q105
      cases e105
      obtain ⟨ce105, hce105, hMe105, hcc105⟩ := Kd.N_get HO_6.out z72 x7_1 p105 (by first | exact q105 | exact of_decide_eq_true (by first | (with_reducible assumption) | assumption) | (have e_ := (Kd.N_reads' HO_6.out).1; omega))
      obtain ⟨ua105_5, uc105_5, rfl, ul105_5, ge105_5⟩ := k72_openF hMe105
      have hv105_5 := hcc105 5 _ rfl
      rw [add_field _ _ 5 (by omega)] at hv105_5
      replace hv105_5 := Option.some.inj (hv105_5.symm.trans hx105_5)
      injection hv105_5 with hva_ hvn_ hvc_
      rw [hva_] at ge105_5
      rw [hvc_] at ul105_5
      have HL105_5 := Aside0.mk (show Kd.V k91 91 _ w.heap.size _ _ ((rd_T72 t102 x7_1).f5) from Kd.V_mk ul105_5 ge105_5)
      clear hva_ hvn_ hvc_ ge105_5 ul105_5; clear hcc105 hce105
      have HR105_5 := Aside0.mk hi105_5
      have HC105_5 := Aside0.mk hl105_5
      clear hi105_5 hl105_5
      replace p105 := eq_true p105
      replace q105 := eq_true q105
      go_wp2
      go_roundg k1
      case measure => have := HK1.out; omega
      case rel => exact ⟨(wrap64 (x7_1 + 1)), (x102000_1), (x102001_1), (x102002_1), (x102003_1), (x102004_1), (by first | rfl | (simp; done) | (simp [*]; done)), H', ⟨by have := HK1.out; omega⟩, ⟨by (with_reducible repeat (first | apply Kd.N_alloc | apply Kd.N_drewN | apply Kd.N_drew)); exact HO_6.out⟩, ⟨bkA BK101⟩, ⟨hbA HB⟩⟩
    ·
     rw [if_neg c7] at H
     exact absurd H (by simp)
   ·
    rw [if_neg c6] at H
    have c6b0 : decide (x7_1 < (t102.length : Int)) = false := decide_eq_false c6
    clear c6
    simp only [Option.some.injEq, Prod.mk.injEq] at H
    obtain ⟨rfl, rfl, rfl, rfl, rfl, rfl, rfl⟩ := H
    obtain ⟨Ao16, co16, eo16⟩ := Kd.N_slice HO_6.out
    subst eo16
    have hcz17_0 : wr.cell? ⟨gb101, 0, none⟩ = some (.string x102000_1) := bcA BK101 0; have hcz17_1 : wr.cell? ⟨gb101, 1, none⟩ = some (.int .i64 x102001_1) := bcA BK101 1; have hcz17_2 : wr.cell? ⟨gb101, 2, none⟩ = some (.int .i64 x102002_1) := bcA BK101 2; have hcz17_3 : wr.cell? ⟨gb101, 3, none⟩ = some (.int .i64 x102003_1) := bcA BK101 3; have hcz17_4 : wr.cell? ⟨gb101, 4, none⟩ = some (.int .i64 x102004_1) := bcA BK101 4; have hcz17_5 : wr.cell? ⟨gb101, 5, none⟩ = some (.slice none 0 0) := bcA BK101 5; have hfz17_0 := blk_frozen BK101.out 0; have hfz17_1 := blk_frozen BK101.out 1; have hfz17_2 := blk_frozen BK101.out 2; have hfz17_3 := blk_frozen BK101.out 3; have hfz17_4 := blk_frozen BK101.out 4; have hfz17_5 := blk_frozen BK101.out 5
    go_wp2
    refine bodyPost_ret (results_ct rfl _ _ gb101 72 #[.string (⟨#[]⟩ : ByteArray), .int .i64 0, .int .i64 0, .int .i64 0, .int .i64 0, .slice none 0 0] (0, 0) _ rfl (by (with_reducible repeat (first | refine blk_drewN ?_ _ | refine blk_drew ?_ | refine blk_alloc ?_ _)); refine blk_put (cs := #[.string (⟨#[]⟩ : ByteArray), .int .i64 0, .int .i64 0, .int .i64 0, .int .i64 0, .slice none 0 0]) ?_ 5 _ rfl; (with_reducible repeat (first | refine blk_drewN ?_ _ | refine blk_drew ?_ | refine blk_alloc ?_ _)); refine blk_put (cs := #[.string (⟨#[]⟩ : ByteArray), .int .i64 0, .int .i64 0, .int .i64 0, .int .i64 x102004_1, .slice none 0 0]) ?_ 4 _ rfl; (with_reducible repeat (first | refine blk_drewN ?_ _ | refine blk_drew ?_ | refine blk_alloc ?_ _)); refine blk_put (cs := #[.string (⟨#[]⟩ : ByteArray), .int .i64 0, .int .i64 0, .int .i64 x102003_1, .int .i64 x102004_1, .slice none 0 0]) ?_ 3 _ rfl; (with_reducible repeat (first | refine blk_drewN ?_ _ | refine blk_drew ?_ | refine blk_alloc ?_ _)); refine blk_put (cs := #[.string (⟨#[]⟩ : ByteArray), .int .i64 0, .int .i64 x102002_1, .int .i64 x102003_1, .int .i64 x102004_1, .slice none 0 0]) ?_ 2 _ rfl; (with_reducible repeat (first | refine blk_drewN ?_ _ | refine blk_drew ?_ | refine blk_alloc ?_ _)); refine blk_put (cs := #[.string (⟨#[]⟩ : ByteArray), .int .i64 x102001_1, .int .i64 x102002_1, .int .i64 x102003_1, .int .i64 x102004_1, .slice none 0 0]) ?_ 1 _ rfl; (with_reducible repeat (first | refine blk_drewN ?_ _ | refine blk_drew ?_ | refine blk_alloc ?_ _)); refine blk_put (cs := #[.string x102000_1, .int .i64 x102001_1, .int .i64 x102002_1, .int .i64 x102003_1, .int .i64 x102004_1, .slice none 0 0]) ?_ 0 _ rfl; (with_reducible repeat (first | refine blk_drewN ?_ _ | refine blk_drew ?_ | refine blk_alloc ?_ _)); exact BK101.out) Try.underlying72 rfl (by kernel_rfl)) rfl ?_
    exact ⟨_, by first | rfl | (simp [errW_none, errW_some] <;> rfl) | (simp [*, errW_none, errW_some] <;> rfl), Kd.V_nil _ _ _ _ _, hbA HB⟩
end Go.Proofs.Ytdemgfbolcmcdaa.X
namespace Go.Proofs.Ytdemgfbolcmcdaa.X
open Go.RowKit Go.Proofs.YtdemgfbolcmcdaaW.PrintWords Go.Proofs.YtdemgfbolcmcdaaW.PrintLast Go.Proofs.YtdemgfbolcmcdaaW.PrintMore
attribute [local go_sem] max2_int min2_int max_two min_two max_three min_three max_four min_four
set_option linter.unusedVariables false
set_option linter.unusedSimpArgs false
mutual
def agateref13_Check.j0 : Nat → Int → Bool → ByteArray → List ByteArray → ByteArray → List (S47) → Option (Int)
 | 0, _, _, _, _, _, _ => none
 | k + 1, x1, x16, x102000, x102001, x102002, x102003 => if x16 = true then (some 16) else ((agateref13_Find.f k x102000 x1).bind fun bt102 => (if bt102.2.2.2.2.2.2 = true then (if (x102001.length : Int) < bt102.2.2.2.1 then (agateref13_Check.j1 k true x102000 x102001 x102002 x102003 bt102.1 bt102.2.1 bt102.2.2.1 bt102.2.2.2.1 bt102.2.2.2.2.1 bt102.2.2.2.2.2.1) else (agateref13_Check.j1 k (decide ((x102001.length : Int) > bt102.2.2.2.2.1)) x102000 x102001 x102002 x102003 bt102.1 bt102.2.1 bt102.2.2.1 bt102.2.2.2.1 bt102.2.2.2.2.1 bt102.2.2.2.2.2.1)) else (some 10)))
def agateref13_Check.j1 : Nat → Bool → ByteArray → List ByteArray → ByteArray → List (S47) → ByteArray → Int → Int → Int → Int → List (S91) → Option (Int)
 | 0, _, _, _, _, _, _, _, _, _, _, _ => none
 | k + 1, x39, x102000, x102001, x102002, x102003, x112000, x112001, x112002, x112003, x112004, x112005 => if x39 = true then (some 11) else (agateref13_Check.l0 k 0 x102000 x102001 x102002 x102003 x112000 x112001 x112002 x112003 x112004 x112005)
def agateref13_Check.l0 : Nat → Int → ByteArray → List ByteArray → ByteArray → List (S47) → ByteArray → Int → Int → Int → Int → List (S91) → Option (Int)
 | 0, _, _, _, _, _, _, _, _, _, _, _ => none
 | k + 1, x7, x102000, x102001, x102002, x102003, x112000, x112001, x112002, x112003, x112004, x112005 => if x7 < (x102003.length : Int) then (agateref13_Check.l1 k x7 false 0 x102000 x102001 x102002 x102003 x112000 x112001 x112002 x112003 x112004 x112005) else (agateref13_Check.l2 k 0 x102000 x102001 x102002 x102003 x112000 x112001 x112002 x112003 x112004 x112005)
def agateref13_Check.l1 : Nat → Int → Bool → Int → ByteArray → List ByteArray → ByteArray → List (S47) → ByteArray → Int → Int → Int → Int → List (S91) → Option (Int)
 | 0, _, _, _, _, _, _, _, _, _, _, _, _, _ => none
 | k + 1, x7, x8, x9, x102000, x102001, x102002, x102003, x112000, x112001, x112002, x112003, x112004, x112005 => if x9 < (x112005.length : Int) then (if x8 = true then (agateref13_Check.l1 k x7 true (wrap64 (x9 + 1)) x102000 x102001 x102002 x102003 x112000 x112001 x112002 x112003 x112004 x112005) else (if 0 ≤ x9 then (if 0 ≤ x7 then (if x7 < (x102003.length : Int) then (if ((rd_T91 x112005 x9).f0).toList = ((rd_T47 x102003 x7).f0).toList then (agateref13_Check.l1 k x7 (((rd_T91 x112005 x9).f1) == ((rd_T47 x102003 x7).f1)) (wrap64 (x9 + 1)) x102000 x102001 x102002 x102003 x112000 x112001 x112002 x112003 x112004 x112005) else (agateref13_Check.l1 k x7 false (wrap64 (x9 + 1)) x102000 x102001 x102002 x102003 x112000 x112001 x112002 x112003 x112004 x112005)) else (none)) else (none)) else (none))) else (if x8 = true then (if 0 ≤ x7 then (if x7 < (x102003.length : Int) then ((agateref10_Find.f k x102003 ((rd_T47 x102003 x7).f0)).bind fun t117 => (if t117 < x7 then (some 14) else (agateref13_Check.l0 k (wrap64 (x7 + 1)) x102000 x102001 x102002 x102003 x112000 x112001 x112002 x112003 x112004 x112005))) else (none)) else (none)) else (some 12))
def agateref13_Check.l2 : Nat → Int → ByteArray → List ByteArray → ByteArray → List (S47) → ByteArray → Int → Int → Int → Int → List (S91) → Option (Int)
 | 0, _, _, _, _, _, _, _, _, _, _, _ => none
 | k + 1, x10, x102000, x102001, x102002, x102003, x112000, x112001, x112002, x112003, x112004, x112005 => if x10 < (x112005.length : Int) then (if 0 ≤ x10 then (if (rd_T91 x112005 x10).f2 = true then ((agateref10_Find.f k x102003 ((rd_T91 x112005 x10).f0)).bind fun t120 => (if t120 < 0 then (some 12) else (agateref13_Check.l2 k (wrap64 (x10 + 1)) x102000 x102001 x102002 x102003 x112000 x112001 x112002 x112003 x112004 x112005))) else (agateref13_Check.l2 k (wrap64 (x10 + 1)) x102000 x102001 x102002 x102003 x112000 x112001 x112002 x112003 x112004 x112005)) else (none)) else (some 0)
end
def agateref13_Check.f (k : Nat) (a0_0 : ByteArray) (l0_1 : List ByteArray) (a0_2 : ByteArray) (l0_3 : List (S47)) (a1 : Int) : Option (Int) := if a1 < 9 then (agateref13_Check.j0 k a1 true a0_0 l0_1 a0_2 l0_3) else (agateref13_Check.j0 k a1 (decide (a1 > 13)) a0_0 l0_1 a0_2 l0_3)
attribute [local irreducible] Calls
set_option maxHeartbeats 8000000 in
set_option maxRecDepth 100000 in
theorem agateref13_Check.calls (k : Nat) (a0_0 : ByteArray) (A0_1 : Option Addr) (c0_1 : Nat) (l0_1 : List ByteArray) (a0_2 : ByteArray) (A0_3 : Option Addr) (c0_3 : Nat) (l0_3 : List (S47)) (a1 : Int) (r : Int) (w : World) (hr0_1 : Kd.C Kd.string w A0_1 l0_1.length l0_1) (hc0_1 : l0_1.length ≤ c0_1) (hr0_3 : Kd.C k47 w A0_3 l0_3.length l0_3) (hc0_3 : l0_3.length ≤ c0_3) (h : agateref13_Check.f k a0_0 l0_1 a0_2 l0_3 a1 = some r) :
  Calls Try.prog 31 #[.agg #[.string a0_0, .slice A0_1 l0_1.length c0_1, .string a0_2, .slice A0_3 l0_3.length c0_3], .int .i64 a1] w fun e w' => e = .returned (.int .i64 r) ∧ Below w.heap.size w w' := by
 have hu41 := Try.underlying41
 have hu72 := Try.underlying72
 have HR0_1 := Aside0.mk hr0_1
 have HC0_1 := Aside0.mk hc0_1
 clear hr0_1 hc0_1
 have HR0_3 := Aside0.mk hr0_3
 have HC0_3 := Aside0.mk hc0_3
 clear hr0_3 hc0_3
 have HB := Aside0.mk (Below.refl w.heap.size w)
 have H : (if a1 < 9 then (agateref13_Check.j0 k a1 true a0_0 l0_1 a0_2 l0_3) else (agateref13_Check.j0 k a1 (decide (a1 > 13)) a0_0 l0_1 a0_2 l0_3)) = some r := h
 clear h
 have HC3 := Aside0.mk H
 clear H
 go_enter Try.func31, Try.ntmps31
 go_upto_region 1 with (first | ((with_reducible refine gate_dst (N := 2) rfl ?_); (try (refine gate_guard (by rfl) ?_; dsimp only)); refine box_event ?hg (N := 2) ?hd (cs := #[.string a0_0, .slice A0_1 l0_1.length c0_1, .string a0_2, .slice A0_3 l0_3.length c0_3]) (t := 41) ?hr ?_; (case hd => rfl); (case hg => rfl); (case hr => first | (go_simp; done) | (go_simp; rfl)); intro gb101 hg w4 hbox hb; have n0_ := Aside0.mk (below_step (hbA HB) hb); have n1_ := Aside0.mk (hbox); have n2_ := Aside0.mk ((by rw [hg]; exact (below_size (hbA HB)) : w.heap.size ≤ gb101)); have n3_ := Aside0.mk ((by rw [hg]; exact (below_size (hbA HB)) : w.heap.size ≤ gb101)); clear HB; have HB := n0_; have BK101 := n1_; have GW101 := n2_; have GE101 := n3_; clear n0_ n1_ n2_ n3_; clear hb hbox hg))
 repeat (go_quiet (first | ((with_reducible refine gate_dst (N := 2) rfl ?_); (try (refine gate_guard (by rfl) ?_; dsimp only)); refine box_event ?hg (N := 2) ?hd (cs := #[.string a0_0, .slice A0_1 l0_1.length c0_1, .string a0_2, .slice A0_3 l0_3.length c0_3]) (t := 41) ?hr ?_; (case hd => rfl); (case hg => rfl); (case hr => first | (go_simp; done) | (go_simp; rfl)); intro gb101 hg w4 hbox hb; have n0_ := Aside0.mk (below_step (hbA HB) hb); have n1_ := Aside0.mk (hbox); have n2_ := Aside0.mk ((by rw [hg]; exact (below_size (hbA HB)) : w.heap.size ≤ gb101)); have n3_ := Aside0.mk ((by rw [hg]; exact (below_size (hbA HB)) : w.heap.size ≤ gb101)); clear HB; have HB := n0_; have BK101 := n1_; have GW101 := n2_; have GE101 := n3_; clear n0_ n1_ n2_ n3_; clear hb hbox hg)); go_upto_region 1 with (first | ((with_reducible refine gate_dst (N := 2) rfl ?_); (try (refine gate_guard (by rfl) ?_; dsimp only)); refine box_event ?hg (N := 2) ?hd (cs := #[.string a0_0, .slice A0_1 l0_1.length c0_1, .string a0_2, .slice A0_3 l0_3.length c0_3]) (t := 41) ?hr ?_; (case hd => rfl); (case hg => rfl); (case hr => first | (go_simp; done) | (go_simp; rfl)); intro gb101 hg w4 hbox hb; have n0_ := Aside0.mk (below_step (hbA HB) hb); have n1_ := Aside0.mk (hbox); have n2_ := Aside0.mk ((by rw [hg]; exact (below_size (hbA HB)) : w.heap.size ≤ gb101)); have n3_ := Aside0.mk ((by rw [hg]; exact (below_size (hbA HB)) : w.heap.size ≤ gb101)); clear HB; have HB := n0_; have BK101 := n1_; have GW101 := n2_; have GE101 := n3_; clear n0_ n1_ n2_ n3_; clear hb hbox hg)))
 (try simp only [Act.put, List.setIfInBounds_toArray, List.set_cons_zero, List.set_cons_succ])
 go_cut [16] (fun v16 wc => ∃ (kq : Nat) (x16_2 : Bool), v16 = .bool x16_2 ∧ Aside0 (agateref13_Check.j0 kq a1 x16_2 a0_0 l0_1 a0_2 l0_3 = some r) ∧ Aside0 (kq ≤ k) ∧ Aside0 (wc.heap[gb101]? = some (.cells #[.string a0_0, (.slice A0_1 l0_1.length c0_1), .string a0_2, (.slice A0_3 l0_3.length c0_3)] 41 (0, 0))) ∧ Aside0 (Below w.heap.size w wc))
 case first =>
  have H := HC3.out; clear HC3
  by_cases c5 : a1 < 9
  ·
   rw [if_pos c5] at H
   have c5b0 : decide (a1 < 9) = true := decide_eq_true c5
   clear c5
   (first | rw [c5b0] | (simp only [i64_w, i32_w]; rw [c5b0]) | skip)
   have H' := Aside0.mk H
   clear H
   go_wp2
   repeat (go_quiet (fail); try go_wp2)
   go_meet
   case rel => exact ⟨_, (true), (by first | rfl | (simp; done) | (simp [*]; done)), H', ⟨by first | omega | exact Nat.le_refl _⟩, ⟨bkA BK101⟩, ⟨hbA HB⟩⟩
  ·
   rw [if_neg c5] at H
   have c5b0 : decide (a1 < 9) = false := decide_eq_false c5
   clear c5
   (first | rw [c5b0] | (simp only [i64_w, i32_w]; rw [c5b0]) | skip)
   have H' := Aside0.mk H
   clear H
   go_wp2
   repeat (go_quiet (fail); try go_wp2)
   go_meet
   case rel => exact ⟨_, (decide (a1 > 13)), (by first | rfl | (simp; done) | (simp [*]; done)), H', ⟨by first | omega | exact Nat.le_refl _⟩, ⟨bkA BK101⟩, ⟨hbA HB⟩⟩
 case rest =>
  clear HC3; try clear c5; try clear c5b0
  obtain ⟨kq, x16_2, rfl, HA, HJ2, BK101, HB⟩ := hcut
  cases kq with
  | zero => exact absurd HA.out (by simp [agateref13_Check.j0])
  | succ kj2 =>
   have H := HA.out; clear HA
   simp only [agateref13_Check.j0] at H
   by_cases c6 : x16_2 = true
   ·
    subst c6
    have H1 : (some 16) = some r := by rw [if_pos rfl] at H; exact H
    clear H
    have H := H1
    clear H1
    obtain rfl := Option.some.inj H
    go_wp2
    repeat (go_quiet (fail); try go_wp2)
    go_ret
    exact ⟨by first | rfl | (simp [errW_none, errW_some] <;> rfl) | (simp [*, errW_none, errW_some] <;> rfl), hbA HB⟩
   ·
    replace c6 := Bool.eq_false_iff.mpr c6
    subst c6
    have H1 : ((agateref13_Find.f kj2 a0_0 a1).bind fun bt102 => (if bt102.2.2.2.2.2.2 = true then (if (l0_1.length : Int) < bt102.2.2.2.1 then (agateref13_Check.j1 kj2 true a0_0 l0_1 a0_2 l0_3 bt102.1 bt102.2.1 bt102.2.2.1 bt102.2.2.2.1 bt102.2.2.2.2.1 bt102.2.2.2.2.2.1) else (agateref13_Check.j1 kj2 (decide ((l0_1.length : Int) > bt102.2.2.2.2.1)) a0_0 l0_1 a0_2 l0_3 bt102.1 bt102.2.1 bt102.2.2.1 bt102.2.2.2.1 bt102.2.2.2.2.1 bt102.2.2.2.2.2.1)) else (some 10))) = some r := by rw [if_neg (show ¬ (false = true) by decide)] at H; exact H
    clear H
    have H := H1
    clear H1
    replace H := Option.bind_eq_some_iff.mp H
    obtain ⟨⟨t102, t103, t104, t105, t106, t107, t110⟩, A70, H⟩ := H
    replace H : (if t110 = true then (if (l0_1.length : Int) < t105 then (agateref13_Check.j1 kj2 true a0_0 l0_1 a0_2 l0_3 t102 t103 t104 t105 t106 t107) else (agateref13_Check.j1 kj2 (decide ((l0_1.length : Int) > t106)) a0_0 l0_1 a0_2 l0_3 t102 t103 t104 t105 t106 t107)) else (some 10)) = some r := H
    have A7 := Aside0.mk A70
    clear A70
    by_cases c8 : t110 = true
    ·
     subst c8
     have H1 : (if (l0_1.length : Int) < t105 then (agateref13_Check.j1 kj2 true a0_0 l0_1 a0_2 l0_3 t102 t103 t104 t105 t106 t107) else (agateref13_Check.j1 kj2 (decide ((l0_1.length : Int) > t106)) a0_0 l0_1 a0_2 l0_3 t102 t103 t104 t105 t106 t107)) = some r := by rw [if_pos rfl] at H; exact H
     clear H
     have H := H1
     clear H1
     have HC9 := Aside0.mk H
     clear H; have hcz10_0 : wc.cell? ⟨gb101, 0, none⟩ = some (.string a0_0) := bcA BK101 0; have hcz10_1 : wc.cell? ⟨gb101, 1, none⟩ = some (.slice A0_1 l0_1.length c0_1) := bcA BK101 1; have hcz10_2 : wc.cell? ⟨gb101, 2, none⟩ = some (.string a0_2) := bcA BK101 2; have hcz10_3 : wc.cell? ⟨gb101, 3, none⟩ = some (.slice A0_3 l0_3.length c0_3) := bcA BK101 3; have hfz10_0 := blk_frozen BK101.out 0; have hfz10_1 := blk_frozen BK101.out 1; have hfz10_2 := blk_frozen BK101.out 2; have hfz10_3 := blk_frozen BK101.out 3
     go_upto_region 6 with (first | (go_at_call 25; (with_reducible refine (agateref13_Find.calls kj2 a0_0 a1 t102 t103 t104 t105 t106 t107 true _ A7.out).mono ?_); rintro e w11 ⟨v108, rfl, ho0, hb⟩; have n0_ := Aside0.mk (Kd.V_lower (Kd.V_mono (ok' := fun k_ => k_ ≠ gb101) ho0 (fun k_ hk_ => (Kd.freshB (g := gb101) (bkA BK101) k_ hk_))) (below_size (hbA HB))); have n1_ := Aside0.mk (blk_below (g := gb101) (bkA BK101) hb); have n2_ := Aside0.mk (below_step (hbA HB) hb); clear BK101; clear HB; have HO109 := n0_; have BK101 := n1_; have HB := n2_; clear n0_ n1_ n2_; (try clear hb); (try clear hb2); (try clear hk); (try clear hi); (try clear ho0)) | ((with_reducible refine gate_dst (N := 5) rfl ?_); (try (refine gate_guard (by rfl) ?_; dsimp only)); refine box_event ?hg (N := 5) ?hd (cs := #[.string (⟨#[]⟩ : ByteArray), .int .i64 0, .int .i64 0, .int .i64 0, .int .i64 0, .slice none 0 0]) (t := 72) ?hr ?_; (case hd => rfl); (case hg => rfl); (case hr => first | (go_simp; done) | (go_simp; rfl)); intro gb111 hg w12 hbox hb; have n0_ := Aside0.mk (Kd.V_below (Kd.V_elderB (by (with_reducible repeat (first | apply Kd.V_alloc | apply Kd.V_drewN | apply Kd.V_drew)); exact HO109.out) gb111 (Nat.le_of_eq hg.symm)) hb); have n1_ := Aside0.mk (blk_below (g := gb101) (bkA BK101) hb); have n2_ := Aside0.mk (below_step (hbA HB) hb); have n3_ := Aside0.mk (hbox); have n4_ := Aside0.mk ((by rw [hg]; exact (below_size (hbA HB)) : w.heap.size ≤ gb111)); have n5_ := Aside0.mk ((by rw [hg]; exact (below_size (hbA HB)) : w.heap.size ≤ gb111)); have n6_ := Aside0.mk ((by rw [hg]; exact Nat.ne_of_lt (blk_lt (g := gb101) (bkA BK101)) : gb101 ≠ gb111)); have n7_ := Aside0.mk ((by rw [hg]; exact Nat.ne_of_gt (blk_lt (g := gb101) (bkA BK101)) : gb111 ≠ gb101)); clear HO109; clear BK101; clear HB; have HO109 := n0_; have BK101 := n1_; have HB := n2_; have BK111 := n3_; have GW111 := n4_; have GE111 := n5_; have NB101_111 := n6_; have NB111_101 := n7_; clear n0_ n1_ n2_ n3_ n4_ n5_ n6_ n7_; clear hb hbox hg; have hnb13 := NB111_101.out; have hnc13 := NB101_111.out; have hcz14_0 : w12.cell? ⟨gb111, 0, none⟩ = some (.string (⟨#[]⟩ : ByteArray)) := bcA BK111 0; have hcz14_1 : w12.cell? ⟨gb111, 1, none⟩ = some (.int .i64 0) := bcA BK111 1; have hcz14_2 : w12.cell? ⟨gb111, 2, none⟩ = some (.int .i64 0) := bcA BK111 2; have hcz14_3 : w12.cell? ⟨gb111, 3, none⟩ = some (.int .i64 0) := bcA BK111 3; have hcz14_4 : w12.cell? ⟨gb111, 4, none⟩ = some (.int .i64 0) := bcA BK111 4; have hcz14_5 : w12.cell? ⟨gb111, 5, none⟩ = some (.slice none 0 0) := bcA BK111 5; have hfz14_0 := blk_frozen BK111.out 0; have hfz14_1 := blk_frozen BK111.out 1; have hfz14_2 := blk_frozen BK111.out 2; have hfz14_3 := blk_frozen BK111.out 3; have hfz14_4 := blk_frozen BK111.out 4; have hfz14_5 := blk_frozen BK111.out 5; obtain ⟨Ao15, co15, eo15⟩ := Kd.V_slice HO109.out; subst eo15))
     repeat (go_quiet (first | (go_at_call 25; (with_reducible refine (agateref13_Find.calls kj2 a0_0 a1 t102 t103 t104 t105 t106 t107 true _ A7.out).mono ?_); rintro e w11 ⟨v108, rfl, ho0, hb⟩; have n0_ := Aside0.mk (Kd.V_lower (Kd.V_mono (ok' := fun k_ => k_ ≠ gb101) ho0 (fun k_ hk_ => (Kd.freshB (g := gb101) (bkA BK101) k_ hk_))) (below_size (hbA HB))); have n1_ := Aside0.mk (blk_below (g := gb101) (bkA BK101) hb); have n2_ := Aside0.mk (below_step (hbA HB) hb); clear BK101; clear HB; have HO109 := n0_; have BK101 := n1_; have HB := n2_; clear n0_ n1_ n2_; (try clear hb); (try clear hb2); (try clear hk); (try clear hi); (try clear ho0)) | ((with_reducible refine gate_dst (N := 5) rfl ?_); (try (refine gate_guard (by rfl) ?_; dsimp only)); refine box_event ?hg (N := 5) ?hd (cs := #[.string (⟨#[]⟩ : ByteArray), .int .i64 0, .int .i64 0, .int .i64 0, .int .i64 0, .slice none 0 0]) (t := 72) ?hr ?_; (case hd => rfl); (case hg => rfl); (case hr => first | (go_simp; done) | (go_simp; rfl)); intro gb111 hg w12 hbox hb; have n0_ := Aside0.mk (Kd.V_below (Kd.V_elderB (by (with_reducible repeat (first | apply Kd.V_alloc | apply Kd.V_drewN | apply Kd.V_drew)); exact HO109.out) gb111 (Nat.le_of_eq hg.symm)) hb); have n1_ := Aside0.mk (blk_below (g := gb101) (bkA BK101) hb); have n2_ := Aside0.mk (below_step (hbA HB) hb); have n3_ := Aside0.mk (hbox); have n4_ := Aside0.mk ((by rw [hg]; exact (below_size (hbA HB)) : w.heap.size ≤ gb111)); have n5_ := Aside0.mk ((by rw [hg]; exact (below_size (hbA HB)) : w.heap.size ≤ gb111)); have n6_ := Aside0.mk ((by rw [hg]; exact Nat.ne_of_lt (blk_lt (g := gb101) (bkA BK101)) : gb101 ≠ gb111)); have n7_ := Aside0.mk ((by rw [hg]; exact Nat.ne_of_gt (blk_lt (g := gb101) (bkA BK101)) : gb111 ≠ gb101)); clear HO109; clear BK101; clear HB; have HO109 := n0_; have BK101 := n1_; have HB := n2_; have BK111 := n3_; have GW111 := n4_; have GE111 := n5_; have NB101_111 := n6_; have NB111_101 := n7_; clear n0_ n1_ n2_ n3_ n4_ n5_ n6_ n7_; clear hb hbox hg; have hnb13 := NB111_101.out; have hnc13 := NB101_111.out; have hcz14_0 : w12.cell? ⟨gb111, 0, none⟩ = some (.string (⟨#[]⟩ : ByteArray)) := bcA BK111 0; have hcz14_1 : w12.cell? ⟨gb111, 1, none⟩ = some (.int .i64 0) := bcA BK111 1; have hcz14_2 : w12.cell? ⟨gb111, 2, none⟩ = some (.int .i64 0) := bcA BK111 2; have hcz14_3 : w12.cell? ⟨gb111, 3, none⟩ = some (.int .i64 0) := bcA BK111 3; have hcz14_4 : w12.cell? ⟨gb111, 4, none⟩ = some (.int .i64 0) := bcA BK111 4; have hcz14_5 : w12.cell? ⟨gb111, 5, none⟩ = some (.slice none 0 0) := bcA BK111 5; have hfz14_0 := blk_frozen BK111.out 0; have hfz14_1 := blk_frozen BK111.out 1; have hfz14_2 := blk_frozen BK111.out 2; have hfz14_3 := blk_frozen BK111.out 3; have hfz14_4 := blk_frozen BK111.out 4; have hfz14_5 := blk_frozen BK111.out 5; obtain ⟨Ao15, co15, eo15⟩ := Kd.V_slice HO109.out; subst eo15)); go_upto_region 6 with (first | (go_at_call 25; (with_reducible refine (agateref13_Find.calls kj2 a0_0 a1 t102 t103 t104 t105 t106 t107 true _ A7.out).mono ?_); rintro e w11 ⟨v108, rfl, ho0, hb⟩; have n0_ := Aside0.mk (Kd.V_lower (Kd.V_mono (ok' := fun k_ => k_ ≠ gb101) ho0 (fun k_ hk_ => (Kd.freshB (g := gb101) (bkA BK101) k_ hk_))) (below_size (hbA HB))); have n1_ := Aside0.mk (blk_below (g := gb101) (bkA BK101) hb); have n2_ := Aside0.mk (below_step (hbA HB) hb); clear BK101; clear HB; have HO109 := n0_; have BK101 := n1_; have HB := n2_; clear n0_ n1_ n2_; (try clear hb); (try clear hb2); (try clear hk); (try clear hi); (try clear ho0)) | ((with_reducible refine gate_dst (N := 5) rfl ?_); (try (refine gate_guard (by rfl) ?_; dsimp only)); refine box_event ?hg (N := 5) ?hd (cs := #[.string (⟨#[]⟩ : ByteArray), .int .i64 0, .int .i64 0, .int .i64 0, .int .i64 0, .slice none 0 0]) (t := 72) ?hr ?_; (case hd => rfl); (case hg => rfl); (case hr => first | (go_simp; done) | (go_simp; rfl)); intro gb111 hg w12 hbox hb; have n0_ := Aside0.mk (Kd.V_below (Kd.V_elderB (by (with_reducible repeat (first | apply Kd.V_alloc | apply Kd.V_drewN | apply Kd.V_drew)); exact HO109.out) gb111 (Nat.le_of_eq hg.symm)) hb); have n1_ := Aside0.mk (blk_below (g := gb101) (bkA BK101) hb); have n2_ := Aside0.mk (below_step (hbA HB) hb); have n3_ := Aside0.mk (hbox); have n4_ := Aside0.mk ((by rw [hg]; exact (below_size (hbA HB)) : w.heap.size ≤ gb111)); have n5_ := Aside0.mk ((by rw [hg]; exact (below_size (hbA HB)) : w.heap.size ≤ gb111)); have n6_ := Aside0.mk ((by rw [hg]; exact Nat.ne_of_lt (blk_lt (g := gb101) (bkA BK101)) : gb101 ≠ gb111)); have n7_ := Aside0.mk ((by rw [hg]; exact Nat.ne_of_gt (blk_lt (g := gb101) (bkA BK101)) : gb111 ≠ gb101)); clear HO109; clear BK101; clear HB; have HO109 := n0_; have BK101 := n1_; have HB := n2_; have BK111 := n3_; have GW111 := n4_; have GE111 := n5_; have NB101_111 := n6_; have NB111_101 := n7_; clear n0_ n1_ n2_ n3_ n4_ n5_ n6_ n7_; clear hb hbox hg; have hnb13 := NB111_101.out; have hnc13 := NB101_111.out; have hcz14_0 : w12.cell? ⟨gb111, 0, none⟩ = some (.string (⟨#[]⟩ : ByteArray)) := bcA BK111 0; have hcz14_1 : w12.cell? ⟨gb111, 1, none⟩ = some (.int .i64 0) := bcA BK111 1; have hcz14_2 : w12.cell? ⟨gb111, 2, none⟩ = some (.int .i64 0) := bcA BK111 2; have hcz14_3 : w12.cell? ⟨gb111, 3, none⟩ = some (.int .i64 0) := bcA BK111 3; have hcz14_4 : w12.cell? ⟨gb111, 4, none⟩ = some (.int .i64 0) := bcA BK111 4; have hcz14_5 : w12.cell? ⟨gb111, 5, none⟩ = some (.slice none 0 0) := bcA BK111 5; have hfz14_0 := blk_frozen BK111.out 0; have hfz14_1 := blk_frozen BK111.out 1; have hfz14_2 := blk_frozen BK111.out 2; have hfz14_3 := blk_frozen BK111.out 3; have hfz14_4 := blk_frozen BK111.out 4; have hfz14_5 := blk_frozen BK111.out 5; obtain ⟨Ao15, co15, eo15⟩ := Kd.V_slice HO109.out; subst eo15)))
     (try simp only [Act.put, List.setIfInBounds_toArray, List.set_cons_zero, List.set_cons_succ])
     go_cut [39] (fun v39 wc => ∃ (kq : Nat) (x39_8 : Bool), v39 = .bool x39_8 ∧ Aside0 (agateref13_Check.j1 kq x39_8 a0_0 l0_1 a0_2 l0_3 t102 t103 t104 t105 t106 t107 = some r) ∧ Aside0 (kq ≤ kj2) ∧ Aside0 (Kd.V k91 91 wc w.heap.size (fun k_ => k_ ≠ gb101 ∧ k_ ≠ gb111) (.slice Ao15 t107.length co15) t107) ∧ Aside0 (wc.heap[gb101]? = some (.cells #[.string a0_0, (.slice A0_1 l0_1.length c0_1), .string a0_2, (.slice A0_3 l0_3.length c0_3)] 41 (0, 0))) ∧ Aside0 (wc.heap[gb111]? = some (.cells #[.string t102, .int .i64 t103, .int .i64 t104, .int .i64 t105, .int .i64 t106, (.slice Ao15 t107.length co15)] 72 (0, 0))) ∧ Aside0 (Below w.heap.size w wc))
     case first =>
      have H := HC9.out; clear HC9
      by_cases c16 : (l0_1.length : Int) < t105
      ·
       rw [if_pos c16] at H
       have c16b0 : decide ((l0_1.length : Int) < t105) = true := decide_eq_true c16
       clear c16
       (first | rw [c16b0] | (simp only [i64_w, i32_w]; rw [c16b0]) | skip)
       have H' := Aside0.mk H
       clear H; have hnb17 := NB101_111.out; have hnc17 := NB111_101.out; have hcz18_0 : w12.cell? ⟨gb101, 0, none⟩ = some (.string a0_0) := bcA BK101 0; have hcz18_1 : w12.cell? ⟨gb101, 1, none⟩ = some (.slice A0_1 l0_1.length c0_1) := bcA BK101 1; have hcz18_2 : w12.cell? ⟨gb101, 2, none⟩ = some (.string a0_2) := bcA BK101 2; have hcz18_3 : w12.cell? ⟨gb101, 3, none⟩ = some (.slice A0_3 l0_3.length c0_3) := bcA BK101 3; have hfz18_0 := blk_frozen BK101.out 0; have hfz18_1 := blk_frozen BK101.out 1; have hfz18_2 := blk_frozen BK101.out 2; have hfz18_3 := blk_frozen BK101.out 3; have hcz19_0 : w12.cell? ⟨gb111, 0, none⟩ = some (.string (⟨#[]⟩ : ByteArray)) := bcA BK111 0; have hcz19_1 : w12.cell? ⟨gb111, 1, none⟩ = some (.int .i64 0) := bcA BK111 1; have hcz19_2 : w12.cell? ⟨gb111, 2, none⟩ = some (.int .i64 0) := bcA BK111 2; have hcz19_3 : w12.cell? ⟨gb111, 3, none⟩ = some (.int .i64 0) := bcA BK111 3; have hcz19_4 : w12.cell? ⟨gb111, 4, none⟩ = some (.int .i64 0) := bcA BK111 4; have hcz19_5 : w12.cell? ⟨gb111, 5, none⟩ = some (.slice none 0 0) := bcA BK111 5; have hfz19_0 := blk_frozen BK111.out 0; have hfz19_1 := blk_frozen BK111.out 1; have hfz19_2 := blk_frozen BK111.out 2; have hfz19_3 := blk_frozen BK111.out 3; have hfz19_4 := blk_frozen BK111.out 4; have hfz19_5 := blk_frozen BK111.out 5
       go_wp2
       repeat (go_quiet (fail); try go_wp2)
       go_meet
       case rel => exact ⟨_, (true), (by first | rfl | (simp; done) | (simp [*]; done)), H', ⟨by have := HJ2.out; first | omega | exact Nat.le_refl _⟩, ⟨by (with_reducible repeat (first | apply Kd.V_alloc | apply Kd.V_drewN | apply Kd.V_drew)); exact Kd.V_mono (Kd.V_far (p := ⟨gb111, 5, none⟩) (Kd.V_far (p := ⟨gb111, 4, none⟩) (Kd.V_far (p := ⟨gb111, 3, none⟩) (Kd.V_far (p := ⟨gb111, 2, none⟩) (Kd.V_far (p := ⟨gb111, 1, none⟩) (Kd.V_far (p := ⟨gb111, 0, none⟩) (Kd.V_mono HO109.out (fun k_ hk => (⟨hk, hk.2⟩ : _ ∧ k_ ≠ gb111))) (fun _ hk => hk.2) (.string t102)) (fun _ hk => hk.2) (.int .i64 t103)) (fun _ hk => hk.2) (.int .i64 t104)) (fun _ hk => hk.2) (.int .i64 t105)) (fun _ hk => hk.2) (.int .i64 t106)) (fun _ hk => hk.2) (.slice Ao15 t107.length co15)) (fun _ hk => ⟨hk.1.1, hk.1.2⟩)⟩, ⟨by (with_reducible repeat (first | refine blk_drewN ?_ _ | refine blk_drew ?_ | refine blk_alloc ?_ _)); refine blk_far ?_ NB101_111.out _; (with_reducible repeat (first | refine blk_drewN ?_ _ | refine blk_drew ?_ | refine blk_alloc ?_ _)); refine blk_far ?_ NB101_111.out _; (with_reducible repeat (first | refine blk_drewN ?_ _ | refine blk_drew ?_ | refine blk_alloc ?_ _)); refine blk_far ?_ NB101_111.out _; (with_reducible repeat (first | refine blk_drewN ?_ _ | refine blk_drew ?_ | refine blk_alloc ?_ _)); refine blk_far ?_ NB101_111.out _; (with_reducible repeat (first | refine blk_drewN ?_ _ | refine blk_drew ?_ | refine blk_alloc ?_ _)); refine blk_far ?_ NB101_111.out _; (with_reducible repeat (first | refine blk_drewN ?_ _ | refine blk_drew ?_ | refine blk_alloc ?_ _)); refine blk_far ?_ NB101_111.out _; (with_reducible repeat (first | refine blk_drewN ?_ _ | refine blk_drew ?_ | refine blk_alloc ?_ _)); exact BK101.out⟩, ⟨by (with_reducible repeat (first | refine blk_drewN ?_ _ | refine blk_drew ?_ | refine blk_alloc ?_ _)); refine blk_put (cs := #[.string t102, .int .i64 t103, .int .i64 t104, .int .i64 t105, .int .i64 t106, .slice none 0 0]) ?_ 5 _ rfl; (with_reducible repeat (first | refine blk_drewN ?_ _ | refine blk_drew ?_ | refine blk_alloc ?_ _)); refine blk_put (cs := #[.string t102, .int .i64 t103, .int .i64 t104, .int .i64 t105, .int .i64 0, .slice none 0 0]) ?_ 4 _ rfl; (with_reducible repeat (first | refine blk_drewN ?_ _ | refine blk_drew ?_ | refine blk_alloc ?_ _)); refine blk_put (cs := #[.string t102, .int .i64 t103, .int .i64 t104, .int .i64 0, .int .i64 0, .slice none 0 0]) ?_ 3 _ rfl; (with_reducible repeat (first | refine blk_drewN ?_ _ | refine blk_drew ?_ | refine blk_alloc ?_ _)); refine blk_put (cs := #[.string t102, .int .i64 t103, .int .i64 0, .int .i64 0, .int .i64 0, .slice none 0 0]) ?_ 2 _ rfl; (with_reducible repeat (first | refine blk_drewN ?_ _ | refine blk_drew ?_ | refine blk_alloc ?_ _)); refine blk_put (cs := #[.string t102, .int .i64 0, .int .i64 0, .int .i64 0, .int .i64 0, .slice none 0 0]) ?_ 1 _ rfl; (with_reducible repeat (first | refine blk_drewN ?_ _ | refine blk_drew ?_ | refine blk_alloc ?_ _)); refine blk_put (cs := #[.string (⟨#[]⟩ : ByteArray), .int .i64 0, .int .i64 0, .int .i64 0, .int .i64 0, .slice none 0 0]) ?_ 0 _ rfl; (with_reducible repeat (first | refine blk_drewN ?_ _ | refine blk_drew ?_ | refine blk_alloc ?_ _)); exact BK111.out⟩, ⟨hbA HB⟩⟩
      ·
       rw [if_neg c16] at H
       have c16b0 : decide ((l0_1.length : Int) < t105) = false := decide_eq_false c16
       clear c16
       (first | rw [c16b0] | (simp only [i64_w, i32_w]; rw [c16b0]) | skip)
       have H' := Aside0.mk H
       clear H; have hnb20 := NB101_111.out; have hnc20 := NB111_101.out; have hcz21_0 : w12.cell? ⟨gb101, 0, none⟩ = some (.string a0_0) := bcA BK101 0; have hcz21_1 : w12.cell? ⟨gb101, 1, none⟩ = some (.slice A0_1 l0_1.length c0_1) := bcA BK101 1; have hcz21_2 : w12.cell? ⟨gb101, 2, none⟩ = some (.string a0_2) := bcA BK101 2; have hcz21_3 : w12.cell? ⟨gb101, 3, none⟩ = some (.slice A0_3 l0_3.length c0_3) := bcA BK101 3; have hfz21_0 := blk_frozen BK101.out 0; have hfz21_1 := blk_frozen BK101.out 1; have hfz21_2 := blk_frozen BK101.out 2; have hfz21_3 := blk_frozen BK101.out 3; have hcz22_0 : w12.cell? ⟨gb111, 0, none⟩ = some (.string (⟨#[]⟩ : ByteArray)) := bcA BK111 0; have hcz22_1 : w12.cell? ⟨gb111, 1, none⟩ = some (.int .i64 0) := bcA BK111 1; have hcz22_2 : w12.cell? ⟨gb111, 2, none⟩ = some (.int .i64 0) := bcA BK111 2; have hcz22_3 : w12.cell? ⟨gb111, 3, none⟩ = some (.int .i64 0) := bcA BK111 3; have hcz22_4 : w12.cell? ⟨gb111, 4, none⟩ = some (.int .i64 0) := bcA BK111 4; have hcz22_5 : w12.cell? ⟨gb111, 5, none⟩ = some (.slice none 0 0) := bcA BK111 5; have hfz22_0 := blk_frozen BK111.out 0; have hfz22_1 := blk_frozen BK111.out 1; have hfz22_2 := blk_frozen BK111.out 2; have hfz22_3 := blk_frozen BK111.out 3; have hfz22_4 := blk_frozen BK111.out 4; have hfz22_5 := blk_frozen BK111.out 5
       go_wp2
       repeat (go_quiet (fail); try go_wp2)
       go_meet
       case rel => exact ⟨_, (decide ((l0_1.length : Int) > t106)), (by first | rfl | (simp; done) | (simp [*]; done)), H', ⟨by have := HJ2.out; first | omega | exact Nat.le_refl _⟩, ⟨by (with_reducible repeat (first | apply Kd.V_alloc | apply Kd.V_drewN | apply Kd.V_drew)); exact Kd.V_mono (Kd.V_far (p := ⟨gb111, 5, none⟩) (Kd.V_far (p := ⟨gb111, 4, none⟩) (Kd.V_far (p := ⟨gb111, 3, none⟩) (Kd.V_far (p := ⟨gb111, 2, none⟩) (Kd.V_far (p := ⟨gb111, 1, none⟩) (Kd.V_far (p := ⟨gb111, 0, none⟩) (Kd.V_mono HO109.out (fun k_ hk => (⟨hk, hk.2⟩ : _ ∧ k_ ≠ gb111))) (fun _ hk => hk.2) (.string t102)) (fun _ hk => hk.2) (.int .i64 t103)) (fun _ hk => hk.2) (.int .i64 t104)) (fun _ hk => hk.2) (.int .i64 t105)) (fun _ hk => hk.2) (.int .i64 t106)) (fun _ hk => hk.2) (.slice Ao15 t107.length co15)) (fun _ hk => ⟨hk.1.1, hk.1.2⟩)⟩, ⟨by (with_reducible repeat (first | refine blk_drewN ?_ _ | refine blk_drew ?_ | refine blk_alloc ?_ _)); refine blk_far ?_ NB101_111.out _; (with_reducible repeat (first | refine blk_drewN ?_ _ | refine blk_drew ?_ | refine blk_alloc ?_ _)); refine blk_far ?_ NB101_111.out _; (with_reducible repeat (first | refine blk_drewN ?_ _ | refine blk_drew ?_ | refine blk_alloc ?_ _)); refine blk_far ?_ NB101_111.out _; (with_reducible repeat (first | refine blk_drewN ?_ _ | refine blk_drew ?_ | refine blk_alloc ?_ _)); refine blk_far ?_ NB101_111.out _; (with_reducible repeat (first | refine blk_drewN ?_ _ | refine blk_drew ?_ | refine blk_alloc ?_ _)); refine blk_far ?_ NB101_111.out _; (with_reducible repeat (first | refine blk_drewN ?_ _ | refine blk_drew ?_ | refine blk_alloc ?_ _)); refine blk_far ?_ NB101_111.out _; (with_reducible repeat (first | refine blk_drewN ?_ _ | refine blk_drew ?_ | refine blk_alloc ?_ _)); exact BK101.out⟩, ⟨by (with_reducible repeat (first | refine blk_drewN ?_ _ | refine blk_drew ?_ | refine blk_alloc ?_ _)); refine blk_put (cs := #[.string t102, .int .i64 t103, .int .i64 t104, .int .i64 t105, .int .i64 t106, .slice none 0 0]) ?_ 5 _ rfl; (with_reducible repeat (first | refine blk_drewN ?_ _ | refine blk_drew ?_ | refine blk_alloc ?_ _)); refine blk_put (cs := #[.string t102, .int .i64 t103, .int .i64 t104, .int .i64 t105, .int .i64 0, .slice none 0 0]) ?_ 4 _ rfl; (with_reducible repeat (first | refine blk_drewN ?_ _ | refine blk_drew ?_ | refine blk_alloc ?_ _)); refine blk_put (cs := #[.string t102, .int .i64 t103, .int .i64 t104, .int .i64 0, .int .i64 0, .slice none 0 0]) ?_ 3 _ rfl; (with_reducible repeat (first | refine blk_drewN ?_ _ | refine blk_drew ?_ | refine blk_alloc ?_ _)); refine blk_put (cs := #[.string t102, .int .i64 t103, .int .i64 0, .int .i64 0, .int .i64 0, .slice none 0 0]) ?_ 2 _ rfl; (with_reducible repeat (first | refine blk_drewN ?_ _ | refine blk_drew ?_ | refine blk_alloc ?_ _)); refine blk_put (cs := #[.string t102, .int .i64 0, .int .i64 0, .int .i64 0, .int .i64 0, .slice none 0 0]) ?_ 1 _ rfl; (with_reducible repeat (first | refine blk_drewN ?_ _ | refine blk_drew ?_ | refine blk_alloc ?_ _)); refine blk_put (cs := #[.string (⟨#[]⟩ : ByteArray), .int .i64 0, .int .i64 0, .int .i64 0, .int .i64 0, .slice none 0 0]) ?_ 0 _ rfl; (with_reducible repeat (first | refine blk_drewN ?_ _ | refine blk_drew ?_ | refine blk_alloc ?_ _)); exact BK111.out⟩, ⟨hbA HB⟩⟩
     case rest =>
      clear HC9; try clear c5; try clear c5b0; try clear c6; try clear c8; try clear c16; try clear c16b0; try clear hcz10_0; try clear hcz10_1; try clear hcz10_2; try clear hcz10_3; try clear hcz14_0; try clear hcz14_1; try clear hcz14_2; try clear hcz14_3; try clear hcz14_4; try clear hcz14_5; try clear hcz18_0; try clear hcz18_1; try clear hcz18_2; try clear hcz18_3; try clear hcz19_0; try clear hcz19_1; try clear hcz19_2; try clear hcz19_3; try clear hcz19_4; try clear hcz19_5; try clear hcz21_0; try clear hcz21_1; try clear hcz21_2; try clear hcz21_3; try clear hcz22_0; try clear hcz22_1; try clear hcz22_2; try clear hcz22_3; try clear hcz22_4; try clear hcz22_5; try clear hfz10_0; try clear hfz10_1; try clear hfz10_2; try clear hfz10_3; try clear hfz14_0; try clear hfz14_1; try clear hfz14_2; try clear hfz14_3; try clear hfz14_4; try clear hfz14_5; try clear hfz18_0; try clear hfz18_1; try clear hfz18_2; try clear hfz18_3; try clear hfz19_0; try clear hfz19_1; try clear hfz19_2; try clear hfz19_3; try clear hfz19_4; try clear hfz19_5; try clear hfz21_0; try clear hfz21_1; try clear hfz21_2; try clear hfz21_3; try clear hfz22_0; try clear hfz22_1; try clear hfz22_2; try clear hfz22_3; try clear hfz22_4; try clear hfz22_5
      obtain ⟨kq, x39_8, rfl, HA, HJ8, HO_112005, BK101, BK111, HB⟩ := hcut
      cases kq with
      | zero => exact absurd HA.out (by simp [agateref13_Check.j1])
      | succ kj8 =>
       have H := HA.out; clear HA
       simp only [agateref13_Check.j1] at H
       by_cases c23 : x39_8 = true
       ·
        subst c23
        have H1 : (some 11) = some r := by rw [if_pos rfl] at H; exact H
        clear H
        have H := H1
        clear H1
        obtain rfl := Option.some.inj H
        go_wp2
        repeat (go_quiet (fail); try go_wp2)
        go_ret
        exact ⟨by first | rfl | (simp [errW_none, errW_some] <;> rfl) | (simp [*, errW_none, errW_some] <;> rfl), hbA HB⟩
       ·
        replace c23 := Bool.eq_false_iff.mpr c23
        subst c23
        have H1 : (agateref13_Check.l0 kj8 0 a0_0 l0_1 a0_2 l0_3 t102 t103 t104 t105 t106 t107) = some r := by rw [if_neg (show ¬ (false = true) by decide)] at H; exact H
        clear H
        have H := H1
        clear H1
        have H' := Aside0.mk H
        clear H
        go_wp2
        repeat (go_quiet (fail); try go_wp2)
        go_loopg [7] kj8 (fun kq v7 w' => ∃ (x7_3 : Int), v7 = .int .i64 x7_3 ∧ Aside0 (agateref13_Check.l0 kq x7_3 a0_0 l0_1 a0_2 l0_3 t102 t103 t104 t105 t106 t107 = some r) ∧ Aside0 (kq ≤ kj8) ∧ Aside0 (Kd.V k91 91 w' w.heap.size (fun k_ => k_ ≠ gb101 ∧ k_ ≠ gb111) (.slice Ao15 t107.length co15) t107) ∧ Aside0 (w'.heap[gb101]? = some (.cells #[.string a0_0, (.slice A0_1 l0_1.length c0_1), .string a0_2, (.slice A0_3 l0_3.length c0_3)] 41 (0, 0))) ∧ Aside0 (w'.heap[gb111]? = some (.cells #[.string t102, .int .i64 t103, .int .i64 t104, .int .i64 t105, .int .i64 t106, (.slice Ao15 t107.length co15)] 72 (0, 0))) ∧ Aside0 (Below w.heap.size w w'))
        case atStart => exact ⟨(0), (by first | rfl | (simp; done) | (simp [*]; done)), H', ⟨Nat.le_refl _⟩, ⟨by (with_reducible repeat (first | apply Kd.V_alloc | apply Kd.V_drewN | apply Kd.V_drew)); exact HO_112005.out⟩, ⟨bkA BK101⟩, ⟨bkA BK111⟩, ⟨hbA HB⟩⟩
        case round =>
         clear H'
         obtain ⟨x7_3, rfl, HA, HK3, HO_112005, BK101, BK111, HB⟩ := hrel
         cases gk with
         | zero => exact absurd HA.out (by simp [agateref13_Check.l0])
         | succ k3 =>
          have H := HA.out; clear HA
          simp only [agateref13_Check.l0] at H
          by_cases c24 : x7_3 < (l0_3.length : Int)
          ·
           rw [if_pos c24] at H
           have c24b0 : decide (x7_3 < (l0_3.length : Int)) = true := decide_eq_true c24
           clear c24
           have H' := Aside0.mk H
           clear H; have hnb25 := NB101_111.out; have hnc25 := NB111_101.out; have hcz26_0 : wr.cell? ⟨gb101, 0, none⟩ = some (.string a0_0) := bcA BK101 0; have hcz26_1 : wr.cell? ⟨gb101, 1, none⟩ = some (.slice A0_1 l0_1.length c0_1) := bcA BK101 1; have hcz26_2 : wr.cell? ⟨gb101, 2, none⟩ = some (.string a0_2) := bcA BK101 2; have hcz26_3 : wr.cell? ⟨gb101, 3, none⟩ = some (.slice A0_3 l0_3.length c0_3) := bcA BK101 3; have hfz26_0 := blk_frozen BK101.out 0; have hfz26_1 := blk_frozen BK101.out 1; have hfz26_2 := blk_frozen BK101.out 2; have hfz26_3 := blk_frozen BK101.out 3
           go_wp2
           repeat (go_quiet (fail); try go_wp2)
           go_loopg [8, 9] k3 (fun kq v8 v9 w' => ∃ (x8_4 : Bool) (x9_4 : Int), v8 = .bool x8_4 ∧ v9 = .int .i64 x9_4 ∧ Aside0 (agateref13_Check.l1 kq x7_3 x8_4 x9_4 a0_0 l0_1 a0_2 l0_3 t102 t103 t104 t105 t106 t107 = some r) ∧ Aside0 (kq ≤ k3) ∧ Aside0 (Kd.V k91 91 w' w.heap.size (fun k_ => k_ ≠ gb101 ∧ k_ ≠ gb111) (.slice Ao15 t107.length co15) t107) ∧ Aside0 (w'.heap[gb101]? = some (.cells #[.string a0_0, (.slice A0_1 l0_1.length c0_1), .string a0_2, (.slice A0_3 l0_3.length c0_3)] 41 (0, 0))) ∧ Aside0 (w'.heap[gb111]? = some (.cells #[.string t102, .int .i64 t103, .int .i64 t104, .int .i64 t105, .int .i64 t106, (.slice Ao15 t107.length co15)] 72 (0, 0))) ∧ Aside0 (Below w.heap.size w w'))
           case atStart => exact ⟨(false), (0), (by first | rfl | (simp; done) | (simp [*]; done)), (by first | rfl | (simp; done) | (simp [*]; done)), H', ⟨Nat.le_refl _⟩, ⟨by (with_reducible repeat (first | apply Kd.V_alloc | apply Kd.V_drewN | apply Kd.V_drew)); exact HO_112005.out⟩, ⟨bkA BK101⟩, ⟨bkA BK111⟩, ⟨hbA HB⟩⟩
           case round =>
            clear H'
            obtain ⟨x8_4, x9_4, rfl, rfl, HA, HK4, HO_112005, BK101, BK111, HB⟩ := hrel
            cases gk with
            | zero => exact absurd HA.out (by simp [agateref13_Check.l1])
            | succ k4 =>
             have H := HA.out; clear HA
             simp only [agateref13_Check.l1] at H
             by_cases c27 : x9_4 < (t107.length : Int)
             ·
              rw [if_pos c27] at H
              have c27b0 : decide (x9_4 < (t107.length : Int)) = true := decide_eq_true c27
              clear c27
              by_cases c28 : x8_4 = true
              ·
               subst c28
               have H1 : (agateref13_Check.l1 k4 x7_3 true (wrap64 (x9_4 + 1)) a0_0 l0_1 a0_2 l0_3 t102 t103 t104 t105 t106 t107) = some r := by rw [if_pos rfl] at H; exact H
               clear H
               have H := H1
               clear H1
               have H' := Aside0.mk H
               clear H; have hnb29 := NB111_101.out; have hnc29 := NB101_111.out; have hcz30_0 : wr.cell? ⟨gb111, 0, none⟩ = some (.string t102) := bcA BK111 0; have hcz30_1 : wr.cell? ⟨gb111, 1, none⟩ = some (.int .i64 t103) := bcA BK111 1; have hcz30_2 : wr.cell? ⟨gb111, 2, none⟩ = some (.int .i64 t104) := bcA BK111 2; have hcz30_3 : wr.cell? ⟨gb111, 3, none⟩ = some (.int .i64 t105) := bcA BK111 3; have hcz30_4 : wr.cell? ⟨gb111, 4, none⟩ = some (.int .i64 t106) := bcA BK111 4; have hcz30_5 : wr.cell? ⟨gb111, 5, none⟩ = some (.slice Ao15 t107.length co15) := bcA BK111 5; have hfz30_0 := blk_frozen BK111.out 0; have hfz30_1 := blk_frozen BK111.out 1; have hfz30_2 := blk_frozen BK111.out 2; have hfz30_3 := blk_frozen BK111.out 3; have hfz30_4 := blk_frozen BK111.out 4; have hfz30_5 := blk_frozen BK111.out 5
               go_wp2
               repeat (go_quiet (fail); try go_wp2)
               go_roundg k4
               case measure => have := HJ2.out; have := HJ8.out; have := HK3.out; have := HK4.out; omega
               case rel => exact ⟨(true), (wrap64 (x9_4 + 1)), (by first | rfl | (simp; done) | (simp [*]; done)), (by first | rfl | (simp; done) | (simp [*]; done)), H', ⟨by have := HJ2.out; have := HJ8.out; have := HK3.out; have := HK4.out; omega⟩, ⟨by (with_reducible repeat (first | apply Kd.V_alloc | apply Kd.V_drewN | apply Kd.V_drew)); exact HO_112005.out⟩, ⟨bkA BK101⟩, ⟨bkA BK111⟩, ⟨hbA HB⟩⟩
              ·
               replace c28 := Bool.eq_false_iff.mpr c28
               subst c28
               have H1 : (if 0 ≤ x9_4 then (if 0 ≤ x7_3 then (if x7_3 < (l0_3.length : Int) then (if ((rd_T91 t107 x9_4).f0).toList = ((rd_T47 l0_3 x7_3).f0).toList then (agateref13_Check.l1 k4 x7_3 (((rd_T91 t107 x9_4).f1) == ((rd_T47 l0_3 x7_3).f1)) (wrap64 (x9_4 + 1)) a0_0 l0_1 a0_2 l0_3 t102 t103 t104 t105 t106 t107) else (agateref13_Check.l1 k4 x7_3 false (wrap64 (x9_4 + 1)) a0_0 l0_1 a0_2 l0_3 t102 t103 t104 t105 t106 t107)) else (none)) else (none)) else (none)) = some r := by rw [if_neg (show ¬ (false = true) by decide)] at H; exact H
               clear H
               have H := H1
               clear H1
               by_cases c31 : 0 ≤ x9_4
               ·
                rw [if_pos c31] at H
                have c31b0 : decide (0 ≤ x9_4) = true := decide_eq_true c31
                clear c31
                by_cases c32 : 0 ≤ x7_3
                ·
                 rw [if_pos c32] at H
                 have c32b0 : decide (0 ≤ x7_3) = true := decide_eq_true c32
                 clear c32
                 by_cases c33 : x7_3 < (l0_3.length : Int)
                 ·
                  rw [if_pos c33] at H
                  have c33b0 : decide (x7_3 < (l0_3.length : Int)) = true := decide_eq_true c33
                  clear c33
                  by_cases c34 : ((rd_T91 t107 x9_4).f0).toList = ((rd_T47 l0_3 x7_3).f0).toList
                  ·
                   rw [if_pos c34] at H
                   have c34b0 : (((rd_T91 t107 x9_4).f0).toList == ((rd_T47 l0_3 x7_3).f0).toList) = true := beq_iff_eq.mpr c34
                   have c34b1 : (((rd_T91 t107 x9_4).f0).toList != ((rd_T47 l0_3 x7_3).f0).toList) = false := bne_eq_false_iff_eq.mpr c34
                   clear c34
                   have H' := Aside0.mk H
                   clear H; have hnb35 := NB111_101.out; have hnc35 := NB101_111.out; have hcz36_0 : wr.cell? ⟨gb111, 0, none⟩ = some (.string t102) := bcA BK111 0; have hcz36_1 : wr.cell? ⟨gb111, 1, none⟩ = some (.int .i64 t103) := bcA BK111 1; have hcz36_2 : wr.cell? ⟨gb111, 2, none⟩ = some (.int .i64 t104) := bcA BK111 2; have hcz36_3 : wr.cell? ⟨gb111, 3, none⟩ = some (.int .i64 t105) := bcA BK111 3; have hcz36_4 : wr.cell? ⟨gb111, 4, none⟩ = some (.int .i64 t106) := bcA BK111 4; have hcz36_5 : wr.cell? ⟨gb111, 5, none⟩ = some (.slice Ao15 t107.length co15) := bcA BK111 5; have hfz36_0 := blk_frozen BK111.out 0; have hfz36_1 := blk_frozen BK111.out 1; have hfz36_2 := blk_frozen BK111.out 2; have hfz36_3 := blk_frozen BK111.out 3; have hfz36_4 := blk_frozen BK111.out 4; have hfz36_5 := blk_frozen BK111.out 5
                   have p112 : 0 ≤ (x9_4 : Int) := of_decide_eq_true (by first | (with_reducible assumption) | assumption)
                   have q112 : x9_4 < (t107.length : Int) := of_decide_eq_true (by first | (with_reducible assumption) | assumption)
                   obtain ⟨ad112, e112, hx112_0, hx112_1, hx112_2⟩ := at_T91 (Kd.V_reads' HO_112005.out).2.2 x9_4 p112 q112
                   cases e112
                   replace p112 := eq_true p112
                   replace q112 := eq_true q112
                   have hcz37_0 : wr.cell? ⟨gb101, 0, none⟩ = some (.string a0_0) := bcA BK101 0; have hcz37_1 : wr.cell? ⟨gb101, 1, none⟩ = some (.slice A0_1 l0_1.length c0_1) := bcA BK101 1; have hcz37_2 : wr.cell? ⟨gb101, 2, none⟩ = some (.string a0_2) := bcA BK101 2; have hcz37_3 : wr.cell? ⟨gb101, 3, none⟩ = some (.slice A0_3 l0_3.length c0_3) := bcA BK101 3; have hfz37_0 := blk_frozen BK101.out 0; have hfz37_1 := blk_frozen BK101.out 1; have hfz37_2 := blk_frozen BK101.out 2; have hfz37_3 := blk_frozen BK101.out 3
                   have p113 : 0 ≤ (x7_3 : Int) := of_decide_eq_true (by first | (with_reducible assumption) | assumption)
                   have q113 : x7_3 < (l0_3.length : Int) := of_decide_eq_true (by first | (with_reducible assumption) | assumption)
                   obtain ⟨ad113, A113_3, c113_3, e113, hx113_0, hx113_1, hx113_2, hx113_3, hl113_3, hi113_3⟩ := at_T47 HR0_3.out x7_3 p113 q113
                   cases e113
                   replace hx113_0 := (HB.out.cell (World.block_lt_of_cell? w _ hx113_0)).trans hx113_0
                   replace hx113_1 := (HB.out.cell (World.block_lt_of_cell? w _ hx113_1)).trans hx113_1
                   replace hx113_2 := (HB.out.cell (World.block_lt_of_cell? w _ hx113_2)).trans hx113_2
                   replace hx113_3 := (HB.out.cell (World.block_lt_of_cell? w _ hx113_3)).trans hx113_3
                   have HR113_3 := Aside0.mk hi113_3
                   have HC113_3 := Aside0.mk hl113_3
                   clear hi113_3 hl113_3
                   replace p113 := eq_true p113
                   replace q113 := eq_true q113
                   have p114 : 0 ≤ (x9_4 : Int) := of_decide_eq_true (by first | (with_reducible assumption) | assumption)
                   have q114 : x9_4 < (t107.length : Int) := of_decide_eq_true (by first | (with_reducible assumption) | assumption)
                   obtain ⟨ad114, e114, hx114_0, hx114_1, hx114_2⟩ := at_T91 (Kd.V_reads' HO_112005.out).2.2 x9_4 p114 q114
                   obtain rfl : ad112 = ad114 := (by injection e114)
                   replace p114 := eq_true p114
                   replace q114 := eq_true q114
                   have p115 : 0 ≤ (x7_3 : Int) := of_decide_eq_true (by first | (with_reducible assumption) | assumption)
                   have q115 : x7_3 < (l0_3.length : Int) := of_decide_eq_true (by first | (with_reducible assumption) | assumption)
                   obtain ⟨ad115, A115_3, c115_3, e115, hx115_0, hx115_1, hx115_2, hx115_3, hl115_3, hi115_3⟩ := at_T47 HR0_3.out x7_3 p115 q115
                   obtain rfl : ad113 = ad115 := (by injection e115)
                   replace hx115_0 := (HB.out.cell (World.block_lt_of_cell? w _ hx115_0)).trans hx115_0
                   replace hx115_1 := (HB.out.cell (World.block_lt_of_cell? w _ hx115_1)).trans hx115_1
                   replace hx115_2 := (HB.out.cell (World.block_lt_of_cell? w _ hx115_2)).trans hx115_2
                   replace hx115_3 := (HB.out.cell (World.block_lt_of_cell? w _ hx115_3)).trans hx115_3
                   have HR115_3 := Aside0.mk hi115_3
                   have HC115_3 := Aside0.mk hl115_3
                   clear hi115_3 hl115_3
                   replace p115 := eq_true p115
                   replace q115 := eq_true q115
                   have ea_ := Option.some.inj (hx113_3.symm.trans hx115_3)
                   injection ea_ with ea_ en_ ec_
                   subst ea_
                   subst ec_
                   clear en_
                   go_wp2
                   repeat (go_quiet (fail); try go_wp2)
                   go_roundg k4
                   case measure => have := HJ2.out; have := HJ8.out; have := HK3.out; have := HK4.out; omega
                   case rel => exact ⟨((((rd_T91 t107 x9_4).f1) == ((rd_T47 l0_3 x7_3).f1))), (wrap64 (x9_4 + 1)), (by first | rfl | (simp; done) | (simp [*]; done)), (by first | rfl | (simp; done) | (simp [*]; done)), H', ⟨by have := HJ2.out; have := HJ8.out; have := HK3.out; have := HK4.out; omega⟩, ⟨by (with_reducible repeat (first | apply Kd.V_alloc | apply Kd.V_drewN | apply Kd.V_drew)); exact HO_112005.out⟩, ⟨bkA BK101⟩, ⟨bkA BK111⟩, ⟨hbA HB⟩⟩
                  ·
                   rw [if_neg c34] at H
                   have c34b0 : (((rd_T91 t107 x9_4).f0).toList == ((rd_T47 l0_3 x7_3).f0).toList) = false := beq_eq_false_iff_ne.mpr c34
                   have c34b1 : (((rd_T91 t107 x9_4).f0).toList != ((rd_T47 l0_3 x7_3).f0).toList) = true := bne_iff_ne.mpr c34
                   have H' := Aside0.mk H
                   clear H; have hnb38 := NB111_101.out; have hnc38 := NB101_111.out; have hcz39_0 : wr.cell? ⟨gb111, 0, none⟩ = some (.string t102) := bcA BK111 0; have hcz39_1 : wr.cell? ⟨gb111, 1, none⟩ = some (.int .i64 t103) := bcA BK111 1; have hcz39_2 : wr.cell? ⟨gb111, 2, none⟩ = some (.int .i64 t104) := bcA BK111 2; have hcz39_3 : wr.cell? ⟨gb111, 3, none⟩ = some (.int .i64 t105) := bcA BK111 3; have hcz39_4 : wr.cell? ⟨gb111, 4, none⟩ = some (.int .i64 t106) := bcA BK111 4; have hcz39_5 : wr.cell? ⟨gb111, 5, none⟩ = some (.slice Ao15 t107.length co15) := bcA BK111 5; have hfz39_0 := blk_frozen BK111.out 0; have hfz39_1 := blk_frozen BK111.out 1; have hfz39_2 := blk_frozen BK111.out 2; have hfz39_3 := blk_frozen BK111.out 3; have hfz39_4 := blk_frozen BK111.out 4; have hfz39_5 := blk_frozen BK111.out 5
                   have p112 : 0 ≤ (x9_4 : Int) := of_decide_eq_true (by first | (with_reducible assumption) | assumption)
                   have q112 : x9_4 < (t107.length : Int) := of_decide_eq_true (by first | (with_reducible assumption) | assumption)
                   obtain ⟨ad112, e112, hx112_0, hx112_1, hx112_2⟩ := at_T91 (Kd.V_reads' HO_112005.out).2.2 x9_4 p112 q112
                   cases e112
                   replace p112 := eq_true p112
                   replace q112 := eq_true q112
                   have hcz40_0 : wr.cell? ⟨gb101, 0, none⟩ = some (.string a0_0) := bcA BK101 0; have hcz40_1 : wr.cell? ⟨gb101, 1, none⟩ = some (.slice A0_1 l0_1.length c0_1) := bcA BK101 1; have hcz40_2 : wr.cell? ⟨gb101, 2, none⟩ = some (.string a0_2) := bcA BK101 2; have hcz40_3 : wr.cell? ⟨gb101, 3, none⟩ = some (.slice A0_3 l0_3.length c0_3) := bcA BK101 3; have hfz40_0 := blk_frozen BK101.out 0; have hfz40_1 := blk_frozen BK101.out 1; have hfz40_2 := blk_frozen BK101.out 2; have hfz40_3 := blk_frozen BK101.out 3
                   have p113 : 0 ≤ (x7_3 : Int) := of_decide_eq_true (by first | (with_reducible assumption) | assumption)
                   have q113 : x7_3 < (l0_3.length : Int) := of_decide_eq_true (by first | (with_reducible assumption) | assumption)
                   obtain ⟨ad113, A113_3, c113_3, e113, hx113_0, hx113_1, hx113_2, hx113_3, hl113_3, hi113_3⟩ := at_T47 HR0_3.out x7_3 p113 q113
                   cases e113
                   replace hx113_0 := (HB.out.cell (World.block_lt_of_cell? w _ hx113_0)).trans hx113_0
                   replace hx113_1 := (HB.out.cell (World.block_lt_of_cell? w _ hx113_1)).trans hx113_1
                   replace hx113_2 := (HB.out.cell (World.block_lt_of_cell? w _ hx113_2)).trans hx113_2
                   replace hx113_3 := (HB.out.cell (World.block_lt_of_cell? w _ hx113_3)).trans hx113_3
                   have HR113_3 := Aside0.mk hi113_3
                   have HC113_3 := Aside0.mk hl113_3
                   clear hi113_3 hl113_3
                   replace p113 := eq_true p113
                   replace q113 := eq_true q113
                   go_wp2
                   repeat (go_quiet (fail); try go_wp2)
                   go_roundg k4
                   case measure => have := HJ2.out; have := HJ8.out; have := HK3.out; have := HK4.out; omega
                   case rel => exact ⟨(false), (wrap64 (x9_4 + 1)), (by first | rfl | (simp; done) | (simp [*]; done)), (by first | rfl | (simp; done) | (simp [*]; done)), H', ⟨by have := HJ2.out; have := HJ8.out; have := HK3.out; have := HK4.out; omega⟩, ⟨by (with_reducible repeat (first | apply Kd.V_alloc | apply Kd.V_drewN | apply Kd.V_drew)); exact HO_112005.out⟩, ⟨bkA BK101⟩, ⟨bkA BK111⟩, ⟨hbA HB⟩⟩
                 ·
                  rw [if_neg c33] at H
                  exact absurd H (by simp)
                ·
                 rw [if_neg c32] at H
                 exact absurd H (by simp)
               ·
                rw [if_neg c31] at H
                exact absurd H (by simp)
             ·
              rw [if_neg c27] at H
              have c27b0 : decide (x9_4 < (t107.length : Int)) = false := decide_eq_false c27
              clear c27
              by_cases c41 : x8_4 = true
              ·
               subst c41
               have H1 : (if 0 ≤ x7_3 then (if x7_3 < (l0_3.length : Int) then ((agateref10_Find.f k4 l0_3 ((rd_T47 l0_3 x7_3).f0)).bind fun t117 => (if t117 < x7_3 then (some 14) else (agateref13_Check.l0 k4 (wrap64 (x7_3 + 1)) a0_0 l0_1 a0_2 l0_3 t102 t103 t104 t105 t106 t107))) else (none)) else (none)) = some r := by rw [if_pos rfl] at H; exact H
               clear H
               have H := H1
               clear H1
               by_cases c42 : 0 ≤ x7_3
               ·
                rw [if_pos c42] at H
                have c42b0 : decide (0 ≤ x7_3) = true := decide_eq_true c42
                clear c42
                by_cases c43 : x7_3 < (l0_3.length : Int)
                ·
                 rw [if_pos c43] at H
                 have c43b0 : decide (x7_3 < (l0_3.length : Int)) = true := decide_eq_true c43
                 clear c43
                 replace H := Option.bind_eq_some_iff.mp H
                 obtain ⟨t117, A440, H⟩ := H
                 replace H : (if t117 < x7_3 then (some 14) else (agateref13_Check.l0 k4 (wrap64 (x7_3 + 1)) a0_0 l0_1 a0_2 l0_3 t102 t103 t104 t105 t106 t107)) = some r := H
                 have A44 := Aside0.mk A440
                 clear A440
                 by_cases c45 : t117 < x7_3
                 ·
                  rw [if_pos c45] at H
                  have c45b0 : decide (t117 < x7_3) = true := decide_eq_true c45
                  clear c45
                  obtain rfl := Option.some.inj H
                  have hnb46 := NB111_101.out; have hnc46 := NB101_111.out; have hcz47_0 : wr.cell? ⟨gb111, 0, none⟩ = some (.string t102) := bcA BK111 0; have hcz47_1 : wr.cell? ⟨gb111, 1, none⟩ = some (.int .i64 t103) := bcA BK111 1; have hcz47_2 : wr.cell? ⟨gb111, 2, none⟩ = some (.int .i64 t104) := bcA BK111 2; have hcz47_3 : wr.cell? ⟨gb111, 3, none⟩ = some (.int .i64 t105) := bcA BK111 3; have hcz47_4 : wr.cell? ⟨gb111, 4, none⟩ = some (.int .i64 t106) := bcA BK111 4; have hcz47_5 : wr.cell? ⟨gb111, 5, none⟩ = some (.slice Ao15 t107.length co15) := bcA BK111 5; have hfz47_0 := blk_frozen BK111.out 0; have hfz47_1 := blk_frozen BK111.out 1; have hfz47_2 := blk_frozen BK111.out 2; have hfz47_3 := blk_frozen BK111.out 3; have hfz47_4 := blk_frozen BK111.out 4; have hfz47_5 := blk_frozen BK111.out 5; have hcz48_0 : wr.cell? ⟨gb101, 0, none⟩ = some (.string a0_0) := bcA BK101 0; have hcz48_1 : wr.cell? ⟨gb101, 1, none⟩ = some (.slice A0_1 l0_1.length c0_1) := bcA BK101 1; have hcz48_2 : wr.cell? ⟨gb101, 2, none⟩ = some (.string a0_2) := bcA BK101 2; have hcz48_3 : wr.cell? ⟨gb101, 3, none⟩ = some (.slice A0_3 l0_3.length c0_3) := bcA BK101 3; have hfz48_0 := blk_frozen BK101.out 0; have hfz48_1 := blk_frozen BK101.out 1; have hfz48_2 := blk_frozen BK101.out 2; have hfz48_3 := blk_frozen BK101.out 3
                  have p116 : 0 ≤ (x7_3 : Int) := of_decide_eq_true (by first | (with_reducible assumption) | assumption)
                  have q116 : x7_3 < (l0_3.length : Int) := of_decide_eq_true (by first | (with_reducible assumption) | assumption)
                  obtain ⟨ad116, A116_3, c116_3, e116, hx116_0, hx116_1, hx116_2, hx116_3, hl116_3, hi116_3⟩ := at_T47 HR0_3.out x7_3 p116 q116
                  cases e116
                  replace hx116_0 := (HB.out.cell (World.block_lt_of_cell? w _ hx116_0)).trans hx116_0
                  replace hx116_1 := (HB.out.cell (World.block_lt_of_cell? w _ hx116_1)).trans hx116_1
                  replace hx116_2 := (HB.out.cell (World.block_lt_of_cell? w _ hx116_2)).trans hx116_2
                  replace hx116_3 := (HB.out.cell (World.block_lt_of_cell? w _ hx116_3)).trans hx116_3
                  have HR116_3 := Aside0.mk hi116_3
                  have HC116_3 := Aside0.mk hl116_3
                  clear hi116_3 hl116_3
                  replace p116 := eq_true p116
                  replace q116 := eq_true q116
                  go_wp2_with (first | (go_at_call 10; (with_reducible refine (agateref10_Find.calls k4 _ _ l0_3 ((rd_T47 l0_3 x7_3).f0) t117 _ ?side1 ?side2 A44.out).mono ?_); (case side1 => repeat (first | exact (Kd.C_below HR0_3.out HB.out) | (with_reducible refine Kd.C_alloc ?_ _) | (with_reducible refine Kd.C_drewN ?_ _) | (with_reducible refine Kd.C_drew ?_))); (case side2 => exact HC0_3.out); rintro e w' ⟨rfl, ⟨nd, rfl⟩⟩; (try first | exact ⟨rfl, _, World.drewN_drewN _ _ _⟩ | exact ⟨rfl, _, Eq.trans (World.drewN_drewN _ _ _) (congrArg (World.drewN _) (Nat.add_assoc _ _ _))⟩)))
                  repeat (go_quiet (first | (go_at_call 10; (with_reducible refine (agateref10_Find.calls k4 _ _ l0_3 ((rd_T47 l0_3 x7_3).f0) t117 _ ?side1 ?side2 A44.out).mono ?_); (case side1 => repeat (first | exact (Kd.C_below HR0_3.out HB.out) | (with_reducible refine Kd.C_alloc ?_ _) | (with_reducible refine Kd.C_drewN ?_ _) | (with_reducible refine Kd.C_drew ?_))); (case side2 => exact HC0_3.out); rintro e w' ⟨rfl, ⟨nd, rfl⟩⟩; (try first | exact ⟨rfl, _, World.drewN_drewN _ _ _⟩ | exact ⟨rfl, _, Eq.trans (World.drewN_drewN _ _ _) (congrArg (World.drewN _) (Nat.add_assoc _ _ _))⟩))); try go_wp2_with (first | (go_at_call 10; (with_reducible refine (agateref10_Find.calls k4 _ _ l0_3 ((rd_T47 l0_3 x7_3).f0) t117 _ ?side1 ?side2 A44.out).mono ?_); (case side1 => repeat (first | exact (Kd.C_below HR0_3.out HB.out) | (with_reducible refine Kd.C_alloc ?_ _) | (with_reducible refine Kd.C_drewN ?_ _) | (with_reducible refine Kd.C_drew ?_))); (case side2 => exact HC0_3.out); rintro e w' ⟨rfl, ⟨nd, rfl⟩⟩; (try first | exact ⟨rfl, _, World.drewN_drewN _ _ _⟩ | exact ⟨rfl, _, Eq.trans (World.drewN_drewN _ _ _) (congrArg (World.drewN _) (Nat.add_assoc _ _ _))⟩))))
                  go_ret
                  exact ⟨by first | rfl | (simp [errW_none, errW_some] <;> rfl) | (simp [*, errW_none, errW_some] <;> rfl), hbA HB⟩
                 ·
                  rw [if_neg c45] at H
                  have c45b0 : decide (t117 < x7_3) = false := decide_eq_false c45
                  clear c45
                  have H' := Aside0.mk H
                  clear H; have hnb49 := NB111_101.out; have hnc49 := NB101_111.out; have hcz50_0 : wr.cell? ⟨gb111, 0, none⟩ = some (.string t102) := bcA BK111 0; have hcz50_1 : wr.cell? ⟨gb111, 1, none⟩ = some (.int .i64 t103) := bcA BK111 1; have hcz50_2 : wr.cell? ⟨gb111, 2, none⟩ = some (.int .i64 t104) := bcA BK111 2; have hcz50_3 : wr.cell? ⟨gb111, 3, none⟩ = some (.int .i64 t105) := bcA BK111 3; have hcz50_4 : wr.cell? ⟨gb111, 4, none⟩ = some (.int .i64 t106) := bcA BK111 4; have hcz50_5 : wr.cell? ⟨gb111, 5, none⟩ = some (.slice Ao15 t107.length co15) := bcA BK111 5; have hfz50_0 := blk_frozen BK111.out 0; have hfz50_1 := blk_frozen BK111.out 1; have hfz50_2 := blk_frozen BK111.out 2; have hfz50_3 := blk_frozen BK111.out 3; have hfz50_4 := blk_frozen BK111.out 4; have hfz50_5 := blk_frozen BK111.out 5; have hcz51_0 : wr.cell? ⟨gb101, 0, none⟩ = some (.string a0_0) := bcA BK101 0; have hcz51_1 : wr.cell? ⟨gb101, 1, none⟩ = some (.slice A0_1 l0_1.length c0_1) := bcA BK101 1; have hcz51_2 : wr.cell? ⟨gb101, 2, none⟩ = some (.string a0_2) := bcA BK101 2; have hcz51_3 : wr.cell? ⟨gb101, 3, none⟩ = some (.slice A0_3 l0_3.length c0_3) := bcA BK101 3; have hfz51_0 := blk_frozen BK101.out 0; have hfz51_1 := blk_frozen BK101.out 1; have hfz51_2 := blk_frozen BK101.out 2; have hfz51_3 := blk_frozen BK101.out 3
                  have p116 : 0 ≤ (x7_3 : Int) := of_decide_eq_true (by first | (with_reducible assumption) | assumption)
                  have q116 : x7_3 < (l0_3.length : Int) := of_decide_eq_true (by first | (with_reducible assumption) | assumption)
                  obtain ⟨ad116, A116_3, c116_3, e116, hx116_0, hx116_1, hx116_2, hx116_3, hl116_3, hi116_3⟩ := at_T47 HR0_3.out x7_3 p116 q116
                  cases e116
                  replace hx116_0 := (HB.out.cell (World.block_lt_of_cell? w _ hx116_0)).trans hx116_0
                  replace hx116_1 := (HB.out.cell (World.block_lt_of_cell? w _ hx116_1)).trans hx116_1
                  replace hx116_2 := (HB.out.cell (World.block_lt_of_cell? w _ hx116_2)).trans hx116_2
                  replace hx116_3 := (HB.out.cell (World.block_lt_of_cell? w _ hx116_3)).trans hx116_3
                  have HR116_3 := Aside0.mk hi116_3
                  have HC116_3 := Aside0.mk hl116_3
                  clear hi116_3 hl116_3
                  replace p116 := eq_true p116
                  replace q116 := eq_true q116
                  go_wp2_with (first | (go_at_call 10; (with_reducible refine (agateref10_Find.calls k4 _ _ l0_3 ((rd_T47 l0_3 x7_3).f0) t117 _ ?side1 ?side2 A44.out).mono ?_); (case side1 => repeat (first | exact (Kd.C_below HR0_3.out HB.out) | (with_reducible refine Kd.C_alloc ?_ _) | (with_reducible refine Kd.C_drewN ?_ _) | (with_reducible refine Kd.C_drew ?_))); (case side2 => exact HC0_3.out); rintro e w' ⟨rfl, ⟨nd, rfl⟩⟩; (try first | exact ⟨rfl, _, World.drewN_drewN _ _ _⟩ | exact ⟨rfl, _, Eq.trans (World.drewN_drewN _ _ _) (congrArg (World.drewN _) (Nat.add_assoc _ _ _))⟩)))
                  repeat (go_quiet (first | (go_at_call 10; (with_reducible refine (agateref10_Find.calls k4 _ _ l0_3 ((rd_T47 l0_3 x7_3).f0) t117 _ ?side1 ?side2 A44.out).mono ?_); (case side1 => repeat (first | exact (Kd.C_below HR0_3.out HB.out) | (with_reducible refine Kd.C_alloc ?_ _) | (with_reducible refine Kd.C_drewN ?_ _) | (with_reducible refine Kd.C_drew ?_))); (case side2 => exact HC0_3.out); rintro e w' ⟨rfl, ⟨nd, rfl⟩⟩; (try first | exact ⟨rfl, _, World.drewN_drewN _ _ _⟩ | exact ⟨rfl, _, Eq.trans (World.drewN_drewN _ _ _) (congrArg (World.drewN _) (Nat.add_assoc _ _ _))⟩))); try go_wp2_with (first | (go_at_call 10; (with_reducible refine (agateref10_Find.calls k4 _ _ l0_3 ((rd_T47 l0_3 x7_3).f0) t117 _ ?side1 ?side2 A44.out).mono ?_); (case side1 => repeat (first | exact (Kd.C_below HR0_3.out HB.out) | (with_reducible refine Kd.C_alloc ?_ _) | (with_reducible refine Kd.C_drewN ?_ _) | (with_reducible refine Kd.C_drew ?_))); (case side2 => exact HC0_3.out); rintro e w' ⟨rfl, ⟨nd, rfl⟩⟩; (try first | exact ⟨rfl, _, World.drewN_drewN _ _ _⟩ | exact ⟨rfl, _, Eq.trans (World.drewN_drewN _ _ _) (congrArg (World.drewN _) (Nat.add_assoc _ _ _))⟩))))
                  go_roundg k4
                  case measure => have := HJ2.out; have := HJ8.out; have := HK3.out; have := HK4.out; omega
                  case rel => exact ⟨(wrap64 (x7_3 + 1)), (by first | rfl | (simp; done) | (simp [*]; done)), H', ⟨by have := HJ2.out; have := HJ8.out; have := HK3.out; have := HK4.out; omega⟩, ⟨by (with_reducible repeat (first | apply Kd.V_alloc | apply Kd.V_drewN | apply Kd.V_drew)); exact HO_112005.out⟩, ⟨bkA BK101⟩, ⟨bkA BK111⟩, ⟨hbA HB⟩⟩
                ·
                 rw [if_neg c43] at H
                 exact absurd H (by simp)
               ·
                rw [if_neg c42] at H
                exact absurd H (by simp)
              ·
               replace c41 := Bool.eq_false_iff.mpr c41
               subst c41
               have H1 : (some 12) = some r := by rw [if_neg (show ¬ (false = true) by decide)] at H; exact H
               clear H
               have H := H1
               clear H1
               obtain rfl := Option.some.inj H
               have hnb52 := NB111_101.out; have hnc52 := NB101_111.out; have hcz53_0 : wr.cell? ⟨gb111, 0, none⟩ = some (.string t102) := bcA BK111 0; have hcz53_1 : wr.cell? ⟨gb111, 1, none⟩ = some (.int .i64 t103) := bcA BK111 1; have hcz53_2 : wr.cell? ⟨gb111, 2, none⟩ = some (.int .i64 t104) := bcA BK111 2; have hcz53_3 : wr.cell? ⟨gb111, 3, none⟩ = some (.int .i64 t105) := bcA BK111 3; have hcz53_4 : wr.cell? ⟨gb111, 4, none⟩ = some (.int .i64 t106) := bcA BK111 4; have hcz53_5 : wr.cell? ⟨gb111, 5, none⟩ = some (.slice Ao15 t107.length co15) := bcA BK111 5; have hfz53_0 := blk_frozen BK111.out 0; have hfz53_1 := blk_frozen BK111.out 1; have hfz53_2 := blk_frozen BK111.out 2; have hfz53_3 := blk_frozen BK111.out 3; have hfz53_4 := blk_frozen BK111.out 4; have hfz53_5 := blk_frozen BK111.out 5
               go_wp2
               repeat (go_quiet (fail); try go_wp2)
               go_ret
               exact ⟨by first | rfl | (simp [errW_none, errW_some] <;> rfl) | (simp [*, errW_none, errW_some] <;> rfl), hbA HB⟩
          ·
           rw [if_neg c24] at H
           have c24b0 : decide (x7_3 < (l0_3.length : Int)) = false := decide_eq_false c24
           clear c24
           have H' := Aside0.mk H
           clear H; have hnb54 := NB101_111.out; have hnc54 := NB111_101.out; have hcz55_0 : wr.cell? ⟨gb101, 0, none⟩ = some (.string a0_0) := bcA BK101 0; have hcz55_1 : wr.cell? ⟨gb101, 1, none⟩ = some (.slice A0_1 l0_1.length c0_1) := bcA BK101 1; have hcz55_2 : wr.cell? ⟨gb101, 2, none⟩ = some (.string a0_2) := bcA BK101 2; have hcz55_3 : wr.cell? ⟨gb101, 3, none⟩ = some (.slice A0_3 l0_3.length c0_3) := bcA BK101 3; have hfz55_0 := blk_frozen BK101.out 0; have hfz55_1 := blk_frozen BK101.out 1; have hfz55_2 := blk_frozen BK101.out 2; have hfz55_3 := blk_frozen BK101.out 3
           go_wp2
           repeat (go_quiet (fail); try go_wp2)
           go_loopg [10] k3 (fun kq v10 w' => ∃ (x10_4 : Int), v10 = .int .i64 x10_4 ∧ Aside0 (agateref13_Check.l2 kq x10_4 a0_0 l0_1 a0_2 l0_3 t102 t103 t104 t105 t106 t107 = some r) ∧ Aside0 (kq ≤ k3) ∧ Aside0 (Kd.V k91 91 w' w.heap.size (fun k_ => k_ ≠ gb101 ∧ k_ ≠ gb111) (.slice Ao15 t107.length co15) t107) ∧ Aside0 (w'.heap[gb101]? = some (.cells #[.string a0_0, (.slice A0_1 l0_1.length c0_1), .string a0_2, (.slice A0_3 l0_3.length c0_3)] 41 (0, 0))) ∧ Aside0 (w'.heap[gb111]? = some (.cells #[.string t102, .int .i64 t103, .int .i64 t104, .int .i64 t105, .int .i64 t106, (.slice Ao15 t107.length co15)] 72 (0, 0))) ∧ Aside0 (Below w.heap.size w w'))
           case atStart => exact ⟨(0), (by first | rfl | (simp; done) | (simp [*]; done)), H', ⟨Nat.le_refl _⟩, ⟨by (with_reducible repeat (first | apply Kd.V_alloc | apply Kd.V_drewN | apply Kd.V_drew)); exact HO_112005.out⟩, ⟨bkA BK101⟩, ⟨bkA BK111⟩, ⟨hbA HB⟩⟩
           case round =>
            clear H'
            obtain ⟨x10_4, rfl, HA, HK4, HO_112005, BK101, BK111, HB⟩ := hrel
            cases gk with
            | zero => exact absurd HA.out (by simp [agateref13_Check.l2])
            | succ k4 =>
             have H := HA.out; clear HA
             simp only [agateref13_Check.l2] at H
             by_cases c56 : x10_4 < (t107.length : Int)
             ·
              rw [if_pos c56] at H
              have c56b0 : decide (x10_4 < (t107.length : Int)) = true := decide_eq_true c56
              clear c56
              by_cases c57 : 0 ≤ x10_4
              ·
               rw [if_pos c57] at H
               have c57b0 : decide (0 ≤ x10_4) = true := decide_eq_true c57
               clear c57
               obtain ⟨bq58, hbq58⟩ : ∃ b_ : Bool, b_ = ((rd_T91 t107 x10_4).f2) := ⟨_, rfl⟩
               replace H : (if bq58 = true then ((agateref10_Find.f k4 l0_3 ((rd_T91 t107 x10_4).f0)).bind fun t120 => (if t120 < 0 then (some 12) else (agateref13_Check.l2 k4 (wrap64 (x10_4 + 1)) a0_0 l0_1 a0_2 l0_3 t102 t103 t104 t105 t106 t107))) else (agateref13_Check.l2 k4 (wrap64 (x10_4 + 1)) a0_0 l0_1 a0_2 l0_3 t102 t103 t104 t105 t106 t107)) = some r := by rw [← hbq58] at H; exact H
               have Nbq58 := Aside0.mk hbq58
               clear hbq58
               by_cases c59 : bq58 = true
               ·
                subst c59
                have H1 : ((agateref10_Find.f k4 l0_3 ((rd_T91 t107 x10_4).f0)).bind fun t120 => (if t120 < 0 then (some 12) else (agateref13_Check.l2 k4 (wrap64 (x10_4 + 1)) a0_0 l0_1 a0_2 l0_3 t102 t103 t104 t105 t106 t107))) = some r := by rw [if_pos rfl] at H; exact H
                clear H
                have H := H1
                clear H1
                replace H := Option.bind_eq_some_iff.mp H
                obtain ⟨t120, A600, H⟩ := H
                replace H : (if t120 < 0 then (some 12) else (agateref13_Check.l2 k4 (wrap64 (x10_4 + 1)) a0_0 l0_1 a0_2 l0_3 t102 t103 t104 t105 t106 t107)) = some r := H
                have A60 := Aside0.mk A600
                clear A600
                by_cases c61 : t120 < 0
                ·
                 rw [if_pos c61] at H
                 have c61b0 : decide (t120 < 0) = true := decide_eq_true c61
                 clear c61
                 obtain rfl := Option.some.inj H
                 have hnb62 := NB111_101.out; have hnc62 := NB101_111.out; have hcz63_0 : wr.cell? ⟨gb111, 0, none⟩ = some (.string t102) := bcA BK111 0; have hcz63_1 : wr.cell? ⟨gb111, 1, none⟩ = some (.int .i64 t103) := bcA BK111 1; have hcz63_2 : wr.cell? ⟨gb111, 2, none⟩ = some (.int .i64 t104) := bcA BK111 2; have hcz63_3 : wr.cell? ⟨gb111, 3, none⟩ = some (.int .i64 t105) := bcA BK111 3; have hcz63_4 : wr.cell? ⟨gb111, 4, none⟩ = some (.int .i64 t106) := bcA BK111 4; have hcz63_5 : wr.cell? ⟨gb111, 5, none⟩ = some (.slice Ao15 t107.length co15) := bcA BK111 5; have hfz63_0 := blk_frozen BK111.out 0; have hfz63_1 := blk_frozen BK111.out 1; have hfz63_2 := blk_frozen BK111.out 2; have hfz63_3 := blk_frozen BK111.out 3; have hfz63_4 := blk_frozen BK111.out 4; have hfz63_5 := blk_frozen BK111.out 5
                 have p118 : 0 ≤ (x10_4 : Int) := of_decide_eq_true (by first | (with_reducible assumption) | assumption)
                 have q118 : x10_4 < (t107.length : Int) := of_decide_eq_true (by first | (with_reducible assumption) | assumption)
                 obtain ⟨ad118, e118, hx118_0, hx118_1, hx118_2⟩ := at_T91 (Kd.V_reads' HO_112005.out).2.2 x10_4 p118 q118
                 (try rw [← Nbq58.out] at hx118_1)
                 (try rw [← Nbq58.out] at hx118_2)
                 cases e118
                 replace p118 := eq_true p118
                 replace q118 := eq_true q118
                 have hcz64_0 : wr.cell? ⟨gb101, 0, none⟩ = some (.string a0_0) := bcA BK101 0; have hcz64_1 : wr.cell? ⟨gb101, 1, none⟩ = some (.slice A0_1 l0_1.length c0_1) := bcA BK101 1; have hcz64_2 : wr.cell? ⟨gb101, 2, none⟩ = some (.string a0_2) := bcA BK101 2; have hcz64_3 : wr.cell? ⟨gb101, 3, none⟩ = some (.slice A0_3 l0_3.length c0_3) := bcA BK101 3; have hfz64_0 := blk_frozen BK101.out 0; have hfz64_1 := blk_frozen BK101.out 1; have hfz64_2 := blk_frozen BK101.out 2; have hfz64_3 := blk_frozen BK101.out 3
                 have p119 : 0 ≤ (x10_4 : Int) := of_decide_eq_true (by first | (with_reducible assumption) | assumption)
                 have q119 : x10_4 < (t107.length : Int) := of_decide_eq_true (by first | (with_reducible assumption) | assumption)
                 obtain ⟨ad119, e119, hx119_0, hx119_1, hx119_2⟩ := at_T91 (Kd.V_reads' HO_112005.out).2.2 x10_4 p119 q119
                 (try rw [← Nbq58.out] at hx119_1)
                 (try rw [← Nbq58.out] at hx119_2)
                 obtain rfl : ad118 = ad119 := (by injection e119)
                 replace p119 := eq_true p119
                 replace q119 := eq_true q119
                 go_wp2_with (first | (go_at_call 10; (with_reducible refine (agateref10_Find.calls k4 _ _ l0_3 ((rd_T91 t107 x10_4).f0) t120 _ ?side1 ?side2 A60.out).mono ?_); (case side1 => repeat (first | exact (Kd.C_below HR0_3.out HB.out) | (with_reducible refine Kd.C_alloc ?_ _) | (with_reducible refine Kd.C_drewN ?_ _) | (with_reducible refine Kd.C_drew ?_))); (case side2 => exact HC0_3.out); rintro e w' ⟨rfl, ⟨nd, rfl⟩⟩; (try first | exact ⟨rfl, _, World.drewN_drewN _ _ _⟩ | exact ⟨rfl, _, Eq.trans (World.drewN_drewN _ _ _) (congrArg (World.drewN _) (Nat.add_assoc _ _ _))⟩)))
                 repeat (go_quiet (first | (go_at_call 10; (with_reducible refine (agateref10_Find.calls k4 _ _ l0_3 ((rd_T91 t107 x10_4).f0) t120 _ ?side1 ?side2 A60.out).mono ?_); (case side1 => repeat (first | exact (Kd.C_below HR0_3.out HB.out) | (with_reducible refine Kd.C_alloc ?_ _) | (with_reducible refine Kd.C_drewN ?_ _) | (with_reducible refine Kd.C_drew ?_))); (case side2 => exact HC0_3.out); rintro e w' ⟨rfl, ⟨nd, rfl⟩⟩; (try first | exact ⟨rfl, _, World.drewN_drewN _ _ _⟩ | exact ⟨rfl, _, Eq.trans (World.drewN_drewN _ _ _) (congrArg (World.drewN _) (Nat.add_assoc _ _ _))⟩))); try go_wp2_with (first | (go_at_call 10; (with_reducible refine (agateref10_Find.calls k4 _ _ l0_3 ((rd_T91 t107 x10_4).f0) t120 _ ?side1 ?side2 A60.out).mono ?_); (case side1 => repeat (first | exact (Kd.C_below HR0_3.out HB.out) | (with_reducible refine Kd.C_alloc ?_ _) | (with_reducible refine Kd.C_drewN ?_ _) | (with_reducible refine Kd.C_drew ?_))); (case side2 => exact HC0_3.out); rintro e w' ⟨rfl, ⟨nd, rfl⟩⟩; (try first | exact ⟨rfl, _, World.drewN_drewN _ _ _⟩ | exact ⟨rfl, _, Eq.trans (World.drewN_drewN _ _ _) (congrArg (World.drewN _) (Nat.add_assoc _ _ _))⟩))))
                 go_ret
                 exact ⟨by first | rfl | (simp [errW_none, errW_some] <;> rfl) | (simp [*, errW_none, errW_some] <;> rfl), hbA HB⟩
                ·
                 rw [if_neg c61] at H
                 have c61b0 : decide (t120 < 0) = false := decide_eq_false c61
                 clear c61
                 have H' := Aside0.mk H
                 clear H; have hnb65 := NB111_101.out; have hnc65 := NB101_111.out; have hcz66_0 : wr.cell? ⟨gb111, 0, none⟩ = some (.string t102) := bcA BK111 0; have hcz66_1 : wr.cell? ⟨gb111, 1, none⟩ = some (.int .i64 t103) := bcA BK111 1; have hcz66_2 : wr.cell? ⟨gb111, 2, none⟩ = some (.int .i64 t104) := bcA BK111 2; have hcz66_3 : wr.cell? ⟨gb111, 3, none⟩ = some (.int .i64 t105) := bcA BK111 3; have hcz66_4 : wr.cell? ⟨gb111, 4, none⟩ = some (.int .i64 t106) := bcA BK111 4; have hcz66_5 : wr.cell? ⟨gb111, 5, none⟩ = some (.slice Ao15 t107.length co15) := bcA BK111 5; have hfz66_0 := blk_frozen BK111.out 0; have hfz66_1 := blk_frozen BK111.out 1; have hfz66_2 := blk_frozen BK111.out 2; have hfz66_3 := blk_frozen BK111.out 3; have hfz66_4 := blk_frozen BK111.out 4; have hfz66_5 := blk_frozen BK111.out 5
                 have p118 : 0 ≤ (x10_4 : Int) := of_decide_eq_true (by first | (with_reducible assumption) | assumption)
                 have q118 : x10_4 < (t107.length : Int) := of_decide_eq_true (by first | (with_reducible assumption) | assumption)
                 obtain ⟨ad118, e118, hx118_0, hx118_1, hx118_2⟩ := at_T91 (Kd.V_reads' HO_112005.out).2.2 x10_4 p118 q118
                 (try rw [← Nbq58.out] at hx118_1)
                 (try rw [← Nbq58.out] at hx118_2)
                 cases e118
                 replace p118 := eq_true p118
                 replace q118 := eq_true q118
                 have hcz67_0 : wr.cell? ⟨gb101, 0, none⟩ = some (.string a0_0) := bcA BK101 0; have hcz67_1 : wr.cell? ⟨gb101, 1, none⟩ = some (.slice A0_1 l0_1.length c0_1) := bcA BK101 1; have hcz67_2 : wr.cell? ⟨gb101, 2, none⟩ = some (.string a0_2) := bcA BK101 2; have hcz67_3 : wr.cell? ⟨gb101, 3, none⟩ = some (.slice A0_3 l0_3.length c0_3) := bcA BK101 3; have hfz67_0 := blk_frozen BK101.out 0; have hfz67_1 := blk_frozen BK101.out 1; have hfz67_2 := blk_frozen BK101.out 2; have hfz67_3 := blk_frozen BK101.out 3
                 have p119 : 0 ≤ (x10_4 : Int) := of_decide_eq_true (by first | (with_reducible assumption) | assumption)
                 have q119 : x10_4 < (t107.length : Int) := of_decide_eq_true (by first | (with_reducible assumption) | assumption)
                 obtain ⟨ad119, e119, hx119_0, hx119_1, hx119_2⟩ := at_T91 (Kd.V_reads' HO_112005.out).2.2 x10_4 p119 q119
                 (try rw [← Nbq58.out] at hx119_1)
                 (try rw [← Nbq58.out] at hx119_2)
                 obtain rfl : ad118 = ad119 := (by injection e119)
                 replace p119 := eq_true p119
                 replace q119 := eq_true q119
                 go_wp2_with (first | (go_at_call 10; (with_reducible refine (agateref10_Find.calls k4 _ _ l0_3 ((rd_T91 t107 x10_4).f0) t120 _ ?side1 ?side2 A60.out).mono ?_); (case side1 => repeat (first | exact (Kd.C_below HR0_3.out HB.out) | (with_reducible refine Kd.C_alloc ?_ _) | (with_reducible refine Kd.C_drewN ?_ _) | (with_reducible refine Kd.C_drew ?_))); (case side2 => exact HC0_3.out); rintro e w' ⟨rfl, ⟨nd, rfl⟩⟩; (try first | exact ⟨rfl, _, World.drewN_drewN _ _ _⟩ | exact ⟨rfl, _, Eq.trans (World.drewN_drewN _ _ _) (congrArg (World.drewN _) (Nat.add_assoc _ _ _))⟩)))
                 repeat (go_quiet (first | (go_at_call 10; (with_reducible refine (agateref10_Find.calls k4 _ _ l0_3 ((rd_T91 t107 x10_4).f0) t120 _ ?side1 ?side2 A60.out).mono ?_); (case side1 => repeat (first | exact (Kd.C_below HR0_3.out HB.out) | (with_reducible refine Kd.C_alloc ?_ _) | (with_reducible refine Kd.C_drewN ?_ _) | (with_reducible refine Kd.C_drew ?_))); (case side2 => exact HC0_3.out); rintro e w' ⟨rfl, ⟨nd, rfl⟩⟩; (try first | exact ⟨rfl, _, World.drewN_drewN _ _ _⟩ | exact ⟨rfl, _, Eq.trans (World.drewN_drewN _ _ _) (congrArg (World.drewN _) (Nat.add_assoc _ _ _))⟩))); try go_wp2_with (first | (go_at_call 10; (with_reducible refine (agateref10_Find.calls k4 _ _ l0_3 ((rd_T91 t107 x10_4).f0) t120 _ ?side1 ?side2 A60.out).mono ?_); (case side1 => repeat (first | exact (Kd.C_below HR0_3.out HB.out) | (with_reducible refine Kd.C_alloc ?_ _) | (with_reducible refine Kd.C_drewN ?_ _) | (with_reducible refine Kd.C_drew ?_))); (case side2 => exact HC0_3.out); rintro e w' ⟨rfl, ⟨nd, rfl⟩⟩; (try first | exact ⟨rfl, _, World.drewN_drewN _ _ _⟩ | exact ⟨rfl, _, Eq.trans (World.drewN_drewN _ _ _) (congrArg (World.drewN _) (Nat.add_assoc _ _ _))⟩))))
                 go_roundg k4
                 case measure => have := HJ2.out; have := HJ8.out; have := HK3.out; have := HK4.out; omega
                 case rel => exact ⟨(wrap64 (x10_4 + 1)), (by first | rfl | (simp; done) | (simp [*]; done)), H', ⟨by have := HJ2.out; have := HJ8.out; have := HK3.out; have := HK4.out; omega⟩, ⟨by (with_reducible repeat (first | apply Kd.V_alloc | apply Kd.V_drewN | apply Kd.V_drew)); exact HO_112005.out⟩, ⟨bkA BK101⟩, ⟨bkA BK111⟩, ⟨hbA HB⟩⟩
               ·
                replace c59 := Bool.eq_false_iff.mpr c59
                subst c59
                have H1 : (agateref13_Check.l2 k4 (wrap64 (x10_4 + 1)) a0_0 l0_1 a0_2 l0_3 t102 t103 t104 t105 t106 t107) = some r := by rw [if_neg (show ¬ (false = true) by decide)] at H; exact H
                clear H
                have H := H1
                clear H1
                have H' := Aside0.mk H
                clear H; have hnb68 := NB111_101.out; have hnc68 := NB101_111.out; have hcz69_0 : wr.cell? ⟨gb111, 0, none⟩ = some (.string t102) := bcA BK111 0; have hcz69_1 : wr.cell? ⟨gb111, 1, none⟩ = some (.int .i64 t103) := bcA BK111 1; have hcz69_2 : wr.cell? ⟨gb111, 2, none⟩ = some (.int .i64 t104) := bcA BK111 2; have hcz69_3 : wr.cell? ⟨gb111, 3, none⟩ = some (.int .i64 t105) := bcA BK111 3; have hcz69_4 : wr.cell? ⟨gb111, 4, none⟩ = some (.int .i64 t106) := bcA BK111 4; have hcz69_5 : wr.cell? ⟨gb111, 5, none⟩ = some (.slice Ao15 t107.length co15) := bcA BK111 5; have hfz69_0 := blk_frozen BK111.out 0; have hfz69_1 := blk_frozen BK111.out 1; have hfz69_2 := blk_frozen BK111.out 2; have hfz69_3 := blk_frozen BK111.out 3; have hfz69_4 := blk_frozen BK111.out 4; have hfz69_5 := blk_frozen BK111.out 5
                have p118 : 0 ≤ (x10_4 : Int) := of_decide_eq_true (by first | (with_reducible assumption) | assumption)
                have q118 : x10_4 < (t107.length : Int) := of_decide_eq_true (by first | (with_reducible assumption) | assumption)
                obtain ⟨ad118, e118, hx118_0, hx118_1, hx118_2⟩ := at_T91 (Kd.V_reads' HO_112005.out).2.2 x10_4 p118 q118
                (try rw [← Nbq58.out] at hx118_1)
                (try rw [← Nbq58.out] at hx118_2)
                cases e118
                replace p118 := eq_true p118
                replace q118 := eq_true q118
                go_wp2
                repeat (go_quiet (fail); try go_wp2)
                go_roundg k4
                case measure => have := HJ2.out; have := HJ8.out; have := HK3.out; have := HK4.out; omega
                case rel => exact ⟨(wrap64 (x10_4 + 1)), (by first | rfl | (simp; done) | (simp [*]; done)), H', ⟨by have := HJ2.out; have := HJ8.out; have := HK3.out; have := HK4.out; omega⟩, ⟨by (with_reducible repeat (first | apply Kd.V_alloc | apply Kd.V_drewN | apply Kd.V_drew)); exact HO_112005.out⟩, ⟨bkA BK101⟩, ⟨bkA BK111⟩, ⟨hbA HB⟩⟩
              ·
               rw [if_neg c57] at H
               exact absurd H (by simp)
             ·
              rw [if_neg c56] at H
              have c56b0 : decide (x10_4 < (t107.length : Int)) = false := decide_eq_false c56
              clear c56
              obtain rfl := Option.some.inj H
              have hnb70 := NB111_101.out; have hnc70 := NB101_111.out; have hcz71_0 : wr.cell? ⟨gb111, 0, none⟩ = some (.string t102) := bcA BK111 0; have hcz71_1 : wr.cell? ⟨gb111, 1, none⟩ = some (.int .i64 t103) := bcA BK111 1; have hcz71_2 : wr.cell? ⟨gb111, 2, none⟩ = some (.int .i64 t104) := bcA BK111 2; have hcz71_3 : wr.cell? ⟨gb111, 3, none⟩ = some (.int .i64 t105) := bcA BK111 3; have hcz71_4 : wr.cell? ⟨gb111, 4, none⟩ = some (.int .i64 t106) := bcA BK111 4; have hcz71_5 : wr.cell? ⟨gb111, 5, none⟩ = some (.slice Ao15 t107.length co15) := bcA BK111 5; have hfz71_0 := blk_frozen BK111.out 0; have hfz71_1 := blk_frozen BK111.out 1; have hfz71_2 := blk_frozen BK111.out 2; have hfz71_3 := blk_frozen BK111.out 3; have hfz71_4 := blk_frozen BK111.out 4; have hfz71_5 := blk_frozen BK111.out 5
              go_wp2
              repeat (go_quiet (fail); try go_wp2)
              go_ret
              exact ⟨by first | rfl | (simp [errW_none, errW_some] <;> rfl) | (simp [*, errW_none, errW_some] <;> rfl), hbA HB⟩
    ·
     replace c8 := Bool.eq_false_iff.mpr c8
     subst c8
     have H1 : (some 10) = some r := by rw [if_neg (show ¬ (false = true) by decide)] at H; exact H
     clear H
     have H := H1
     clear H1
     obtain rfl := Option.some.inj H
     have hcz72_0 : wc.cell? ⟨gb101, 0, none⟩ = some (.string a0_0) := bcA BK101 0; have hcz72_1 : wc.cell? ⟨gb101, 1, none⟩ = some (.slice A0_1 l0_1.length c0_1) := bcA BK101 1; have hcz72_2 : wc.cell? ⟨gb101, 2, none⟩ = some (.string a0_2) := bcA BK101 2; have hcz72_3 : wc.cell? ⟨gb101, 3, none⟩ = some (.slice A0_3 l0_3.length c0_3) := bcA BK101 3; have hfz72_0 := blk_frozen BK101.out 0; have hfz72_1 := blk_frozen BK101.out 1; have hfz72_2 := blk_frozen BK101.out 2; have hfz72_3 := blk_frozen BK101.out 3
     go_wp2_with (first | (go_at_call 25; (with_reducible refine (agateref13_Find.calls kj2 a0_0 a1 t102 t103 t104 t105 t106 t107 false _ A7.out).mono ?_); rintro e w73 ⟨v108, rfl, ho0, hb⟩; have n0_ := Aside0.mk (Kd.V_lower (Kd.V_mono (ok' := fun k_ => k_ ≠ gb101) ho0 (fun k_ hk_ => (Kd.freshB (g := gb101) (bkA BK101) k_ hk_))) (below_size (hbA HB))); have n1_ := Aside0.mk (blk_below (g := gb101) (bkA BK101) hb); have n2_ := Aside0.mk (below_step (hbA HB) hb); clear BK101; clear HB; have HO109 := n0_; have BK101 := n1_; have HB := n2_; clear n0_ n1_ n2_; (try clear hb); (try clear hb2); (try clear hk); (try clear hi); (try clear ho0)) | ((with_reducible refine gate_dst (N := 5) rfl ?_); (try (refine gate_guard (by rfl) ?_; dsimp only)); refine box_event ?hg (N := 5) ?hd (cs := #[.string (⟨#[]⟩ : ByteArray), .int .i64 0, .int .i64 0, .int .i64 0, .int .i64 0, .slice none 0 0]) (t := 72) ?hr ?_; (case hd => rfl); (case hg => rfl); (case hr => first | (go_simp; done) | (go_simp; rfl)); intro gb111 hg w74 hbox hb; have n0_ := Aside0.mk (Kd.V_below (Kd.V_elderB (by (with_reducible repeat (first | apply Kd.V_alloc | apply Kd.V_drewN | apply Kd.V_drew)); exact HO109.out) gb111 (Nat.le_of_eq hg.symm)) hb); have n1_ := Aside0.mk (blk_below (g := gb101) (bkA BK101) hb); have n2_ := Aside0.mk (below_step (hbA HB) hb); have n3_ := Aside0.mk (hbox); have n4_ := Aside0.mk ((by rw [hg]; exact (below_size (hbA HB)) : w.heap.size ≤ gb111)); have n5_ := Aside0.mk ((by rw [hg]; exact (below_size (hbA HB)) : w.heap.size ≤ gb111)); have n6_ := Aside0.mk ((by rw [hg]; exact Nat.ne_of_lt (blk_lt (g := gb101) (bkA BK101)) : gb101 ≠ gb111)); have n7_ := Aside0.mk ((by rw [hg]; exact Nat.ne_of_gt (blk_lt (g := gb101) (bkA BK101)) : gb111 ≠ gb101)); clear HO109; clear BK101; clear HB; have HO109 := n0_; have BK101 := n1_; have HB := n2_; have BK111 := n3_; have GW111 := n4_; have GE111 := n5_; have NB101_111 := n6_; have NB111_101 := n7_; clear n0_ n1_ n2_ n3_ n4_ n5_ n6_ n7_; clear hb hbox hg; have hnb75 := NB111_101.out; have hnc75 := NB101_111.out; have hcz76_0 : w74.cell? ⟨gb111, 0, none⟩ = some (.string (⟨#[]⟩ : ByteArray)) := bcA BK111 0; have hcz76_1 : w74.cell? ⟨gb111, 1, none⟩ = some (.int .i64 0) := bcA BK111 1; have hcz76_2 : w74.cell? ⟨gb111, 2, none⟩ = some (.int .i64 0) := bcA BK111 2; have hcz76_3 : w74.cell? ⟨gb111, 3, none⟩ = some (.int .i64 0) := bcA BK111 3; have hcz76_4 : w74.cell? ⟨gb111, 4, none⟩ = some (.int .i64 0) := bcA BK111 4; have hcz76_5 : w74.cell? ⟨gb111, 5, none⟩ = some (.slice none 0 0) := bcA BK111 5; have hfz76_0 := blk_frozen BK111.out 0; have hfz76_1 := blk_frozen BK111.out 1; have hfz76_2 := blk_frozen BK111.out 2; have hfz76_3 := blk_frozen BK111.out 3; have hfz76_4 := blk_frozen BK111.out 4; have hfz76_5 := blk_frozen BK111.out 5; obtain ⟨Ao77, co77, eo77⟩ := Kd.V_slice HO109.out; subst eo77))
     repeat (go_quiet (first | (go_at_call 25; (with_reducible refine (agateref13_Find.calls kj2 a0_0 a1 t102 t103 t104 t105 t106 t107 false _ A7.out).mono ?_); rintro e w73 ⟨v108, rfl, ho0, hb⟩; have n0_ := Aside0.mk (Kd.V_lower (Kd.V_mono (ok' := fun k_ => k_ ≠ gb101) ho0 (fun k_ hk_ => (Kd.freshB (g := gb101) (bkA BK101) k_ hk_))) (below_size (hbA HB))); have n1_ := Aside0.mk (blk_below (g := gb101) (bkA BK101) hb); have n2_ := Aside0.mk (below_step (hbA HB) hb); clear BK101; clear HB; have HO109 := n0_; have BK101 := n1_; have HB := n2_; clear n0_ n1_ n2_; (try clear hb); (try clear hb2); (try clear hk); (try clear hi); (try clear ho0)) | ((with_reducible refine gate_dst (N := 5) rfl ?_); (try (refine gate_guard (by rfl) ?_; dsimp only)); refine box_event ?hg (N := 5) ?hd (cs := #[.string (⟨#[]⟩ : ByteArray), .int .i64 0, .int .i64 0, .int .i64 0, .int .i64 0, .slice none 0 0]) (t := 72) ?hr ?_; (case hd => rfl); (case hg => rfl); (case hr => first | (go_simp; done) | (go_simp; rfl)); intro gb111 hg w74 hbox hb; have n0_ := Aside0.mk (Kd.V_below (Kd.V_elderB (by (with_reducible repeat (first | apply Kd.V_alloc | apply Kd.V_drewN | apply Kd.V_drew)); exact HO109.out) gb111 (Nat.le_of_eq hg.symm)) hb); have n1_ := Aside0.mk (blk_below (g := gb101) (bkA BK101) hb); have n2_ := Aside0.mk (below_step (hbA HB) hb); have n3_ := Aside0.mk (hbox); have n4_ := Aside0.mk ((by rw [hg]; exact (below_size (hbA HB)) : w.heap.size ≤ gb111)); have n5_ := Aside0.mk ((by rw [hg]; exact (below_size (hbA HB)) : w.heap.size ≤ gb111)); have n6_ := Aside0.mk ((by rw [hg]; exact Nat.ne_of_lt (blk_lt (g := gb101) (bkA BK101)) : gb101 ≠ gb111)); have n7_ := Aside0.mk ((by rw [hg]; exact Nat.ne_of_gt (blk_lt (g := gb101) (bkA BK101)) : gb111 ≠ gb101)); clear HO109; clear BK101; clear HB; have HO109 := n0_; have BK101 := n1_; have HB := n2_; have BK111 := n3_; have GW111 := n4_; have GE111 := n5_; have NB101_111 := n6_; have NB111_101 := n7_; clear n0_ n1_ n2_ n3_ n4_ n5_ n6_ n7_; clear hb hbox hg; have hnb75 := NB111_101.out; have hnc75 := NB101_111.out; have hcz76_0 : w74.cell? ⟨gb111, 0, none⟩ = some (.string (⟨#[]⟩ : ByteArray)) := bcA BK111 0; have hcz76_1 : w74.cell? ⟨gb111, 1, none⟩ = some (.int .i64 0) := bcA BK111 1; have hcz76_2 : w74.cell? ⟨gb111, 2, none⟩ = some (.int .i64 0) := bcA BK111 2; have hcz76_3 : w74.cell? ⟨gb111, 3, none⟩ = some (.int .i64 0) := bcA BK111 3; have hcz76_4 : w74.cell? ⟨gb111, 4, none⟩ = some (.int .i64 0) := bcA BK111 4; have hcz76_5 : w74.cell? ⟨gb111, 5, none⟩ = some (.slice none 0 0) := bcA BK111 5; have hfz76_0 := blk_frozen BK111.out 0; have hfz76_1 := blk_frozen BK111.out 1; have hfz76_2 := blk_frozen BK111.out 2; have hfz76_3 := blk_frozen BK111.out 3; have hfz76_4 := blk_frozen BK111.out 4; have hfz76_5 := blk_frozen BK111.out 5; obtain ⟨Ao77, co77, eo77⟩ := Kd.V_slice HO109.out; subst eo77)); try go_wp2_with (first | (go_at_call 25; (with_reducible refine (agateref13_Find.calls kj2 a0_0 a1 t102 t103 t104 t105 t106 t107 false _ A7.out).mono ?_); rintro e w73 ⟨v108, rfl, ho0, hb⟩; have n0_ := Aside0.mk (Kd.V_lower (Kd.V_mono (ok' := fun k_ => k_ ≠ gb101) ho0 (fun k_ hk_ => (Kd.freshB (g := gb101) (bkA BK101) k_ hk_))) (below_size (hbA HB))); have n1_ := Aside0.mk (blk_below (g := gb101) (bkA BK101) hb); have n2_ := Aside0.mk (below_step (hbA HB) hb); clear BK101; clear HB; have HO109 := n0_; have BK101 := n1_; have HB := n2_; clear n0_ n1_ n2_; (try clear hb); (try clear hb2); (try clear hk); (try clear hi); (try clear ho0)) | ((with_reducible refine gate_dst (N := 5) rfl ?_); (try (refine gate_guard (by rfl) ?_; dsimp only)); refine box_event ?hg (N := 5) ?hd (cs := #[.string (⟨#[]⟩ : ByteArray), .int .i64 0, .int .i64 0, .int .i64 0, .int .i64 0, .slice none 0 0]) (t := 72) ?hr ?_; (case hd => rfl); (case hg => rfl); (case hr => first | (go_simp; done) | (go_simp; rfl)); intro gb111 hg w74 hbox hb; have n0_ := Aside0.mk (Kd.V_below (Kd.V_elderB (by (with_reducible repeat (first | apply Kd.V_alloc | apply Kd.V_drewN | apply Kd.V_drew)); exact HO109.out) gb111 (Nat.le_of_eq hg.symm)) hb); have n1_ := Aside0.mk (blk_below (g := gb101) (bkA BK101) hb); have n2_ := Aside0.mk (below_step (hbA HB) hb); have n3_ := Aside0.mk (hbox); have n4_ := Aside0.mk ((by rw [hg]; exact (below_size (hbA HB)) : w.heap.size ≤ gb111)); have n5_ := Aside0.mk ((by rw [hg]; exact (below_size (hbA HB)) : w.heap.size ≤ gb111)); have n6_ := Aside0.mk ((by rw [hg]; exact Nat.ne_of_lt (blk_lt (g := gb101) (bkA BK101)) : gb101 ≠ gb111)); have n7_ := Aside0.mk ((by rw [hg]; exact Nat.ne_of_gt (blk_lt (g := gb101) (bkA BK101)) : gb111 ≠ gb101)); clear HO109; clear BK101; clear HB; have HO109 := n0_; have BK101 := n1_; have HB := n2_; have BK111 := n3_; have GW111 := n4_; have GE111 := n5_; have NB101_111 := n6_; have NB111_101 := n7_; clear n0_ n1_ n2_ n3_ n4_ n5_ n6_ n7_; clear hb hbox hg; have hnb75 := NB111_101.out; have hnc75 := NB101_111.out; have hcz76_0 : w74.cell? ⟨gb111, 0, none⟩ = some (.string (⟨#[]⟩ : ByteArray)) := bcA BK111 0; have hcz76_1 : w74.cell? ⟨gb111, 1, none⟩ = some (.int .i64 0) := bcA BK111 1; have hcz76_2 : w74.cell? ⟨gb111, 2, none⟩ = some (.int .i64 0) := bcA BK111 2; have hcz76_3 : w74.cell? ⟨gb111, 3, none⟩ = some (.int .i64 0) := bcA BK111 3; have hcz76_4 : w74.cell? ⟨gb111, 4, none⟩ = some (.int .i64 0) := bcA BK111 4; have hcz76_5 : w74.cell? ⟨gb111, 5, none⟩ = some (.slice none 0 0) := bcA BK111 5; have hfz76_0 := blk_frozen BK111.out 0; have hfz76_1 := blk_frozen BK111.out 1; have hfz76_2 := blk_frozen BK111.out 2; have hfz76_3 := blk_frozen BK111.out 3; have hfz76_4 := blk_frozen BK111.out 4; have hfz76_5 := blk_frozen BK111.out 5; obtain ⟨Ao77, co77, eo77⟩ := Kd.V_slice HO109.out; subst eo77)))
     go_ret
     exact ⟨by first | rfl | (simp [errW_none, errW_some] <;> rfl) | (simp [*, errW_none, errW_some] <;> rfl), hbA HB⟩
end Go.Proofs.Ytdemgfbolcmcdaa.X
