import Derived.Test.YtfejdnkmmjffcaaMModelTells3
import Derived.Test.YtfejdnkmmjffcaaMModelTells11
import Derived.Test.YtfejdnkmmjffcaaMModelTells4
namespace Go.Proofs.Ytfejdnkmmjffcaa.X
open Go.RowKit Go.Proofs.YtfejdnkmmjffcaaW.PrintWords Go.Proofs.YtfejdnkmmjffcaaW.PrintLast Go.Proofs.YtfejdnkmmjffcaaW.PrintMore
attribute [local go_sem] max2_int min2_int max_two min_two max_three min_three max_four min_four
set_option linter.unusedVariables false
set_option linter.unusedSimpArgs false
def agateref10_infos.l0 : Nat → List (S89) → List (S89) → Int → Option (Bool)
 | 0, _, _, _ => none
 | k + 1, x0, x1, x5 => if x5 < (x0.length : Int) then (if 0 ≤ x5 then (if x5 < (x1.length : Int) then (if ((rd_T89 x0 x5).f0).toList = ((rd_T89 x1 x5).f0).toList then (if ((rd_T89 x0 x5).f1) = ((rd_T89 x1 x5).f1) then ((agateref10_Ints.f k ((rd_T89 x0 x5).f2) ((rd_T89 x1 x5).f2)).bind fun t107 => (if t107 = true then (agateref10_infos.l0 k x0 x1 (wrap64 (x5 + 1))) else (some false))) else (some false)) else (some false)) else (none)) else (none)) else (some true)
def agateref10_infos.f (k : Nat) (l0 : List (S89)) (l1 : List (S89)) : Option (Bool) := if (l0.length : Int) = (l1.length : Int) then (agateref10_infos.l0 k l0 l1 0) else (some false)
def agateref10_infos.T6 : Bool × List (List Nat × List Nat) := (true, [([], []), ([], []), ([0, 1], [0, 1]), ([2], [2]), ([3], [3]), ([], []), ([], []), ([5, 6], [5, 6]), ([7], [7]), ([8], [8]), ([4, 9], [4, 9]), ([10], [10]), ([11], [11]), ([11], [11]), ([12, 13, 11], [11, 12, 13]), ([14, 11], [11, 14]), ([15, 11], [11, 15]), ([11], [11]), ([11], [11]), ([17, 18, 11], [11, 17, 18]), ([19, 11], [11, 19]), ([20, 11], [11, 20]), ([16, 21, 11], [11, 16, 21]), ([11, 22], [11, 22]), ([23, 11], [23]), ([24], [24]), ([24], [24]), ([25, 26, 24], [24, 25, 26]), ([27, 24], [24, 27]), ([28, 24], [24, 28]), ([24], [24]), ([24], [24]), ([30, 31, 24], [24, 30, 31]), ([32, 24], [24, 32]), ([33, 24], [24, 33]), ([29, 34, 24, 24], [24, 29, 34]), ([35, 24], [24, 35]), ([24, 36], [24, 36])])
def agateref10_infos.B6 : List Nat := [0, 0, 3, 7, 15, 0, 0, 96, 224, 480, 1023, 2047, 4095, 4095, 16383, 32767, 65535, 4095, 4095, 397311, 921599, 1970175, 4194303, 8388607, 16777215, 33554431, 33554431, 134217727, 268435455, 536870911, 33554431, 33554431, 3254779903, 7549747199, 16139681791, 34359738367, 68719476735, 137438953471]
theorem agateref10_infos.tab6 : rtab .any (opsOf Try.f22 6) = agateref10_infos.T6 := by kernel_rfl
theorem agateref10_infos.bits6 : waitsOk agateref10_infos.T6.2 agateref10_infos.B6 = true := by kernel_rfl
set_option maxHeartbeats 8000000 in
set_option maxRecDepth 100000 in
theorem agateref10_infos.calls (k : Nat) (A0 : Option Addr) (c0 : Nat) (l0 : List (S89)) (A1 : Option Addr) (c1 : Nat) (l1 : List (S89)) (r : Bool) (w : World) (hr0 : Kd.C k89 w A0 l0.length l0) (hc0 : l0.length ≤ c0) (hr1 : Kd.C k89 w A1 l1.length l1) (hc1 : l1.length ≤ c1) (h : agateref10_infos.f k l0 l1 = some r) :
  Calls Try.prog 22 #[.slice A0 l0.length c0, .slice A1 l1.length c1] w fun e w' => e = .returned (.bool r) ∧ Below w.heap.size w w' := by
 have HR0 := mk0 hr0; have HC0 := mk0 hc0; clear hr0 hc0; have HR1 := mk0 hr1; have HC1 := mk0 hc1; clear hr1 hc1; have HB := mk0 (Below.refl w.heap.size w); have H : (if (l0.length : Int) = (l1.length : Int) then (agateref10_infos.l0 k l0 l1 0) else (some false)) = some r := h; clear h
 by_cases c3 : (l0.length : Int) = (l1.length : Int)
 ·
  rw [if_pos c3] at H; have c3b0 := beq_iff_eq.mpr c3; have c3b1 := bne_eq_false_iff_eq.mpr c3; have c3b2 : (l0.length == l1.length) = true := by first | simpa using c3 | (simp at c3 ⊢; omega)
  clear c3; have H' := mk0 H; clear H
  go_enter Try.func22, Try.ntmps22
  go_wp2
  go_loopg [5] k (fun kq v5 w' => ∃ (x5_1 : Int), v5 = .int .i64 x5_1 ∧ Aside0 (agateref10_infos.l0 kq l0 l1 x5_1 = some r) ∧ Aside0 (kq ≤ k) ∧ Aside0 (Below w.heap.size w w'))
  case atStart => exact ⟨(0), cl0, H', ⟨Nat.le_refl _⟩, ⟨hbA HB⟩⟩
  case round =>
   clear H'; try clear c1; try clear c3; try clear c3b0; try clear c3b1; try clear c3b2
   obtain ⟨x5_1, rfl, HA, HK1, HB⟩ := hrel
   cases gk with
   | zero => exact absurd HA.out (by simp [agateref10_infos.l0])
   | succ k1 =>
    have H := HA.out; clear HA
    simp only [agateref10_infos.l0] at H
    by_cases c4 : x5_1 < (l0.length : Int)
    ·
     rw [if_pos c4] at H; have c4b0 := decide_eq_true c4; clear c4; replace H := ifS H; obtain ⟨c5, H⟩ := H; have c5b0 := decide_eq_true c5; clear c5; replace H := ifS H; obtain ⟨c6, H⟩ := H; have c6b0 := decide_eq_true c6; clear c6
     by_cases c7 : ((rd_T89 l0 x5_1).f0).toList = ((rd_T89 l1 x5_1).f0).toList
     ·
      rw [if_pos c7] at H; have c7b0 := beq_iff_eq.mpr c7; have c7b1 := bne_eq_false_iff_eq.mpr c7; clear c7
      by_cases c8 : ((rd_T89 l0 x5_1).f1) = ((rd_T89 l1 x5_1).f1)
      ·
       rw [if_pos c8] at H; have c8b0 := beq_iff_eq.mpr c8; have c8b1 := bne_eq_false_iff_eq.mpr c8; clear c8; replace H := bnd H; obtain ⟨t107, A9, H⟩ := H
       by_cases c10 : t107 = true
       ·
        subst c10; have H1 : (agateref10_infos.l0 k1 l0 l1 (wrap64 (x5_1 + 1))) = some r := by rw [if_pos rfl] at H; exact H
        clear H; have H := H1; clear H1; have H' := mk0 H; clear H
        try go_wp2
        replace HB := mk0 (below_drew1 HB.out); have p101 : 0 ≤ (x5_1 : Int) := ofd; have q101 : x5_1 < (l0.length : Int) := ofd; obtain ⟨ad101, A101_2, c101_2, e101, hx101_0, hx101_1, hx101_2, hl101_2, hi101_2⟩ := at_T89 HR0.out x5_1 p101 q101; have hw101_2 := hx101_2; have hw101_1 := hx101_1; have hw101_0 := hx101_0; cases e101; replace hx101_0 := hbc HB hx101_0; replace hx101_1 := hbc HB hx101_1; replace hx101_2 := hbc HB hx101_2; have HR101_2 := mk0 hi101_2; have HC101_2 := mk0 hl101_2; clear hi101_2 hl101_2; replace p101 := eq_true p101; replace q101 := eq_true q101; have p102 : 0 ≤ (x5_1 : Int) := ofd; have q102 : x5_1 < (l1.length : Int) := ofd; obtain ⟨ad102, A102_2, c102_2, e102, hx102_0, hx102_1, hx102_2, hl102_2, hi102_2⟩ := at_T89 HR1.out x5_1 p102 q102; have hw102_2 := hx102_2; have hw102_1 := hx102_1; have hw102_0 := hx102_0; cases e102; replace hx102_0 := hbc HB hx102_0; replace hx102_1 := hbc HB hx102_1; replace hx102_2 := hbc HB hx102_2; have HR102_2 := mk0 hi102_2; have HC102_2 := mk0 hl102_2; clear hi102_2 hl102_2; replace p102 := eq_true p102; replace q102 := eq_true q102; have p103 : 0 ≤ (x5_1 : Int) := ofd; have q103 : x5_1 < (l0.length : Int) := ofd; obtain ⟨ad103, A103_2, c103_2, e103, hx103_0, hx103_1, hx103_2, hl103_2, hi103_2⟩ := at_T89 HR0.out x5_1 p103 q103; have hw103_2 := hx103_2; have hw103_1 := hx103_1; have hw103_0 := hx103_0; obtain rfl : ad101 = ad103 := (by injection e103); replace hx103_0 := hbc HB hx103_0; replace hx103_1 := hbc HB hx103_1; replace hx103_2 := hbc HB hx103_2; have HR103_2 := mk0 hi103_2; have HC103_2 := mk0 hl103_2; clear hi103_2 hl103_2; replace p103 := eq_true p103; replace q103 := eq_true q103; have ea_ := Option.some.inj (hx101_2.symm.trans hx103_2); injection ea_ with ea_ en_ ec_; subst ea_; subst ec_; clear en_; have p104 : 0 ≤ (x5_1 : Int) := ofd; have q104 : x5_1 < (l1.length : Int) := ofd; obtain ⟨ad104, A104_2, c104_2, e104, hx104_0, hx104_1, hx104_2, hl104_2, hi104_2⟩ := at_T89 HR1.out x5_1 p104 q104; have hw104_2 := hx104_2
        have hw104_1 := hx104_1; have hw104_0 := hx104_0; obtain rfl : ad102 = ad104 := (by injection e104); replace hx104_0 := hbc HB hx104_0; replace hx104_1 := hbc HB hx104_1; replace hx104_2 := hbc HB hx104_2; have HR104_2 := mk0 hi104_2; have HC104_2 := mk0 hl104_2; clear hi104_2 hl104_2; replace p104 := eq_true p104; replace q104 := eq_true q104; have ea_ := Option.some.inj (hx102_2.symm.trans hx104_2); injection ea_ with ea_ en_ ec_; subst ea_; subst ec_; clear en_; have p105 : 0 ≤ (x5_1 : Int) := ofd; have q105 : x5_1 < (l0.length : Int) := ofd; obtain ⟨ad105, A105_2, c105_2, e105, hx105_0, hx105_1, hx105_2, hl105_2, hi105_2⟩ := at_T89 HR0.out x5_1 p105 q105; have hw105_2 := hx105_2; have hw105_1 := hx105_1; have hw105_0 := hx105_0; obtain rfl : ad101 = ad105 := (by injection e105); replace hx105_0 := hbc HB hx105_0; replace hx105_1 := hbc HB hx105_1; replace hx105_2 := hbc HB hx105_2; have HR105_2 := mk0 hi105_2; have HC105_2 := mk0 hl105_2; clear hi105_2 hl105_2; replace p105 := eq_true p105; replace q105 := eq_true q105; have ea_ := Option.some.inj (hx101_2.symm.trans hx105_2); injection ea_ with ea_ en_ ec_; subst ea_; subst ec_; clear en_; have p106 : 0 ≤ (x5_1 : Int) := ofd; have q106 : x5_1 < (l1.length : Int) := ofd; obtain ⟨ad106, A106_2, c106_2, e106, hx106_0, hx106_1, hx106_2, hl106_2, hi106_2⟩ := at_T89 HR1.out x5_1 p106 q106; have hw106_2 := hx106_2; have hw106_1 := hx106_1; have hw106_0 := hx106_0; obtain rfl : ad102 = ad106 := (by injection e106); replace hx106_0 := hbc HB hx106_0; replace hx106_1 := hbc HB hx106_1; replace hx106_2 := hbc HB hx106_2; have HR106_2 := mk0 hi106_2; have HC106_2 := mk0 hl106_2; clear hi106_2 hl106_2; replace p106 := eq_true p106; replace q106 := eq_true q106; have ea_ := Option.some.inj (hx102_2.symm.trans hx106_2); injection ea_ with ea_ en_ ec_; subst ea_; subst ec_; clear en_
        refine start_ (n := 38) (S := fun w' => w'.cell? (ad101.add ((x5_1).toNat * 3)) = some (.string ((rd_T89 l0 x5_1).f0)) ∧ w'.cell? ⟨(ad101.add ((x5_1).toNat * 3)).block, (ad101.add ((x5_1).toNat * 3)).off + 1, none⟩ = some (.int .i64 ((rd_T89 l0 x5_1).f1)) ∧ w'.cell? ⟨(ad101.add ((x5_1).toNat * 3)).block, (ad101.add ((x5_1).toNat * 3)).off + 2, none⟩ = some (.slice A101_2 ((rd_T89 l0 x5_1).f2).length c101_2) ∧ w'.cell? (ad102.add ((x5_1).toNat * 3)) = some (.string ((rd_T89 l1 x5_1).f0)) ∧ w'.cell? ⟨(ad102.add ((x5_1).toNat * 3)).block, (ad102.add ((x5_1).toNat * 3)).off + 1, none⟩ = some (.int .i64 ((rd_T89 l1 x5_1).f1)) ∧ w'.cell? ⟨(ad102.add ((x5_1).toNat * 3)).block, (ad102.add ((x5_1).toNat * 3)).off + 2, none⟩ = some (.slice A102_2 ((rd_T89 l1 x5_1).f2).length c102_2) ∧ w'.cell? (ad101.add ((x5_1).toNat * 3)) = some (.string ((rd_T89 l0 x5_1).f0)) ∧ w'.cell? ⟨(ad101.add ((x5_1).toNat * 3)).block, (ad101.add ((x5_1).toNat * 3)).off + 1, none⟩ = some (.int .i64 ((rd_T89 l0 x5_1).f1)) ∧ w'.cell? ⟨(ad101.add ((x5_1).toNat * 3)).block, (ad101.add ((x5_1).toNat * 3)).off + 2, none⟩ = some (.slice A101_2 ((rd_T89 l0 x5_1).f2).length c101_2) ∧ w'.cell? (ad102.add ((x5_1).toNat * 3)) = some (.string ((rd_T89 l1 x5_1).f0)) ∧ w'.cell? ⟨(ad102.add ((x5_1).toNat * 3)).block, (ad102.add ((x5_1).toNat * 3)).off + 1, none⟩ = some (.int .i64 ((rd_T89 l1 x5_1).f1)) ∧ w'.cell? ⟨(ad102.add ((x5_1).toNat * 3)).block, (ad102.add ((x5_1).toNat * 3)).off + 2, none⟩ = some (.slice A102_2 ((rd_T89 l1 x5_1).f2).length c102_2) ∧ w'.cell? (ad101.add ((x5_1).toNat * 3)) = some (.string ((rd_T89 l0 x5_1).f0)) ∧ w'.cell? ⟨(ad101.add ((x5_1).toNat * 3)).block, (ad101.add ((x5_1).toNat * 3)).off + 1, none⟩ = some (.int .i64 ((rd_T89 l0 x5_1).f1)) ∧ w'.cell? ⟨(ad101.add ((x5_1).toNat * 3)).block, (ad101.add ((x5_1).toNat * 3)).off + 2, none⟩ = some (.slice A101_2 ((rd_T89 l0 x5_1).f2).length c101_2) ∧ w'.cell? (ad102.add ((x5_1).toNat * 3)) = some (.string ((rd_T89 l1 x5_1).f0)) ∧ w'.cell? ⟨(ad102.add ((x5_1).toNat * 3)).block, (ad102.add ((x5_1).toNat * 3)).off + 1, none⟩ = some (.int .i64 ((rd_T89 l1 x5_1).f1)) ∧ w'.cell? ⟨(ad102.add ((x5_1).toNat * 3)).block, (ad102.add ((x5_1).toNat * 3)).off + 2, none⟩ = some (.slice A102_2 ((rd_T89 l1 x5_1).f2).length c102_2)) (ds := []) (bA 38 0) (by kernel_rfl) rfl rfl ⟨((HB.out.cell (World.block_lt_of_cell? w _ hw101_0)).trans hw101_0), ((HB.out.cell (World.block_lt_of_cell? w _ hw101_1)).trans hw101_1), ((HB.out.cell (World.block_lt_of_cell? w _ hw101_2)).trans hw101_2), ((HB.out.cell (World.block_lt_of_cell? w _ hw102_0)).trans hw102_0), ((HB.out.cell (World.block_lt_of_cell? w _ hw102_1)).trans hw102_1), ((HB.out.cell (World.block_lt_of_cell? w _ hw102_2)).trans hw102_2), ((HB.out.cell (World.block_lt_of_cell? w _ hw103_0)).trans hw103_0), ((HB.out.cell (World.block_lt_of_cell? w _ hw103_1)).trans hw103_1), ((HB.out.cell (World.block_lt_of_cell? w _ hw103_2)).trans hw103_2), ((HB.out.cell (World.block_lt_of_cell? w _ hw104_0)).trans hw104_0), ((HB.out.cell (World.block_lt_of_cell? w _ hw104_1)).trans hw104_1), ((HB.out.cell (World.block_lt_of_cell? w _ hw104_2)).trans hw104_2), ((HB.out.cell (World.block_lt_of_cell? w _ hw105_0)).trans hw105_0), ((HB.out.cell (World.block_lt_of_cell? w _ hw105_1)).trans hw105_1), ((HB.out.cell (World.block_lt_of_cell? w _ hw105_2)).trans hw105_2), ((HB.out.cell (World.block_lt_of_cell? w _ hw106_0)).trans hw106_0), ((HB.out.cell (World.block_lt_of_cell? w _ hw106_1)).trans hw106_1), ((HB.out.cell (World.block_lt_of_cell? w _ hw106_2)).trans hw106_2)⟩ (fun hHeld => ?_); refine with_tabW agateref10_infos.tab6 agateref10_infos.bits6 (fun HT_ HW_ => ?_)
        generalize wr.drew = w11 at HB HR101_2 HR102_2 HR103_2 HR104_2 HR105_2 HR106_2 hx101_0 hx101_1 hx101_2 hx102_0 hx102_1 hx102_2 hx103_0 hx103_1 hx103_2 hx104_0 hx104_1 hx104_2 hx105_0 hx105_1 hx105_2 hx106_0 hx106_1 hx106_2 hHeld ⊢
        refine puE (i := 0) (N := some 17) (bA 38 1) HT_ ?_
        refine puE (i := 1) (N := some 18) (bA 38 3) HT_ ?_
        refine puE (i := 2) (N := some 19) (bA 38 7) HT_ ?_
        refine puE (i := 3) (N := some 20) (bA 38 15) HT_ ?_
        refine puE (i := 5) (N := some 22) (bA 38 47) HT_ ?_
        refine puE (i := 6) (N := some 23) (bA 38 111) HT_ ?_
        refine puE (i := 7) (N := some 24) (bA 38 239) HT_ ?_
        refine puE (i := 8) (N := some 25) (bA 38 495) HT_ ?_
        refine taE (i := 4) (N := some 21) (bA 38 511) HT_ HW_ hHeld ?_
        refine taE (i := 9) (N := some 26) (bA 38 1023) HT_ HW_ hHeld ?_
        refine puE (i := 10) (N := some 27) (bA 38 2047) HT_ ?_
        refine puE (i := 11) (N := some 28) (bA 38 4095) HT_ ?_
        refine puE (i := 12) (N := some 29) (bA 38 8191) HT_ ?_
        refine puE (i := 13) (N := some 30) (bA 38 16383) HT_ ?_
        refine puE (i := 14) (N := some 31) (bA 38 32767) HT_ ?_
        refine puE (i := 15) (N := some 32) (bA 38 65535) HT_ ?_
        refine puE (i := 17) (N := some 34) (bA 38 196607) HT_ ?_
        refine puE (i := 18) (N := some 35) (bA 38 458751) HT_ ?_
        refine puE (i := 19) (N := some 36) (bA 38 983039) HT_ ?_
        refine puE (i := 20) (N := some 37) (bA 38 2031615) HT_ ?_
        refine taE (i := 16) (N := some 33) (bA 38 2097151) HT_ HW_ hHeld ?_
        refine taE (i := 21) (N := some 38) (bA 38 4194303) HT_ HW_ hHeld ?_
        refine puE (i := 22) (N := some 39) (bA 38 8388607) HT_ ?_
        refine puE (i := 23) (N := some 40) (bA 38 16777215) HT_ ?_
        refine puE (i := 24) (N := some 41) (bA 38 33554431) HT_ ?_
        refine puE (i := 25) (N := some 42) (bA 38 67108863) HT_ ?_
        refine puE (i := 26) (N := some 43) (bA 38 134217727) HT_ ?_
        refine puE (i := 27) (N := some 44) (bA 38 268435455) HT_ ?_
        refine puE (i := 28) (N := some 45) (bA 38 536870911) HT_ ?_
        refine puE (i := 30) (N := some 47) (bA 38 1610612735) HT_ ?_
        refine puE (i := 31) (N := some 48) (bA 38 3758096383) HT_ ?_
        refine puE (i := 32) (N := some 49) (bA 38 8053063679) HT_ ?_
        refine puE (i := 33) (N := some 50) (bA 38 16642998271) HT_ ?_
        refine taE (i := 29) (N := some 46) (bA 38 17179869183) HT_ HW_ hHeld ?_
        refine taE (i := 34) (N := some 51) (bA 38 34359738367) HT_ HW_ hHeld ?_
        refine one_ (i := 35) (N := some 52) (bA 38 68719476735) rfl rfl (one_of HT_.out (by kernel_rfl)) (by decide) (fun K hK => ?_)
        refine goE Try.func45 (by kernel_rfl) rfl #[.slice A101_2 ((rd_T89 l0 x5_1).f2).length c101_2, .slice A102_2 ((rd_T89 l1 x5_1).f2).length c102_2] (by rfl) rfl rfl ?_
        with_reducible refine (agateref10_Ints.calls k1 _ _ ((rd_T89 l0 x5_1).f2) _ _ ((rd_T89 l1 x5_1).f2) true _ ?side1 ?side2 ?side3 ?side4 A9.out).mono ?_
        (case side1 => repeat (first | exact (Kd.C_below HR105_2.out HB.out) | (with_reducible refine Kd.C_alloc ?_ _) | (with_reducible refine Kd.C_drewN ?_ _) | (with_reducible refine Kd.C_drew ?_)))
        (case side2 => exact HC105_2.out)
        (case side3 => repeat (first | exact (Kd.C_below HR106_2.out HB.out) | (with_reducible refine Kd.C_alloc ?_ _) | (with_reducible refine Kd.C_drewN ?_ _) | (with_reducible refine Kd.C_drew ?_)))
        (case side4 => exact HC106_2.out)
        rintro e w' ⟨rfl, ⟨nd, rfl⟩⟩
        refine ⟨_, rfl, ?_⟩
        refine hK.out _ _ ⟨((HB.out.cell (World.block_lt_of_cell? w _ hw101_0)).trans hw101_0), ((HB.out.cell (World.block_lt_of_cell? w _ hw101_1)).trans hw101_1), ((HB.out.cell (World.block_lt_of_cell? w _ hw101_2)).trans hw101_2), ((HB.out.cell (World.block_lt_of_cell? w _ hw102_0)).trans hw102_0), ((HB.out.cell (World.block_lt_of_cell? w _ hw102_1)).trans hw102_1), ((HB.out.cell (World.block_lt_of_cell? w _ hw102_2)).trans hw102_2), ((HB.out.cell (World.block_lt_of_cell? w _ hw103_0)).trans hw103_0), ((HB.out.cell (World.block_lt_of_cell? w _ hw103_1)).trans hw103_1), ((HB.out.cell (World.block_lt_of_cell? w _ hw103_2)).trans hw103_2), ((HB.out.cell (World.block_lt_of_cell? w _ hw104_0)).trans hw104_0), ((HB.out.cell (World.block_lt_of_cell? w _ hw104_1)).trans hw104_1), ((HB.out.cell (World.block_lt_of_cell? w _ hw104_2)).trans hw104_2), ((HB.out.cell (World.block_lt_of_cell? w _ hw105_0)).trans hw105_0), ((HB.out.cell (World.block_lt_of_cell? w _ hw105_1)).trans hw105_1), ((HB.out.cell (World.block_lt_of_cell? w _ hw105_2)).trans hw105_2), ((HB.out.cell (World.block_lt_of_cell? w _ hw106_0)).trans hw106_0), ((HB.out.cell (World.block_lt_of_cell? w _ hw106_1)).trans hw106_1), ((HB.out.cell (World.block_lt_of_cell? w _ hw106_2)).trans hw106_2)⟩ (fun hHeld => ?_)
        clear hK K
        refine noE 52 ?_
        refine puE (i := 36) (N := some 53) (bA 38 137438953471) HT_ ?_
        refine puE (i := 37) (N := some 54) (bA 38 274877906943) HT_ ?_
        refine done_ (done_of HT_.out (by kernel_rfl)) ?_
        try go_wp2
        go_roundg k1
        case measure => have := HK1.out; omega
        case rel => exact ⟨(wrap64 (x5_1 + 1)), cl0, H', cl2 HK1, ⟨hbA HB⟩⟩
       ·
        replace c10 := Bool.eq_false_iff.mpr c10; subst c10; have H1 : (some false) = some r := by rw [if_neg (show ¬ (false = true) by decide)] at H; exact H
        clear H; have H := H1; clear H1; obtain rfl := Option.some.inj H
        try go_wp2
        replace HB := mk0 (below_drew1 HB.out); have p101 : 0 ≤ (x5_1 : Int) := ofd; have q101 : x5_1 < (l0.length : Int) := ofd; obtain ⟨ad101, A101_2, c101_2, e101, hx101_0, hx101_1, hx101_2, hl101_2, hi101_2⟩ := at_T89 HR0.out x5_1 p101 q101; have hw101_2 := hx101_2; have hw101_1 := hx101_1; have hw101_0 := hx101_0; cases e101; replace hx101_0 := hbc HB hx101_0; replace hx101_1 := hbc HB hx101_1; replace hx101_2 := hbc HB hx101_2; have HR101_2 := mk0 hi101_2; have HC101_2 := mk0 hl101_2; clear hi101_2 hl101_2; replace p101 := eq_true p101; replace q101 := eq_true q101; have p102 : 0 ≤ (x5_1 : Int) := ofd; have q102 : x5_1 < (l1.length : Int) := ofd; obtain ⟨ad102, A102_2, c102_2, e102, hx102_0, hx102_1, hx102_2, hl102_2, hi102_2⟩ := at_T89 HR1.out x5_1 p102 q102; have hw102_2 := hx102_2; have hw102_1 := hx102_1; have hw102_0 := hx102_0; cases e102; replace hx102_0 := hbc HB hx102_0; replace hx102_1 := hbc HB hx102_1; replace hx102_2 := hbc HB hx102_2; have HR102_2 := mk0 hi102_2; have HC102_2 := mk0 hl102_2; clear hi102_2 hl102_2; replace p102 := eq_true p102; replace q102 := eq_true q102; have p103 : 0 ≤ (x5_1 : Int) := ofd; have q103 : x5_1 < (l0.length : Int) := ofd; obtain ⟨ad103, A103_2, c103_2, e103, hx103_0, hx103_1, hx103_2, hl103_2, hi103_2⟩ := at_T89 HR0.out x5_1 p103 q103; have hw103_2 := hx103_2; have hw103_1 := hx103_1; have hw103_0 := hx103_0; obtain rfl : ad101 = ad103 := (by injection e103); replace hx103_0 := hbc HB hx103_0; replace hx103_1 := hbc HB hx103_1; replace hx103_2 := hbc HB hx103_2; have HR103_2 := mk0 hi103_2; have HC103_2 := mk0 hl103_2; clear hi103_2 hl103_2; replace p103 := eq_true p103; replace q103 := eq_true q103; have ea_ := Option.some.inj (hx101_2.symm.trans hx103_2); injection ea_ with ea_ en_ ec_; subst ea_; subst ec_; clear en_; have p104 : 0 ≤ (x5_1 : Int) := ofd; have q104 : x5_1 < (l1.length : Int) := ofd; obtain ⟨ad104, A104_2, c104_2, e104, hx104_0, hx104_1, hx104_2, hl104_2, hi104_2⟩ := at_T89 HR1.out x5_1 p104 q104; have hw104_2 := hx104_2
        have hw104_1 := hx104_1; have hw104_0 := hx104_0; obtain rfl : ad102 = ad104 := (by injection e104); replace hx104_0 := hbc HB hx104_0; replace hx104_1 := hbc HB hx104_1; replace hx104_2 := hbc HB hx104_2; have HR104_2 := mk0 hi104_2; have HC104_2 := mk0 hl104_2; clear hi104_2 hl104_2; replace p104 := eq_true p104; replace q104 := eq_true q104; have ea_ := Option.some.inj (hx102_2.symm.trans hx104_2); injection ea_ with ea_ en_ ec_; subst ea_; subst ec_; clear en_; have p105 : 0 ≤ (x5_1 : Int) := ofd; have q105 : x5_1 < (l0.length : Int) := ofd; obtain ⟨ad105, A105_2, c105_2, e105, hx105_0, hx105_1, hx105_2, hl105_2, hi105_2⟩ := at_T89 HR0.out x5_1 p105 q105; have hw105_2 := hx105_2; have hw105_1 := hx105_1; have hw105_0 := hx105_0; obtain rfl : ad101 = ad105 := (by injection e105); replace hx105_0 := hbc HB hx105_0; replace hx105_1 := hbc HB hx105_1; replace hx105_2 := hbc HB hx105_2; have HR105_2 := mk0 hi105_2; have HC105_2 := mk0 hl105_2; clear hi105_2 hl105_2; replace p105 := eq_true p105; replace q105 := eq_true q105; have ea_ := Option.some.inj (hx101_2.symm.trans hx105_2); injection ea_ with ea_ en_ ec_; subst ea_; subst ec_; clear en_; have p106 : 0 ≤ (x5_1 : Int) := ofd; have q106 : x5_1 < (l1.length : Int) := ofd; obtain ⟨ad106, A106_2, c106_2, e106, hx106_0, hx106_1, hx106_2, hl106_2, hi106_2⟩ := at_T89 HR1.out x5_1 p106 q106; have hw106_2 := hx106_2; have hw106_1 := hx106_1; have hw106_0 := hx106_0; obtain rfl : ad102 = ad106 := (by injection e106); replace hx106_0 := hbc HB hx106_0; replace hx106_1 := hbc HB hx106_1; replace hx106_2 := hbc HB hx106_2; have HR106_2 := mk0 hi106_2; have HC106_2 := mk0 hl106_2; clear hi106_2 hl106_2; replace p106 := eq_true p106; replace q106 := eq_true q106; have ea_ := Option.some.inj (hx102_2.symm.trans hx106_2); injection ea_ with ea_ en_ ec_; subst ea_; subst ec_; clear en_
        refine start_ (n := 38) (S := fun w' => w'.cell? (ad101.add ((x5_1).toNat * 3)) = some (.string ((rd_T89 l0 x5_1).f0)) ∧ w'.cell? ⟨(ad101.add ((x5_1).toNat * 3)).block, (ad101.add ((x5_1).toNat * 3)).off + 1, none⟩ = some (.int .i64 ((rd_T89 l0 x5_1).f1)) ∧ w'.cell? ⟨(ad101.add ((x5_1).toNat * 3)).block, (ad101.add ((x5_1).toNat * 3)).off + 2, none⟩ = some (.slice A101_2 ((rd_T89 l0 x5_1).f2).length c101_2) ∧ w'.cell? (ad102.add ((x5_1).toNat * 3)) = some (.string ((rd_T89 l1 x5_1).f0)) ∧ w'.cell? ⟨(ad102.add ((x5_1).toNat * 3)).block, (ad102.add ((x5_1).toNat * 3)).off + 1, none⟩ = some (.int .i64 ((rd_T89 l1 x5_1).f1)) ∧ w'.cell? ⟨(ad102.add ((x5_1).toNat * 3)).block, (ad102.add ((x5_1).toNat * 3)).off + 2, none⟩ = some (.slice A102_2 ((rd_T89 l1 x5_1).f2).length c102_2) ∧ w'.cell? (ad101.add ((x5_1).toNat * 3)) = some (.string ((rd_T89 l0 x5_1).f0)) ∧ w'.cell? ⟨(ad101.add ((x5_1).toNat * 3)).block, (ad101.add ((x5_1).toNat * 3)).off + 1, none⟩ = some (.int .i64 ((rd_T89 l0 x5_1).f1)) ∧ w'.cell? ⟨(ad101.add ((x5_1).toNat * 3)).block, (ad101.add ((x5_1).toNat * 3)).off + 2, none⟩ = some (.slice A101_2 ((rd_T89 l0 x5_1).f2).length c101_2) ∧ w'.cell? (ad102.add ((x5_1).toNat * 3)) = some (.string ((rd_T89 l1 x5_1).f0)) ∧ w'.cell? ⟨(ad102.add ((x5_1).toNat * 3)).block, (ad102.add ((x5_1).toNat * 3)).off + 1, none⟩ = some (.int .i64 ((rd_T89 l1 x5_1).f1)) ∧ w'.cell? ⟨(ad102.add ((x5_1).toNat * 3)).block, (ad102.add ((x5_1).toNat * 3)).off + 2, none⟩ = some (.slice A102_2 ((rd_T89 l1 x5_1).f2).length c102_2) ∧ w'.cell? (ad101.add ((x5_1).toNat * 3)) = some (.string ((rd_T89 l0 x5_1).f0)) ∧ w'.cell? ⟨(ad101.add ((x5_1).toNat * 3)).block, (ad101.add ((x5_1).toNat * 3)).off + 1, none⟩ = some (.int .i64 ((rd_T89 l0 x5_1).f1)) ∧ w'.cell? ⟨(ad101.add ((x5_1).toNat * 3)).block, (ad101.add ((x5_1).toNat * 3)).off + 2, none⟩ = some (.slice A101_2 ((rd_T89 l0 x5_1).f2).length c101_2) ∧ w'.cell? (ad102.add ((x5_1).toNat * 3)) = some (.string ((rd_T89 l1 x5_1).f0)) ∧ w'.cell? ⟨(ad102.add ((x5_1).toNat * 3)).block, (ad102.add ((x5_1).toNat * 3)).off + 1, none⟩ = some (.int .i64 ((rd_T89 l1 x5_1).f1)) ∧ w'.cell? ⟨(ad102.add ((x5_1).toNat * 3)).block, (ad102.add ((x5_1).toNat * 3)).off + 2, none⟩ = some (.slice A102_2 ((rd_T89 l1 x5_1).f2).length c102_2)) (ds := []) (bA 38 0) (by kernel_rfl) rfl rfl ⟨((HB.out.cell (World.block_lt_of_cell? w _ hw101_0)).trans hw101_0), ((HB.out.cell (World.block_lt_of_cell? w _ hw101_1)).trans hw101_1), ((HB.out.cell (World.block_lt_of_cell? w _ hw101_2)).trans hw101_2), ((HB.out.cell (World.block_lt_of_cell? w _ hw102_0)).trans hw102_0), ((HB.out.cell (World.block_lt_of_cell? w _ hw102_1)).trans hw102_1), ((HB.out.cell (World.block_lt_of_cell? w _ hw102_2)).trans hw102_2), ((HB.out.cell (World.block_lt_of_cell? w _ hw103_0)).trans hw103_0), ((HB.out.cell (World.block_lt_of_cell? w _ hw103_1)).trans hw103_1), ((HB.out.cell (World.block_lt_of_cell? w _ hw103_2)).trans hw103_2), ((HB.out.cell (World.block_lt_of_cell? w _ hw104_0)).trans hw104_0), ((HB.out.cell (World.block_lt_of_cell? w _ hw104_1)).trans hw104_1), ((HB.out.cell (World.block_lt_of_cell? w _ hw104_2)).trans hw104_2), ((HB.out.cell (World.block_lt_of_cell? w _ hw105_0)).trans hw105_0), ((HB.out.cell (World.block_lt_of_cell? w _ hw105_1)).trans hw105_1), ((HB.out.cell (World.block_lt_of_cell? w _ hw105_2)).trans hw105_2), ((HB.out.cell (World.block_lt_of_cell? w _ hw106_0)).trans hw106_0), ((HB.out.cell (World.block_lt_of_cell? w _ hw106_1)).trans hw106_1), ((HB.out.cell (World.block_lt_of_cell? w _ hw106_2)).trans hw106_2)⟩ (fun hHeld => ?_); refine with_tabW agateref10_infos.tab6 agateref10_infos.bits6 (fun HT_ HW_ => ?_)
        generalize wr.drew = w12 at HB HR101_2 HR102_2 HR103_2 HR104_2 HR105_2 HR106_2 hx101_0 hx101_1 hx101_2 hx102_0 hx102_1 hx102_2 hx103_0 hx103_1 hx103_2 hx104_0 hx104_1 hx104_2 hx105_0 hx105_1 hx105_2 hx106_0 hx106_1 hx106_2 hHeld ⊢
        refine puE (i := 0) (N := some 17) (bA 38 1) HT_ ?_
        refine puE (i := 1) (N := some 18) (bA 38 3) HT_ ?_
        refine puE (i := 2) (N := some 19) (bA 38 7) HT_ ?_
        refine puE (i := 3) (N := some 20) (bA 38 15) HT_ ?_
        refine puE (i := 5) (N := some 22) (bA 38 47) HT_ ?_
        refine puE (i := 6) (N := some 23) (bA 38 111) HT_ ?_
        refine puE (i := 7) (N := some 24) (bA 38 239) HT_ ?_
        refine puE (i := 8) (N := some 25) (bA 38 495) HT_ ?_
        refine taE (i := 4) (N := some 21) (bA 38 511) HT_ HW_ hHeld ?_
        refine taE (i := 9) (N := some 26) (bA 38 1023) HT_ HW_ hHeld ?_
        refine puE (i := 10) (N := some 27) (bA 38 2047) HT_ ?_
        refine puE (i := 11) (N := some 28) (bA 38 4095) HT_ ?_
        refine puE (i := 12) (N := some 29) (bA 38 8191) HT_ ?_
        refine puE (i := 13) (N := some 30) (bA 38 16383) HT_ ?_
        refine puE (i := 14) (N := some 31) (bA 38 32767) HT_ ?_
        refine puE (i := 15) (N := some 32) (bA 38 65535) HT_ ?_
        refine puE (i := 17) (N := some 34) (bA 38 196607) HT_ ?_
        refine puE (i := 18) (N := some 35) (bA 38 458751) HT_ ?_
        refine puE (i := 19) (N := some 36) (bA 38 983039) HT_ ?_
        refine puE (i := 20) (N := some 37) (bA 38 2031615) HT_ ?_
        refine taE (i := 16) (N := some 33) (bA 38 2097151) HT_ HW_ hHeld ?_
        refine taE (i := 21) (N := some 38) (bA 38 4194303) HT_ HW_ hHeld ?_
        refine puE (i := 22) (N := some 39) (bA 38 8388607) HT_ ?_
        refine puE (i := 23) (N := some 40) (bA 38 16777215) HT_ ?_
        refine puE (i := 24) (N := some 41) (bA 38 33554431) HT_ ?_
        refine puE (i := 25) (N := some 42) (bA 38 67108863) HT_ ?_
        refine puE (i := 26) (N := some 43) (bA 38 134217727) HT_ ?_
        refine puE (i := 27) (N := some 44) (bA 38 268435455) HT_ ?_
        refine puE (i := 28) (N := some 45) (bA 38 536870911) HT_ ?_
        refine puE (i := 30) (N := some 47) (bA 38 1610612735) HT_ ?_
        refine puE (i := 31) (N := some 48) (bA 38 3758096383) HT_ ?_
        refine puE (i := 32) (N := some 49) (bA 38 8053063679) HT_ ?_
        refine puE (i := 33) (N := some 50) (bA 38 16642998271) HT_ ?_
        refine taE (i := 29) (N := some 46) (bA 38 17179869183) HT_ HW_ hHeld ?_
        refine taE (i := 34) (N := some 51) (bA 38 34359738367) HT_ HW_ hHeld ?_
        refine one_ (i := 35) (N := some 52) (bA 38 68719476735) rfl rfl (one_of HT_.out (by kernel_rfl)) (by decide) (fun K hK => ?_)
        refine goE Try.func45 (by kernel_rfl) rfl #[.slice A101_2 ((rd_T89 l0 x5_1).f2).length c101_2, .slice A102_2 ((rd_T89 l1 x5_1).f2).length c102_2] (by rfl) rfl rfl ?_
        with_reducible refine (agateref10_Ints.calls k1 _ _ ((rd_T89 l0 x5_1).f2) _ _ ((rd_T89 l1 x5_1).f2) false _ ?side1 ?side2 ?side3 ?side4 A9.out).mono ?_
        (case side1 => repeat (first | exact (Kd.C_below HR105_2.out HB.out) | (with_reducible refine Kd.C_alloc ?_ _) | (with_reducible refine Kd.C_drewN ?_ _) | (with_reducible refine Kd.C_drew ?_)))
        (case side2 => exact HC105_2.out)
        (case side3 => repeat (first | exact (Kd.C_below HR106_2.out HB.out) | (with_reducible refine Kd.C_alloc ?_ _) | (with_reducible refine Kd.C_drewN ?_ _) | (with_reducible refine Kd.C_drew ?_)))
        (case side4 => exact HC106_2.out)
        rintro e w' ⟨rfl, ⟨nd, rfl⟩⟩
        refine ⟨_, rfl, ?_⟩
        refine hK.out _ _ ⟨((HB.out.cell (World.block_lt_of_cell? w _ hw101_0)).trans hw101_0), ((HB.out.cell (World.block_lt_of_cell? w _ hw101_1)).trans hw101_1), ((HB.out.cell (World.block_lt_of_cell? w _ hw101_2)).trans hw101_2), ((HB.out.cell (World.block_lt_of_cell? w _ hw102_0)).trans hw102_0), ((HB.out.cell (World.block_lt_of_cell? w _ hw102_1)).trans hw102_1), ((HB.out.cell (World.block_lt_of_cell? w _ hw102_2)).trans hw102_2), ((HB.out.cell (World.block_lt_of_cell? w _ hw103_0)).trans hw103_0), ((HB.out.cell (World.block_lt_of_cell? w _ hw103_1)).trans hw103_1), ((HB.out.cell (World.block_lt_of_cell? w _ hw103_2)).trans hw103_2), ((HB.out.cell (World.block_lt_of_cell? w _ hw104_0)).trans hw104_0), ((HB.out.cell (World.block_lt_of_cell? w _ hw104_1)).trans hw104_1), ((HB.out.cell (World.block_lt_of_cell? w _ hw104_2)).trans hw104_2), ((HB.out.cell (World.block_lt_of_cell? w _ hw105_0)).trans hw105_0), ((HB.out.cell (World.block_lt_of_cell? w _ hw105_1)).trans hw105_1), ((HB.out.cell (World.block_lt_of_cell? w _ hw105_2)).trans hw105_2), ((HB.out.cell (World.block_lt_of_cell? w _ hw106_0)).trans hw106_0), ((HB.out.cell (World.block_lt_of_cell? w _ hw106_1)).trans hw106_1), ((HB.out.cell (World.block_lt_of_cell? w _ hw106_2)).trans hw106_2)⟩ (fun hHeld => ?_)
        clear hK K
        refine noE 52 ?_
        refine puE (i := 36) (N := some 53) (bA 38 137438953471) HT_ ?_
        refine puE (i := 37) (N := some 54) (bA 38 274877906943) HT_ ?_
        refine done_ (done_of HT_.out (by kernel_rfl)) ?_
        try go_wp2
        go_ret
        exact ⟨cl3, hbA HB⟩
      ·
       rw [if_neg c8] at H; have c8b0 := beq_eq_false_iff_ne.mpr c8; have c8b1 := bne_iff_ne.mpr c8; obtain rfl := Option.some.inj H
       try go_wp2
       replace HB := mk0 (below_drew1 HB.out); have p101 : 0 ≤ (x5_1 : Int) := ofd; have q101 : x5_1 < (l0.length : Int) := ofd; obtain ⟨ad101, A101_2, c101_2, e101, hx101_0, hx101_1, hx101_2, hl101_2, hi101_2⟩ := at_T89 HR0.out x5_1 p101 q101; have hw101_2 := hx101_2; have hw101_1 := hx101_1; have hw101_0 := hx101_0; cases e101; replace hx101_0 := hbc HB hx101_0; replace hx101_1 := hbc HB hx101_1; replace hx101_2 := hbc HB hx101_2; have HR101_2 := mk0 hi101_2; have HC101_2 := mk0 hl101_2; clear hi101_2 hl101_2; replace p101 := eq_true p101; replace q101 := eq_true q101; have p102 : 0 ≤ (x5_1 : Int) := ofd; have q102 : x5_1 < (l1.length : Int) := ofd; obtain ⟨ad102, A102_2, c102_2, e102, hx102_0, hx102_1, hx102_2, hl102_2, hi102_2⟩ := at_T89 HR1.out x5_1 p102 q102; have hw102_2 := hx102_2; have hw102_1 := hx102_1; have hw102_0 := hx102_0; cases e102; replace hx102_0 := hbc HB hx102_0; replace hx102_1 := hbc HB hx102_1; replace hx102_2 := hbc HB hx102_2; have HR102_2 := mk0 hi102_2; have HC102_2 := mk0 hl102_2; clear hi102_2 hl102_2; replace p102 := eq_true p102; replace q102 := eq_true q102; have p103 : 0 ≤ (x5_1 : Int) := ofd; have q103 : x5_1 < (l0.length : Int) := ofd; obtain ⟨ad103, A103_2, c103_2, e103, hx103_0, hx103_1, hx103_2, hl103_2, hi103_2⟩ := at_T89 HR0.out x5_1 p103 q103; have hw103_2 := hx103_2; have hw103_1 := hx103_1; have hw103_0 := hx103_0; obtain rfl : ad101 = ad103 := (by injection e103); replace hx103_0 := hbc HB hx103_0; replace hx103_1 := hbc HB hx103_1; replace hx103_2 := hbc HB hx103_2; have HR103_2 := mk0 hi103_2; have HC103_2 := mk0 hl103_2; clear hi103_2 hl103_2; replace p103 := eq_true p103; replace q103 := eq_true q103; have ea_ := Option.some.inj (hx101_2.symm.trans hx103_2); injection ea_ with ea_ en_ ec_; subst ea_; subst ec_; clear en_; have p104 : 0 ≤ (x5_1 : Int) := ofd; have q104 : x5_1 < (l1.length : Int) := ofd; obtain ⟨ad104, A104_2, c104_2, e104, hx104_0, hx104_1, hx104_2, hl104_2, hi104_2⟩ := at_T89 HR1.out x5_1 p104 q104; have hw104_2 := hx104_2
       have hw104_1 := hx104_1; have hw104_0 := hx104_0; obtain rfl : ad102 = ad104 := (by injection e104); replace hx104_0 := hbc HB hx104_0; replace hx104_1 := hbc HB hx104_1; replace hx104_2 := hbc HB hx104_2; have HR104_2 := mk0 hi104_2; have HC104_2 := mk0 hl104_2; clear hi104_2 hl104_2; replace p104 := eq_true p104; replace q104 := eq_true q104; have ea_ := Option.some.inj (hx102_2.symm.trans hx104_2); injection ea_ with ea_ en_ ec_; subst ea_; subst ec_; clear en_
       refine start_ (n := 38) (S := fun w' => w'.cell? (ad101.add ((x5_1).toNat * 3)) = some (.string ((rd_T89 l0 x5_1).f0)) ∧ w'.cell? ⟨(ad101.add ((x5_1).toNat * 3)).block, (ad101.add ((x5_1).toNat * 3)).off + 1, none⟩ = some (.int .i64 ((rd_T89 l0 x5_1).f1)) ∧ w'.cell? ⟨(ad101.add ((x5_1).toNat * 3)).block, (ad101.add ((x5_1).toNat * 3)).off + 2, none⟩ = some (.slice A101_2 ((rd_T89 l0 x5_1).f2).length c101_2) ∧ w'.cell? (ad102.add ((x5_1).toNat * 3)) = some (.string ((rd_T89 l1 x5_1).f0)) ∧ w'.cell? ⟨(ad102.add ((x5_1).toNat * 3)).block, (ad102.add ((x5_1).toNat * 3)).off + 1, none⟩ = some (.int .i64 ((rd_T89 l1 x5_1).f1)) ∧ w'.cell? ⟨(ad102.add ((x5_1).toNat * 3)).block, (ad102.add ((x5_1).toNat * 3)).off + 2, none⟩ = some (.slice A102_2 ((rd_T89 l1 x5_1).f2).length c102_2) ∧ w'.cell? (ad101.add ((x5_1).toNat * 3)) = some (.string ((rd_T89 l0 x5_1).f0)) ∧ w'.cell? ⟨(ad101.add ((x5_1).toNat * 3)).block, (ad101.add ((x5_1).toNat * 3)).off + 1, none⟩ = some (.int .i64 ((rd_T89 l0 x5_1).f1)) ∧ w'.cell? ⟨(ad101.add ((x5_1).toNat * 3)).block, (ad101.add ((x5_1).toNat * 3)).off + 2, none⟩ = some (.slice A101_2 ((rd_T89 l0 x5_1).f2).length c101_2) ∧ w'.cell? (ad102.add ((x5_1).toNat * 3)) = some (.string ((rd_T89 l1 x5_1).f0)) ∧ w'.cell? ⟨(ad102.add ((x5_1).toNat * 3)).block, (ad102.add ((x5_1).toNat * 3)).off + 1, none⟩ = some (.int .i64 ((rd_T89 l1 x5_1).f1)) ∧ w'.cell? ⟨(ad102.add ((x5_1).toNat * 3)).block, (ad102.add ((x5_1).toNat * 3)).off + 2, none⟩ = some (.slice A102_2 ((rd_T89 l1 x5_1).f2).length c102_2)) (ds := []) (bA 38 0) (by kernel_rfl) rfl rfl ⟨((HB.out.cell (World.block_lt_of_cell? w _ hw101_0)).trans hw101_0), ((HB.out.cell (World.block_lt_of_cell? w _ hw101_1)).trans hw101_1), ((HB.out.cell (World.block_lt_of_cell? w _ hw101_2)).trans hw101_2), ((HB.out.cell (World.block_lt_of_cell? w _ hw102_0)).trans hw102_0), ((HB.out.cell (World.block_lt_of_cell? w _ hw102_1)).trans hw102_1), ((HB.out.cell (World.block_lt_of_cell? w _ hw102_2)).trans hw102_2), ((HB.out.cell (World.block_lt_of_cell? w _ hw103_0)).trans hw103_0), ((HB.out.cell (World.block_lt_of_cell? w _ hw103_1)).trans hw103_1), ((HB.out.cell (World.block_lt_of_cell? w _ hw103_2)).trans hw103_2), ((HB.out.cell (World.block_lt_of_cell? w _ hw104_0)).trans hw104_0), ((HB.out.cell (World.block_lt_of_cell? w _ hw104_1)).trans hw104_1), ((HB.out.cell (World.block_lt_of_cell? w _ hw104_2)).trans hw104_2)⟩ (fun hHeld => ?_); refine with_tabW agateref10_infos.tab6 agateref10_infos.bits6 (fun HT_ HW_ => ?_)
       generalize wr.drew = w13 at HB HR101_2 HR102_2 HR103_2 HR104_2 hx101_0 hx101_1 hx101_2 hx102_0 hx102_1 hx102_2 hx103_0 hx103_1 hx103_2 hx104_0 hx104_1 hx104_2 hHeld ⊢
       refine puE (i := 0) (N := some 17) (bA 38 1) HT_ ?_
       refine puE (i := 1) (N := some 18) (bA 38 3) HT_ ?_
       refine puE (i := 2) (N := some 19) (bA 38 7) HT_ ?_
       refine puE (i := 3) (N := some 20) (bA 38 15) HT_ ?_
       refine puE (i := 5) (N := some 22) (bA 38 47) HT_ ?_
       refine puE (i := 6) (N := some 23) (bA 38 111) HT_ ?_
       refine puE (i := 7) (N := some 24) (bA 38 239) HT_ ?_
       refine puE (i := 8) (N := some 25) (bA 38 495) HT_ ?_
       refine taE (i := 4) (N := some 21) (bA 38 511) HT_ HW_ hHeld ?_
       refine taE (i := 9) (N := some 26) (bA 38 1023) HT_ HW_ hHeld ?_
       refine puE (i := 10) (N := some 27) (bA 38 2047) HT_ ?_
       refine puE (i := 11) (N := some 28) (bA 38 4095) HT_ ?_
       refine puE (i := 12) (N := some 29) (bA 38 8191) HT_ ?_
       refine puE (i := 13) (N := some 30) (bA 38 16383) HT_ ?_
       refine puE (i := 14) (N := some 31) (bA 38 32767) HT_ ?_
       refine puE (i := 15) (N := some 32) (bA 38 65535) HT_ ?_
       refine puE (i := 17) (N := some 34) (bA 38 196607) HT_ ?_
       refine puE (i := 18) (N := some 35) (bA 38 458751) HT_ ?_
       refine puE (i := 19) (N := some 36) (bA 38 983039) HT_ ?_
       refine puE (i := 20) (N := some 37) (bA 38 2031615) HT_ ?_
       refine taE (i := 16) (N := some 33) (bA 38 2097151) HT_ HW_ hHeld ?_
       refine taE (i := 21) (N := some 38) (bA 38 4194303) HT_ HW_ hHeld ?_
       refine puE (i := 22) (N := some 39) (bA 38 8388607) HT_ ?_
       refine puE (i := 23) (N := some 40) (bA 38 16777215) HT_ ?_
       refine puE (i := 24) (N := some 41) (bA 38 33554431) HT_ ?_
       refine pure_ (i := 25) (N := some 42) (v := undef) (a' := ?_) (bA 38 67108863) rfl rfl (any_of HT_.out (by kernel_rfl)) (fun _ _ _ h => h) (Or.inr ⟨by rfl, rfl⟩) ?_ ?_
       rotate_left
       ·
        simp only [Act.put, List.setIfInBounds_toArray, List.set_cons_zero, List.set_cons_succ, i64_w, i32_w]
        rfl
       refine pure_ (i := 26) (N := some 43) (v := undef) (a' := ?_) (bA 38 134217727) rfl rfl (any_of HT_.out (by kernel_rfl)) (fun _ _ _ h => h) (Or.inr ⟨by rfl, rfl⟩) ?_ ?_
       rotate_left
       ·
        simp only [Act.put, List.setIfInBounds_toArray, List.set_cons_zero, List.set_cons_succ, i64_w, i32_w]
        rfl
       refine pure_ (i := 27) (N := some 44) (v := undef) (a' := ?_) (bA 38 268435455) rfl rfl (any_of HT_.out (by kernel_rfl)) (fun _ _ _ h => h) (Or.inr ⟨by rfl, rfl⟩) ?_ ?_
       rotate_left
       ·
        simp only [Act.put, List.setIfInBounds_toArray, List.set_cons_zero, List.set_cons_succ, i64_w, i32_w]
        rfl
       refine pure_ (i := 28) (N := some 45) (v := undef) (a' := ?_) (bA 38 536870911) rfl rfl (any_of HT_.out (by kernel_rfl)) (fun _ _ _ h => h) (Or.inr ⟨by rfl, rfl⟩) ?_ ?_
       rotate_left
       ·
        simp only [Act.put, List.setIfInBounds_toArray, List.set_cons_zero, List.set_cons_succ, i64_w, i32_w]
        rfl
       refine pure_ (i := 29) (N := some 46) (v := undef) (a' := ?_) (bA 38 1073741823) rfl rfl (any_of HT_.out (by kernel_rfl)) (fun _ _ _ h => h) (Or.inr ⟨by rfl, rfl⟩) ?_ ?_
       rotate_left
       ·
        simp only [Act.put, List.setIfInBounds_toArray, List.set_cons_zero, List.set_cons_succ, i64_w, i32_w]
        rfl
       refine pure_ (i := 30) (N := some 47) (v := undef) (a' := ?_) (bA 38 2147483647) rfl rfl (any_of HT_.out (by kernel_rfl)) (fun _ _ _ h => h) (Or.inr ⟨by rfl, rfl⟩) ?_ ?_
       rotate_left
       ·
        simp only [Act.put, List.setIfInBounds_toArray, List.set_cons_zero, List.set_cons_succ, i64_w, i32_w]
        rfl
       refine pure_ (i := 31) (N := some 48) (v := undef) (a' := ?_) (bA 38 4294967295) rfl rfl (any_of HT_.out (by kernel_rfl)) (fun _ _ _ h => h) (Or.inr ⟨by rfl, rfl⟩) ?_ ?_
       rotate_left
       ·
        simp only [Act.put, List.setIfInBounds_toArray, List.set_cons_zero, List.set_cons_succ, i64_w, i32_w]
        rfl
       refine pure_ (i := 32) (N := some 49) (v := undef) (a' := ?_) (bA 38 8589934591) rfl rfl (any_of HT_.out (by kernel_rfl)) (fun _ _ _ h => h) (Or.inr ⟨by rfl, rfl⟩) ?_ ?_
       rotate_left
       ·
        simp only [Act.put, List.setIfInBounds_toArray, List.set_cons_zero, List.set_cons_succ, i64_w, i32_w]
        rfl
       refine pure_ (i := 33) (N := some 50) (v := undef) (a' := ?_) (bA 38 17179869183) rfl rfl (any_of HT_.out (by kernel_rfl)) (fun _ _ _ h => h) (Or.inr ⟨by rfl, rfl⟩) ?_ ?_
       rotate_left
       ·
        simp only [Act.put, List.setIfInBounds_toArray, List.set_cons_zero, List.set_cons_succ, i64_w, i32_w]
        rfl
       refine pure_ (i := 34) (N := some 51) (v := undef) (a' := ?_) (bA 38 34359738367) rfl rfl (any_of HT_.out (by kernel_rfl)) (fun _ _ _ h => h) (Or.inr ⟨by rfl, rfl⟩) ?_ ?_
       rotate_left
       ·
        simp only [Act.put, List.setIfInBounds_toArray, List.set_cons_zero, List.set_cons_succ, i64_w, i32_w]
        rfl
       refine pure_ (i := 35) (N := some 52) (v := undef) (a' := ?_) (bA 38 68719476735) rfl rfl (any_of HT_.out (by kernel_rfl)) (fun _ _ _ h => h) (Or.inr ⟨by rfl, rfl⟩) ?_ ?_
       rotate_left
       ·
        simp only [Act.put, List.setIfInBounds_toArray, List.set_cons_zero, List.set_cons_succ, i64_w, i32_w]
        rfl
       refine pure_ (i := 36) (N := some 53) (v := undef) (a' := ?_) (bA 38 137438953471) rfl rfl (any_of HT_.out (by kernel_rfl)) (fun _ _ _ h => h) (Or.inr ⟨by rfl, rfl⟩) ?_ ?_
       rotate_left
       ·
        simp only [Act.put, List.setIfInBounds_toArray, List.set_cons_zero, List.set_cons_succ, i64_w, i32_w]
        rfl
       refine puE (i := 37) (N := some 54) (bA 38 274877906943) HT_ ?_
       refine done_ (done_of HT_.out (by kernel_rfl)) ?_
       try go_wp2
       go_ret
       exact ⟨cl3, hbA HB⟩
     ·
      rw [if_neg c7] at H; have c7b0 := beq_eq_false_iff_ne.mpr c7; have c7b1 := bne_iff_ne.mpr c7; obtain rfl := Option.some.inj H
      try go_wp2
      replace HB := mk0 (below_drew1 HB.out); have p101 : 0 ≤ (x5_1 : Int) := ofd; have q101 : x5_1 < (l0.length : Int) := ofd; obtain ⟨ad101, A101_2, c101_2, e101, hx101_0, hx101_1, hx101_2, hl101_2, hi101_2⟩ := at_T89 HR0.out x5_1 p101 q101; have hw101_2 := hx101_2; have hw101_1 := hx101_1; have hw101_0 := hx101_0; cases e101; replace hx101_0 := hbc HB hx101_0; replace hx101_1 := hbc HB hx101_1; replace hx101_2 := hbc HB hx101_2; have HR101_2 := mk0 hi101_2; have HC101_2 := mk0 hl101_2; clear hi101_2 hl101_2; replace p101 := eq_true p101; replace q101 := eq_true q101; have p102 : 0 ≤ (x5_1 : Int) := ofd; have q102 : x5_1 < (l1.length : Int) := ofd; obtain ⟨ad102, A102_2, c102_2, e102, hx102_0, hx102_1, hx102_2, hl102_2, hi102_2⟩ := at_T89 HR1.out x5_1 p102 q102; have hw102_2 := hx102_2; have hw102_1 := hx102_1; have hw102_0 := hx102_0; cases e102; replace hx102_0 := hbc HB hx102_0; replace hx102_1 := hbc HB hx102_1; replace hx102_2 := hbc HB hx102_2; have HR102_2 := mk0 hi102_2; have HC102_2 := mk0 hl102_2; clear hi102_2 hl102_2; replace p102 := eq_true p102; replace q102 := eq_true q102
      refine start_ (n := 38) (S := fun w' => w'.cell? (ad101.add ((x5_1).toNat * 3)) = some (.string ((rd_T89 l0 x5_1).f0)) ∧ w'.cell? ⟨(ad101.add ((x5_1).toNat * 3)).block, (ad101.add ((x5_1).toNat * 3)).off + 1, none⟩ = some (.int .i64 ((rd_T89 l0 x5_1).f1)) ∧ w'.cell? ⟨(ad101.add ((x5_1).toNat * 3)).block, (ad101.add ((x5_1).toNat * 3)).off + 2, none⟩ = some (.slice A101_2 ((rd_T89 l0 x5_1).f2).length c101_2) ∧ w'.cell? (ad102.add ((x5_1).toNat * 3)) = some (.string ((rd_T89 l1 x5_1).f0)) ∧ w'.cell? ⟨(ad102.add ((x5_1).toNat * 3)).block, (ad102.add ((x5_1).toNat * 3)).off + 1, none⟩ = some (.int .i64 ((rd_T89 l1 x5_1).f1)) ∧ w'.cell? ⟨(ad102.add ((x5_1).toNat * 3)).block, (ad102.add ((x5_1).toNat * 3)).off + 2, none⟩ = some (.slice A102_2 ((rd_T89 l1 x5_1).f2).length c102_2)) (ds := []) (bA 38 0) (by kernel_rfl) rfl rfl ⟨((HB.out.cell (World.block_lt_of_cell? w _ hw101_0)).trans hw101_0), ((HB.out.cell (World.block_lt_of_cell? w _ hw101_1)).trans hw101_1), ((HB.out.cell (World.block_lt_of_cell? w _ hw101_2)).trans hw101_2), ((HB.out.cell (World.block_lt_of_cell? w _ hw102_0)).trans hw102_0), ((HB.out.cell (World.block_lt_of_cell? w _ hw102_1)).trans hw102_1), ((HB.out.cell (World.block_lt_of_cell? w _ hw102_2)).trans hw102_2)⟩ (fun hHeld => ?_); refine with_tabW agateref10_infos.tab6 agateref10_infos.bits6 (fun HT_ HW_ => ?_)
      generalize wr.drew = w14 at HB HR101_2 HR102_2 hx101_0 hx101_1 hx101_2 hx102_0 hx102_1 hx102_2 hHeld ⊢
      refine puE (i := 0) (N := some 17) (bA 38 1) HT_ ?_
      refine puE (i := 1) (N := some 18) (bA 38 3) HT_ ?_
      refine puE (i := 2) (N := some 19) (bA 38 7) HT_ ?_
      refine puE (i := 3) (N := some 20) (bA 38 15) HT_ ?_
      refine puE (i := 5) (N := some 22) (bA 38 47) HT_ ?_
      refine puE (i := 6) (N := some 23) (bA 38 111) HT_ ?_
      refine puE (i := 7) (N := some 24) (bA 38 239) HT_ ?_
      refine puE (i := 8) (N := some 25) (bA 38 495) HT_ ?_
      refine taE (i := 4) (N := some 21) (bA 38 511) HT_ HW_ hHeld ?_
      refine taE (i := 9) (N := some 26) (bA 38 1023) HT_ HW_ hHeld ?_
      refine puE (i := 10) (N := some 27) (bA 38 2047) HT_ ?_
      refine puE (i := 11) (N := some 28) (bA 38 4095) HT_ ?_
      refine pure_ (i := 12) (N := some 29) (v := undef) (a' := ?_) (bA 38 8191) rfl rfl (any_of HT_.out (by kernel_rfl)) (fun _ _ _ h => h) (Or.inr ⟨by rfl, rfl⟩) ?_ ?_
      rotate_left
      ·
       simp only [Act.put, List.setIfInBounds_toArray, List.set_cons_zero, List.set_cons_succ, i64_w, i32_w]
       rfl
      refine pure_ (i := 13) (N := some 30) (v := undef) (a' := ?_) (bA 38 16383) rfl rfl (any_of HT_.out (by kernel_rfl)) (fun _ _ _ h => h) (Or.inr ⟨by rfl, rfl⟩) ?_ ?_
      rotate_left
      ·
       simp only [Act.put, List.setIfInBounds_toArray, List.set_cons_zero, List.set_cons_succ, i64_w, i32_w]
       rfl
      refine pure_ (i := 14) (N := some 31) (v := undef) (a' := ?_) (bA 38 32767) rfl rfl (any_of HT_.out (by kernel_rfl)) (fun _ _ _ h => h) (Or.inr ⟨by rfl, rfl⟩) ?_ ?_
      rotate_left
      ·
       simp only [Act.put, List.setIfInBounds_toArray, List.set_cons_zero, List.set_cons_succ, i64_w, i32_w]
       rfl
      refine pure_ (i := 15) (N := some 32) (v := undef) (a' := ?_) (bA 38 65535) rfl rfl (any_of HT_.out (by kernel_rfl)) (fun _ _ _ h => h) (Or.inr ⟨by rfl, rfl⟩) ?_ ?_
      rotate_left
      ·
       simp only [Act.put, List.setIfInBounds_toArray, List.set_cons_zero, List.set_cons_succ, i64_w, i32_w]
       rfl
      refine pure_ (i := 16) (N := some 33) (v := undef) (a' := ?_) (bA 38 131071) rfl rfl (any_of HT_.out (by kernel_rfl)) (fun _ _ _ h => h) (Or.inr ⟨by rfl, rfl⟩) ?_ ?_
      rotate_left
      ·
       simp only [Act.put, List.setIfInBounds_toArray, List.set_cons_zero, List.set_cons_succ, i64_w, i32_w]
       rfl
      refine pure_ (i := 17) (N := some 34) (v := undef) (a' := ?_) (bA 38 262143) rfl rfl (any_of HT_.out (by kernel_rfl)) (fun _ _ _ h => h) (Or.inr ⟨by rfl, rfl⟩) ?_ ?_
      rotate_left
      ·
       simp only [Act.put, List.setIfInBounds_toArray, List.set_cons_zero, List.set_cons_succ, i64_w, i32_w]
       rfl
      refine pure_ (i := 18) (N := some 35) (v := undef) (a' := ?_) (bA 38 524287) rfl rfl (any_of HT_.out (by kernel_rfl)) (fun _ _ _ h => h) (Or.inr ⟨by rfl, rfl⟩) ?_ ?_
      rotate_left
      ·
       simp only [Act.put, List.setIfInBounds_toArray, List.set_cons_zero, List.set_cons_succ, i64_w, i32_w]
       rfl
      refine pure_ (i := 19) (N := some 36) (v := undef) (a' := ?_) (bA 38 1048575) rfl rfl (any_of HT_.out (by kernel_rfl)) (fun _ _ _ h => h) (Or.inr ⟨by rfl, rfl⟩) ?_ ?_
      rotate_left
      ·
       simp only [Act.put, List.setIfInBounds_toArray, List.set_cons_zero, List.set_cons_succ, i64_w, i32_w]
       rfl
      refine pure_ (i := 20) (N := some 37) (v := undef) (a' := ?_) (bA 38 2097151) rfl rfl (any_of HT_.out (by kernel_rfl)) (fun _ _ _ h => h) (Or.inr ⟨by rfl, rfl⟩) ?_ ?_
      rotate_left
      ·
       simp only [Act.put, List.setIfInBounds_toArray, List.set_cons_zero, List.set_cons_succ, i64_w, i32_w]
       rfl
      refine pure_ (i := 21) (N := some 38) (v := undef) (a' := ?_) (bA 38 4194303) rfl rfl (any_of HT_.out (by kernel_rfl)) (fun _ _ _ h => h) (Or.inr ⟨by rfl, rfl⟩) ?_ ?_
      rotate_left
      ·
       simp only [Act.put, List.setIfInBounds_toArray, List.set_cons_zero, List.set_cons_succ, i64_w, i32_w]
       rfl
      refine pure_ (i := 22) (N := some 39) (v := undef) (a' := ?_) (bA 38 8388607) rfl rfl (any_of HT_.out (by kernel_rfl)) (fun _ _ _ h => h) (Or.inr ⟨by rfl, rfl⟩) ?_ ?_
      rotate_left
      ·
       simp only [Act.put, List.setIfInBounds_toArray, List.set_cons_zero, List.set_cons_succ, i64_w, i32_w]
       rfl
      refine puE (i := 23) (N := some 40) (bA 38 16777215) HT_ ?_
      refine puE (i := 24) (N := some 41) (bA 38 33554431) HT_ ?_
      refine pure_ (i := 25) (N := some 42) (v := undef) (a' := ?_) (bA 38 67108863) rfl rfl (any_of HT_.out (by kernel_rfl)) (fun _ _ _ h => h) (Or.inr ⟨by rfl, rfl⟩) ?_ ?_
      rotate_left
      ·
       simp only [Act.put, List.setIfInBounds_toArray, List.set_cons_zero, List.set_cons_succ, i64_w, i32_w]
       rfl
      refine pure_ (i := 26) (N := some 43) (v := undef) (a' := ?_) (bA 38 134217727) rfl rfl (any_of HT_.out (by kernel_rfl)) (fun _ _ _ h => h) (Or.inr ⟨by rfl, rfl⟩) ?_ ?_
      rotate_left
      ·
       simp only [Act.put, List.setIfInBounds_toArray, List.set_cons_zero, List.set_cons_succ, i64_w, i32_w]
       rfl
      refine pure_ (i := 27) (N := some 44) (v := undef) (a' := ?_) (bA 38 268435455) rfl rfl (any_of HT_.out (by kernel_rfl)) (fun _ _ _ h => h) (Or.inr ⟨by rfl, rfl⟩) ?_ ?_
      rotate_left
      ·
       simp only [Act.put, List.setIfInBounds_toArray, List.set_cons_zero, List.set_cons_succ, i64_w, i32_w]
       rfl
      refine pure_ (i := 28) (N := some 45) (v := undef) (a' := ?_) (bA 38 536870911) rfl rfl (any_of HT_.out (by kernel_rfl)) (fun _ _ _ h => h) (Or.inr ⟨by rfl, rfl⟩) ?_ ?_
      rotate_left
      ·
       simp only [Act.put, List.setIfInBounds_toArray, List.set_cons_zero, List.set_cons_succ, i64_w, i32_w]
       rfl
      refine pure_ (i := 29) (N := some 46) (v := undef) (a' := ?_) (bA 38 1073741823) rfl rfl (any_of HT_.out (by kernel_rfl)) (fun _ _ _ h => h) (Or.inr ⟨by rfl, rfl⟩) ?_ ?_
      rotate_left
      ·
       simp only [Act.put, List.setIfInBounds_toArray, List.set_cons_zero, List.set_cons_succ, i64_w, i32_w]
       rfl
      refine pure_ (i := 30) (N := some 47) (v := undef) (a' := ?_) (bA 38 2147483647) rfl rfl (any_of HT_.out (by kernel_rfl)) (fun _ _ _ h => h) (Or.inr ⟨by rfl, rfl⟩) ?_ ?_
      rotate_left
      ·
       simp only [Act.put, List.setIfInBounds_toArray, List.set_cons_zero, List.set_cons_succ, i64_w, i32_w]
       rfl
      refine pure_ (i := 31) (N := some 48) (v := undef) (a' := ?_) (bA 38 4294967295) rfl rfl (any_of HT_.out (by kernel_rfl)) (fun _ _ _ h => h) (Or.inr ⟨by rfl, rfl⟩) ?_ ?_
      rotate_left
      ·
       simp only [Act.put, List.setIfInBounds_toArray, List.set_cons_zero, List.set_cons_succ, i64_w, i32_w]
       rfl
      refine pure_ (i := 32) (N := some 49) (v := undef) (a' := ?_) (bA 38 8589934591) rfl rfl (any_of HT_.out (by kernel_rfl)) (fun _ _ _ h => h) (Or.inr ⟨by rfl, rfl⟩) ?_ ?_
      rotate_left
      ·
       simp only [Act.put, List.setIfInBounds_toArray, List.set_cons_zero, List.set_cons_succ, i64_w, i32_w]
       rfl
      refine pure_ (i := 33) (N := some 50) (v := undef) (a' := ?_) (bA 38 17179869183) rfl rfl (any_of HT_.out (by kernel_rfl)) (fun _ _ _ h => h) (Or.inr ⟨by rfl, rfl⟩) ?_ ?_
      rotate_left
      ·
       simp only [Act.put, List.setIfInBounds_toArray, List.set_cons_zero, List.set_cons_succ, i64_w, i32_w]
       rfl
      refine pure_ (i := 34) (N := some 51) (v := undef) (a' := ?_) (bA 38 34359738367) rfl rfl (any_of HT_.out (by kernel_rfl)) (fun _ _ _ h => h) (Or.inr ⟨by rfl, rfl⟩) ?_ ?_
      rotate_left
      ·
       simp only [Act.put, List.setIfInBounds_toArray, List.set_cons_zero, List.set_cons_succ, i64_w, i32_w]
       rfl
      refine pure_ (i := 35) (N := some 52) (v := undef) (a' := ?_) (bA 38 68719476735) rfl rfl (any_of HT_.out (by kernel_rfl)) (fun _ _ _ h => h) (Or.inr ⟨by rfl, rfl⟩) ?_ ?_
      rotate_left
      ·
       simp only [Act.put, List.setIfInBounds_toArray, List.set_cons_zero, List.set_cons_succ, i64_w, i32_w]
       rfl
      refine pure_ (i := 36) (N := some 53) (v := undef) (a' := ?_) (bA 38 137438953471) rfl rfl (any_of HT_.out (by kernel_rfl)) (fun _ _ _ h => h) (Or.inr ⟨by rfl, rfl⟩) ?_ ?_
      rotate_left
      ·
       simp only [Act.put, List.setIfInBounds_toArray, List.set_cons_zero, List.set_cons_succ, i64_w, i32_w]
       rfl
      refine puE (i := 37) (N := some 54) (bA 38 274877906943) HT_ ?_
      refine done_ (done_of HT_.out (by kernel_rfl)) ?_
      try go_wp2
      go_ret
      exact ⟨cl3, hbA HB⟩
    ·
     rw [if_neg c4] at H; have c4b0 := decide_eq_false c4; clear c4; obtain rfl := Option.some.inj H
     go_wp2
     go_ret
     exact ⟨cl3, hbA HB⟩
 ·
  rw [if_neg c3] at H; have c3b0 := beq_eq_false_iff_ne.mpr c3; have c3b1 := bne_iff_ne.mpr c3; have c3b2 : (l0.length == l1.length) = false := by first | simpa using c3 | (simp at c3 ⊢; omega)
  obtain rfl := Option.some.inj H
  go_enter Try.func22, Try.ntmps22
  go_wp2
  go_ret
  exact ⟨cl3, hbA HB⟩
end Go.Proofs.Ytfejdnkmmjffcaa.X
