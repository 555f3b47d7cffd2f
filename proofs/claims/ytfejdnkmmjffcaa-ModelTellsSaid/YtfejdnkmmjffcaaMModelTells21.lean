import Derived.Test.YtfejdnkmmjffcaaMModelTells3
import Derived.Test.YtfejdnkmmjffcaaMModelTells9
import Derived.Test.YtfejdnkmmjffcaaMModelTells10
import Derived.Test.YtfejdnkmmjffcaaMModelTells11
import Derived.Test.YtfejdnkmmjffcaaMModelTells14
import Derived.Test.YtfejdnkmmjffcaaMModelTells16
import Derived.Test.YtfejdnkmmjffcaaMModelTells19
import Derived.Test.YtfejdnkmmjffcaaMModelTells4
import Derived.Test.YtfejdnkmmjffcaaMModelTells20
import Derived.Test.YtfejdnkmmjffcaaMModelTells7
namespace Go.Proofs.Ytfejdnkmmjffcaa.X
open Go.RowKit Go.Proofs.YtfejdnkmmjffcaaW.PrintWords Go.Proofs.YtfejdnkmmjffcaaW.PrintLast Go.Proofs.YtfejdnkmmjffcaaW.PrintMore
attribute [local go_sem] max2_int min2_int max_two min_two max_three min_three max_four min_four
set_option linter.unusedVariables false
set_option linter.unusedSimpArgs false
def tell.T4 : Bool × List (List Nat × List Nat) := (true, [([], []), ([], []), ([0, 1], [0, 1]), ([], []), ([], []), ([4, 2], [4]), ([3, 5, 5], [3, 5]), ([2, 6], [2, 6]), ([7, 6], [7]), ([8], [8]), ([8], [8]), ([9, 10, 8, 8], [8, 9, 10]), ([11, 8], [8, 11]), ([8, 12], [8, 12])])
def tell.B4 : List Nat := [0, 0, 3, 0, 0, 23, 63, 127, 255, 511, 511, 2047, 4095, 8191]
theorem tell.tab4 : rtab .any (opsOf Try.f3 4) = tell.T4 := by kernel_rfl
theorem tell.bits4 : waitsOk tell.T4.2 tell.B4 = true := by kernel_rfl
def tell.T7 : Bool × List (List Nat × List Nat) := (true, [([], []), ([0], [0]), ([], []), ([1, 2, 1], [1, 2]), ([3], [3])])
def tell.B7 : List Nat := [0, 1, 0, 7, 15]
theorem tell.tab7 : rtab .any (opsOf Try.f3 7) = tell.T7 := by kernel_rfl
theorem tell.bits7 : waitsOk tell.T7.2 tell.B7 = true := by kernel_rfl
def tell.T47 : Bool × List (List Nat × List Nat) := (true, [([], []), ([0, 0], [0]), ([1], [1]), ([2, 1, 1], [1, 2]), ([1], [1]), ([3, 4, 3, 1], [1, 3, 4]), ([1, 5], [1, 5]), ([6, 5, 0, 1, 2, 3, 4, 5, 6], [6])])
def tell.B47 : List Nat := [0, 1, 3, 7, 3, 31, 63, 127]
theorem tell.tab47 : rtab .any (opsOf Try.f3 47) = tell.T47 := by kernel_rfl
theorem tell.bits47 : waitsOk tell.T47.2 tell.B47 = true := by kernel_rfl
set_option maxHeartbeats 4000000 in
set_option maxRecDepth 100000 in
theorem tells (oa ob : Int) (A1 : Option Addr) (c1 : Nat) (l1 : List S40) (A2 : Option Addr) (c2 : Nat) (l2 : List S40) (A3 : Option Addr) (c3 : Nat) (l3 : List S42) (A4 : Option Addr) (c4 : Nat) (l4 : List S46) (yA1 : Option Addr) (yc1 : Nat) (yl1 : List S40) (yA2 : Option Addr) (yc2 : Nat) (yl2 : List S40) (yA3 : Option Addr) (yc3 : Nat) (yl3 : List S42) (yA4 : Option Addr) (yc4 : Nat) (yl4 : List S46) (m1 m2 n1 n2 : List S89) (m3 n3 : List S55) (m4 n4 : List S59) (s s1 s2 : Bool) (k : Nat) (w : World) (hx : XM w A1 c1 l1 A2 c2 l2 A3 c3 l3 A4 c4 l4) (hy : XM w yA1 yc1 yl1 yA2 yc2 yl2 yA3 yc3 yl3 yA4 yc4 yl4)
    (hs1 : agatelaw10_Small.f oa l1 l2 l3 l4 = some s1) (hs2 : agatelaw10_Small.f ob yl1 yl2 yl3 yl4 = some s2) (hox : agatelaw10_Of.f k oa l1 l2 l3 l4 = some (oa, m1, m2, m3, m4)) (hoy : agatelaw10_Of.f k ob yl1 yl2 yl3 yl4 = some (ob, n1, n2, n3, n4)) (hcx : model_Model_Clone.f k oa l1 l2 l3 l4 = some (oa, l1, l2, l3, l4)) (hcy : model_Model_Clone.f k ob yl1 yl2 yl3 yl4 = some (ob, yl1, yl2, yl3, yl4))
    (h12 : model_Model_Same.f k oa l1 l2 l3 l4 ob yl1 yl2 yl3 yl4 = some s) (r12 : agateref10_Same.f k oa m1 m2 m3 m4 ob n1 n2 n3 n4 = some s) (h11 : model_Model_Same.f k oa l1 l2 l3 l4 oa l1 l2 l3 l4 = some true) (r11 : agateref10_Same.f k oa m1 m2 m3 m4 oa m1 m2 m3 m4 = some true) (r22 : agateref10_Same.f k ob n1 n2 n3 n4 ob n1 n2 n3 n4 = some true) (haw : agatelaw10_Awake.f = some true) (hl4 : (∀ x ∈ yl4, ∀ s ∈ x.f1, s.size ≤ 140737488351232) ∧ yl4.length ≤ 1759218604441) :
    Calls Try.prog 3 #[.agg #[.int .i64 oa, .slice A1 l1.length c1, .slice A2 l2.length c2, .slice A3 l3.length c3, .slice A4 l4.length c4], .agg #[.int .i64 ob, .slice yA1 yl1.length yc1, .slice yA2 yl2.length yc2, .slice yA3 yl3.length yc3, .slice yA4 yl4.length yc4]] w fun e w' => e = .returned (.bool true) ∧ Below w.heap.size w w' := by
  have huX := Try.underlying26
  have huY := Try.underlying33
  have HX := mk0 hx
  have HY := mk0 hy
  have HS1 := mk0 hs1
  have HS2 := mk0 hs2
  have HOx := mk0 hox
  have HOy := mk0 hoy
  have HCx := mk0 hcx
  have HCy := mk0 hcy
  have HE12 := mk0 h12
  have HR12 := mk0 r12
  have HE11 := mk0 h11
  have HR11 := mk0 r11
  have HR22 := mk0 r22
  have HAw := mk0 haw
  have HL4 := mk0 hl4
  have HSS := mk0 (show (s != s) = false by cases s <;> rfl)
  have HB := mk0 (Below.refl w.heap.size w)
  clear hx hy hs1 hs2 hox hoy hcx hcy h12 r12 h11 r11 r22 haw hl4
  go_enter Try.func3, Try.ntmps3
  go_wp2_with (first | ((with_reducible refine gate_dst (N := 2) rfl ?_); refine boxE (N := 2) (cs := #[.int .i64 oa, .slice A1 l1.length c1, .slice A2 l2.length c2, .slice A3 l3.length c3, .slice A4 l4.length c4]) (t := 26) ?_; intro g2 hg v1 hbox hb; have B2 := mk0 hbox; have G2 := gwS HB hg; replace HX := mk0 (HX.out.step hb); replace HY := mk0 (HY.out.step hb); replace HB := hbS HB hb; clear hb hbox hg) | ((with_reducible refine gate_dst (N := 3) rfl ?_); refine boxE (N := 3) (cs := #[.int .i64 ob, .slice yA1 yl1.length yc1, .slice yA2 yl2.length yc2, .slice yA3 yl3.length yc3, .slice yA4 yl4.length yc4]) (t := 26) ?_; intro g3 hg v2 hbox hb; have B3 := mk0 hbox; have G3 := gwS HB hg; have N23 := neS B2 hg; have N32 := neT B2 hg; replace B2 := bkS B2 hb; replace HX := mk0 (HX.out.step hb); replace HY := mk0 (HY.out.step hb); replace HB := hbS HB hb; clear hb hbox hg; obtain ⟨x0, x1, x2, x3, x4⟩ := cz5 B2; obtain ⟨y0, y1, y2, y3, y4⟩ := cz5 B3))
  refine (small_c HX.out HS1.out).mono ?_
  rintro e v3 ⟨rfl, hb⟩
  replace HX := mk0 (HX.out.step hb)
  replace HY := mk0 (HY.out.step hb)
  replace B2 := bkS B2 hb
  replace B3 := bkS B3 hb
  replace HB := hbS HB hb
  clear hb x0 x1 x2 x3 x4 y0 y1 y2 y3 y4
  cases s1 with
  | false =>
    go_wp2_with (first | fail)
    refine (agatelaw10_Awake.calls true _ HAw.out).mono ?_
    rintro e wE ⟨rfl, hb⟩
    replace HB := hbS HB hb
    clear hb
    go_wp2
    go_ret
    exact ⟨rfl, HB.out⟩
  | true =>
  obtain ⟨y0, y1, y2, y3, y4⟩ := cz5 B3
  go_wp2_with (first | fail)
  refine (small_c HY.out HS2.out).mono ?_
  rintro e v4 ⟨rfl, hb⟩
  replace HX := mk0 (HX.out.step hb)
  replace HY := mk0 (HY.out.step hb)
  replace B2 := bkS B2 hb
  replace B3 := bkS B3 hb
  replace HB := hbS HB hb
  clear hb y0 y1 y2 y3 y4
  cases s2 with
  | false =>
    go_wp2_with (first | fail)
    refine (agatelaw10_Awake.calls true _ HAw.out).mono ?_
    rintro e wE ⟨rfl, hb⟩
    replace HB := hbS HB hb
    clear hb
    go_wp2
    go_ret
    exact ⟨rfl, HB.out⟩
  | true =>
  obtain ⟨x0, x1, x2, x3, x4⟩ := cz5 B2
  go_wp2_with (first | fail)
  refine (of_c HX.out HOx.out).mono ?_
  rintro e v5 ⟨I1, d1, I2, d2, I3, d3, I4, d4, rfl, hm, hb⟩
  have HM := mk0 hm
  replace HX := mk0 (HX.out.step hb)
  replace HY := mk0 (HY.out.step hb)
  replace B2 := bkS B2 hb
  replace B3 := bkS B3 hb
  replace HB := hbS HB hb
  clear hb hm x0 x1 x2 x3 x4
  have H5 := mk0 (Below.refl v5.heap.size v5)
  go_wp2_with (first | ((with_reducible refine gate_dst (N := 5) rfl ?_); refine boxE (N := 5) (cs := #[.int .i64 0, .slice none 0 0, .slice none 0 0, .slice none 0 0, .slice none 0 0]) (t := 33) ?_; intro g5 hg v6 hbox hb; have B5 := mk0 hbox; have G5 := gwS HB hg; have N2_5 := neS B2 hg; have N5_2 := neT B2 hg; replace B2 := bkS B2 hb; have N3_5 := neS B3 hg; have N5_3 := neT B3 hg; replace B3 := bkS B3 hb; have GH := gwS H5 hg; replace H5 := hbS H5 hb; replace HB := hbS HB hb; clear hb hbox hg; obtain ⟨z0, z1, z2, z3, z4⟩ := cz5 B5; have fz0 := fz B5 0; have fz1 := fz B5 1; have fz2 := fz B5 2; have fz3 := fz B5 3; have fz4 := fz B5 4))
  obtain ⟨v7, hw⟩ : ∃ wb, wb = (((((v6).setCell ⟨g5, 0, none⟩ (.int .i64 oa)).setCell ⟨g5, 1, none⟩ (.slice I1 m1.length d1)).setCell ⟨g5, 2, none⟩ (.slice I2 m2.length d2)).setCell ⟨g5, 3, none⟩ (.slice I3 m3.length d3)).setCell ⟨g5, 4, none⟩ (.slice I4 m4.length d4) := ⟨_, rfl⟩
  rw [← hw]
  replace B5 := mk0 (show v7.heap[g5]? = some (.cells #[.int .i64 oa, .slice I1 m1.length d1, .slice I2 m2.length d2, .slice I3 m3.length d3, .slice I4 m4.length d4] 33 (0, 0)) from by rw [hw]; exact bkW B5)
  replace B2 := bkQ B2 hw
  replace B3 := bkQ B3 hw
  replace H5 := hbQ H5 hw
  replace HB := hbQ HB hw
  clear hw z0 z1 z2 z3 z4 fz0 fz1 fz2 fz3 fz4 GH
  replace HX := mk0 (HX.out.step H5.out)
  replace HY := mk0 (HY.out.step H5.out)
  replace HM := mk0 (HM.out.step H5.out)
  clear H5
  clear HS1 HS2
  obtain ⟨P4, hP⟩ : ∃ P : World → Prop, P = fun W => W.heap[g2]? = some (.cells #[.int .i64 oa, .slice A1 l1.length c1, .slice A2 l2.length c2, .slice A3 l3.length c3, .slice A4 l4.length c4] 26 (0, 0)) ∧ W.heap[g3]? = some (.cells #[.int .i64 ob, .slice yA1 yl1.length yc1, .slice yA2 yl2.length yc2, .slice yA3 yl3.length yc3, .slice yA4 yl4.length yc4] 26 (0, 0)) ∧ W.heap[g5]? = some (.cells #[.int .i64 oa, .slice I1 m1.length d1, .slice I2 m2.length d2, .slice I3 m3.length d3, .slice I4 m4.length d4] 33 (0, 0)) ∧ XM W A1 c1 l1 A2 c2 l2 A3 c3 l3 A4 c4 l4 ∧ XM W yA1 yc1 yl1 yA2 yc2 yl2 yA3 yc3 yl3 yA4 yc4 yl4 ∧ YM W I1 d1 m1 I2 d2 m2 I3 d3 m3 I4 d4 m4 := ⟨_, rfl⟩
  have H2 := mk0 (show ∀ W, P4 W → W.heap[g2]? = some (.cells #[.int .i64 oa, .slice A1 l1.length c1, .slice A2 l2.length c2, .slice A3 l3.length c3, .slice A4 l4.length c4] 26 (0, 0)) from fun W h => by rw [hP] at h; exact h.1)
  have H3 := mk0 (show ∀ W, P4 W → W.heap[g3]? = some (.cells #[.int .i64 ob, .slice yA1 yl1.length yc1, .slice yA2 yl2.length yc2, .slice yA3 yl3.length yc3, .slice yA4 yl4.length yc4] 26 (0, 0)) from fun W h => by rw [hP] at h; exact h.2.1)
  have H5 := mk0 (show ∀ W, P4 W → W.heap[g5]? = some (.cells #[.int .i64 oa, .slice I1 m1.length d1, .slice I2 m2.length d2, .slice I3 m3.length d3, .slice I4 m4.length d4] 33 (0, 0)) from fun W h => by rw [hP] at h; exact h.2.2.1)
  have HX4 := mk0 (show ∀ W, P4 W → XM W A1 c1 l1 A2 c2 l2 A3 c3 l3 A4 c4 l4 from fun W h => by rw [hP] at h; exact h.2.2.2.1)
  have HY4 := mk0 (show ∀ W, P4 W → XM W yA1 yc1 yl1 yA2 yc2 yl2 yA3 yc3 yl3 yA4 yc4 yl4 from fun W h => by rw [hP] at h; exact h.2.2.2.2.1)
  have HM4 := mk0 (show ∀ W, P4 W → YM W I1 d1 m1 I2 d2 m2 I3 d3 m3 I4 d4 m4 from fun W h => by rw [hP] at h; exact h.2.2.2.2.2)
  have HS4 := mk0 (show ∀ V1 V2, Below V1.heap.size V1 V2 → P4 V1 → P4 V2 from fun V1 V2 hb h => by rw [hP] at h ⊢; exact ⟨blk_below h.1 hb, blk_below h.2.1 hb, blk_below h.2.2.1 hb, h.2.2.2.1.step hb, h.2.2.2.2.1.step hb, h.2.2.2.2.2.step hb⟩)
  have HP := mk0 (show P4 v7 from by rw [hP]; exact ⟨B2.out, B3.out, B5.out, HX.out, HY.out, HM.out⟩)
  clear hP B2 B3 B5 HX HY HM
  clear N23 N32 N2_5 N5_2 N3_5 N5_3 G2 G3 G5
  have HR4 := mk0 (show Below w.heap.size w v7.drew ∧ P4 v7.drew from ⟨below_drew1 HB.out, HS4.out _ _ (below_drew1 (Below.refl _ _)) HP.out⟩)
  clear HP HB
  refine start_ (n := 14) (S := fun w' => True) (ds := []) #[false, false, false, false, false, false, false, false, false, false, false, false, false, false] (by kernel_rfl) rfl rfl trivial (fun hHeld => ?_)
  refine with_tabW tell.tab4 tell.bits4 (fun HT_ HW_ => ?_)
  generalize v7.drew = wd at HR4 hHeld ⊢
  refine inv_at [0, 1, 2, 3, 4, 5, 6, 7, 8, 9, 10, 11, 12, 13] (fun a0_ b a w' => ∃ (E1 : Option Addr) (E2 : Option Addr) (E3 : Option Addr) (E4 : Option Addr) (r1 : Nat) (r2 : Nat) (r3 : Nat) (r4 : Nat) (m5_ : Value), a = putSel a0_ b [(0, 28, .agg #[.int .i64 oa, .slice A1 l1.length c1, .slice A2 l2.length c2, .slice A3 l3.length c3, .slice A4 l4.length c4]), (1, 29, .agg #[.int .i64 ob, .slice yA1 yl1.length yc1, .slice yA2 yl2.length yc2, .slice yA3 yl3.length yc3, .slice yA4 yl4.length yc4]), (2, 30, .bool s), (3, 31, .agg #[.int .i64 oa, .slice I1 m1.length d1, .slice I2 m2.length d2, .slice I3 m3.length d3, .slice I4 m4.length d4]), (4, 32, .agg #[.int .i64 ob, .slice yA1 yl1.length yc1, .slice yA2 yl2.length yc2, .slice yA3 yl3.length yc3, .slice yA4 yl4.length yc4]), (5, 33, m5_), (6, 34, .bool s), (7, 35, .bool false), (8, 36, .bool false), (9, 37, .agg #[.int .i64 oa, .slice A1 l1.length c1, .slice A2 l2.length c2, .slice A3 l3.length c3, .slice A4 l4.length c4]), (10, 38, .agg #[.int .i64 oa, .slice A1 l1.length c1, .slice A2 l2.length c2, .slice A3 l3.length c3, .slice A4 l4.length c4]), (11, 39, .bool true), (12, 40, .bool false), (13, 41, .bool false)] ∧ (Below w.heap.size w w' ∧ P4 w') ∧ (b 5 = true → YM w' E1 r1 n1 E2 r2 n2 E3 r3 n3 E4 r4 n4) ∧ (b 5 = true → (m5_ : Value) = .agg #[.int .i64 ob, .slice E1 n1.length r1, .slice E2 n2.length r2, .slice E3 n3.length r3, .slice E4 n4.length r4])) HT_.out HW_.out (by kernel_rfl) (by kernel_rfl) ?_ ?_ ?_
  · exact ⟨none, none, none, none, 0, 0, 0, 0, .bool false, by simp only [putSel, Bool.false_eq_true, if_false], HR4.out, fun h_ => absurd h_ (by decide), fun h_ => absurd h_ (by decide)⟩
  · skip
    skip
    refine steps_cons ?_ ?_
    · rintro b a w' ⟨E1, E2, E3, E4, r1, r2, r3, r4, m5_, ha, Q_R, Q_O, Q_X5_⟩ hb_ hon hoff
      refine ⟨_, rfl, fun K hK => ?_⟩
      have e2 : a.tmps[2]? = some (.pointer (some ⟨g2, 0, none⟩)) := by rw [ha]; exact (putSel_off rfl).trans rfl
      replace ha := Aside0.mk ha
      have R := Aside0.mk Q_R
      obtain ⟨u0_, u1_, u2_, u3_, u4_⟩ := cz5 (mk0 (H2.out _ R.out.2))
      refine value_ (w1 := w') (v := .agg #[.int .i64 oa, .slice A1 l1.length c1, .slice A2 l2.length c2, .slice A3 l3.length c3, .slice A4 l4.length c4]) (by rfl) rfl ?_ ?_
      · go_simp
        (try simp only [i64_w])
        try rfl
      refine hK.out _ _ ⟨E1, E2, E3, E4, r1, r2, r3, r4, m5_, (by rw [ha.out]; exact putSel_upk 0 hb_ rfl rfl rfl), Q_R, fun h0_ => absurd ((hoff 5 (by kernel_rfl)).symm.trans h0_) (by decide), fun h0_ => absurd ((hoff 5 (by kernel_rfl)).symm.trans h0_) (by decide)⟩
    refine steps_cons ?_ ?_
    · rintro b a w' ⟨E1, E2, E3, E4, r1, r2, r3, r4, m5_, ha, Q_R, Q_O, Q_X5_⟩ hb_ hon hoff
      refine ⟨_, rfl, fun K hK => ?_⟩
      have e3 : a.tmps[3]? = some (.pointer (some ⟨g3, 0, none⟩)) := by rw [ha]; exact (putSel_off rfl).trans rfl
      replace ha := Aside0.mk ha
      have R := Aside0.mk Q_R
      obtain ⟨u0_, u1_, u2_, u3_, u4_⟩ := cz5 (mk0 (H3.out _ R.out.2))
      refine value_ (w1 := w') (v := .agg #[.int .i64 ob, .slice yA1 yl1.length yc1, .slice yA2 yl2.length yc2, .slice yA3 yl3.length yc3, .slice yA4 yl4.length yc4]) (by rfl) rfl ?_ ?_
      · go_simp
        (try simp only [i64_w])
        try rfl
      refine hK.out _ _ ⟨E1, E2, E3, E4, r1, r2, r3, r4, m5_, (by rw [ha.out]; exact putSel_upk 1 hb_ rfl rfl rfl), Q_R, fun h0_ => absurd ((hoff 5 (by kernel_rfl)).symm.trans h0_) (by decide), fun h0_ => absurd ((hoff 5 (by kernel_rfl)).symm.trans h0_) (by decide)⟩
    refine steps_cons ?_ ?_
    · rintro b a w' ⟨E1, E2, E3, E4, r1, r2, r3, r4, m5_, ha, Q_R, Q_O, Q_X5_⟩ hb_ hon hoff
      refine ⟨_, rfl, fun K hK => ?_⟩
      have e28 : a.tmps[28]? = some (.agg #[.int .i64 oa, .slice A1 l1.length c1, .slice A2 l2.length c2, .slice A3 l3.length c3, .slice A4 l4.length c4]) := by rw [ha]; exact putSel_on (e := (0, 28, .agg #[.int .i64 oa, .slice A1 l1.length c1, .slice A2 l2.length c2, .slice A3 l3.length c3, .slice A4 l4.length c4])) 0 rfl rfl (hon 0 (by kernel_rfl)) rfl
      have e29 : a.tmps[29]? = some (.agg #[.int .i64 ob, .slice yA1 yl1.length yc1, .slice yA2 yl2.length yc2, .slice yA3 yl3.length yc3, .slice yA4 yl4.length yc4]) := by rw [ha]; exact putSel_on (e := (1, 29, .agg #[.int .i64 ob, .slice yA1 yl1.length yc1, .slice yA2 yl2.length yc2, .slice yA3 yl3.length yc3, .slice yA4 yl4.length yc4])) 1 rfl rfl (hon 1 (by kernel_rfl)) rfl
      replace ha := Aside0.mk ha
      have R := Aside0.mk Q_R
      refine call_ 7 #[.agg #[.int .i64 oa, .slice A1 l1.length c1, .slice A2 l2.length c2, .slice A3 l3.length c3, .slice A4 l4.length c4], .agg #[.int .i64 ob, .slice yA1 yl1.length yc1, .slice yA2 yl2.length yc2, .slice yA3 yl3.length yc3, .slice yA4 yl4.length yc4]] (by rfl) rfl (by go_simp; try rfl) ?_
      refine (same_c (HX4.out _ R.out.2) (HY4.out _ R.out.2) HE12.out).mono ?_
      rintro e w1 ⟨rfl, hB⟩
      refine ⟨_, rfl, ?_⟩
      refine hK.out _ _ ⟨E1, E2, E3, E4, r1, r2, r3, r4, m5_, (by rw [ha.out]; exact putSel_upk 2 hb_ rfl rfl rfl), ⟨below_step R.out.1 hB, HS4.out _ _ hB R.out.2⟩, fun h0_ => absurd ((hoff 5 (by kernel_rfl)).symm.trans h0_) (by decide), fun h0_ => absurd ((hoff 5 (by kernel_rfl)).symm.trans h0_) (by decide)⟩
    refine steps_cons ?_ ?_
    · rintro b a w' ⟨E1, E2, E3, E4, r1, r2, r3, r4, m5_, ha, Q_R, Q_O, Q_X5_⟩ hb_ hon hoff
      refine ⟨_, rfl, fun K hK => ?_⟩
      have e5 : a.tmps[5]? = some (.pointer (some ⟨g5, 0, none⟩)) := by rw [ha]; exact (putSel_off rfl).trans rfl
      replace ha := Aside0.mk ha
      have R := Aside0.mk Q_R
      obtain ⟨u0_, u1_, u2_, u3_, u4_⟩ := cz5 (mk0 (H5.out _ R.out.2))
      refine value_ (w1 := w') (v := .agg #[.int .i64 oa, .slice I1 m1.length d1, .slice I2 m2.length d2, .slice I3 m3.length d3, .slice I4 m4.length d4]) (by rfl) rfl ?_ ?_
      · go_simp
        (try simp only [i64_w])
        try rfl
      refine hK.out _ _ ⟨E1, E2, E3, E4, r1, r2, r3, r4, m5_, (by rw [ha.out]; exact putSel_upk 3 hb_ rfl rfl rfl), Q_R, Q_O, Q_X5_⟩
    refine steps_cons ?_ ?_
    · rintro b a w' ⟨E1, E2, E3, E4, r1, r2, r3, r4, m5_, ha, Q_R, Q_O, Q_X5_⟩ hb_ hon hoff
      refine ⟨_, rfl, fun K hK => ?_⟩
      have e3 : a.tmps[3]? = some (.pointer (some ⟨g3, 0, none⟩)) := by rw [ha]; exact (putSel_off rfl).trans rfl
      replace ha := Aside0.mk ha
      have R := Aside0.mk Q_R
      obtain ⟨u0_, u1_, u2_, u3_, u4_⟩ := cz5 (mk0 (H3.out _ R.out.2))
      refine value_ (w1 := w') (v := .agg #[.int .i64 ob, .slice yA1 yl1.length yc1, .slice yA2 yl2.length yc2, .slice yA3 yl3.length yc3, .slice yA4 yl4.length yc4]) (by rfl) rfl ?_ ?_
      · go_simp
        (try simp only [i64_w])
        try rfl
      refine hK.out _ _ ⟨E1, E2, E3, E4, r1, r2, r3, r4, m5_, (by rw [ha.out]; exact putSel_upk 4 hb_ rfl rfl rfl), Q_R, fun h0_ => absurd ((hoff 5 (by kernel_rfl)).symm.trans h0_) (by decide), fun h0_ => absurd ((hoff 5 (by kernel_rfl)).symm.trans h0_) (by decide)⟩
    refine steps_cons ?_ ?_
    · rintro b a w' ⟨E1, E2, E3, E4, r1, r2, r3, r4, m5_, ha, Q_R, Q_O, Q_X5_⟩ hb_ hon hoff
      refine ⟨_, rfl, fun K hK => ?_⟩
      have e32 : a.tmps[32]? = some (.agg #[.int .i64 ob, .slice yA1 yl1.length yc1, .slice yA2 yl2.length yc2, .slice yA3 yl3.length yc3, .slice yA4 yl4.length yc4]) := by rw [ha]; exact putSel_on (e := (4, 32, .agg #[.int .i64 ob, .slice yA1 yl1.length yc1, .slice yA2 yl2.length yc2, .slice yA3 yl3.length yc3, .slice yA4 yl4.length yc4])) 4 rfl rfl (hon 4 (by kernel_rfl)) rfl
      replace ha := Aside0.mk ha
      have R := Aside0.mk Q_R
      refine call_ 6 #[.agg #[.int .i64 ob, .slice yA1 yl1.length yc1, .slice yA2 yl2.length yc2, .slice yA3 yl3.length yc3, .slice yA4 yl4.length yc4]] (by rfl) rfl (by go_simp; try rfl) ?_
      refine (of_c (HY4.out _ R.out.2) HOy.out).mono ?_
      rintro e w1 ⟨F1, f1, F2, f2, F3, f3, F4, f4, rfl, hO, hB⟩
      refine ⟨_, rfl, ?_⟩
      refine hK.out _ _ ⟨F1, F2, F3, F4, f1, f2, f3, f4, (.agg #[.int .i64 ob, .slice F1 n1.length f1, .slice F2 n2.length f2, .slice F3 n3.length f3, .slice F4 n4.length f4]), (by rw [ha.out]; exact putSel_upk 5 hb_ rfl rfl rfl), ⟨below_step R.out.1 hB, HS4.out _ _ hB R.out.2⟩, fun _ => hO, fun _ => rfl⟩
    refine steps_cons ?_ ?_
    · rintro b a w' ⟨E1, E2, E3, E4, r1, r2, r3, r4, m5_, ha, Q_R, Q_O, Q_X5_⟩ hb_ hon hoff
      refine ⟨_, rfl, fun K hK => ?_⟩
      have e31 : a.tmps[31]? = some (.agg #[.int .i64 oa, .slice I1 m1.length d1, .slice I2 m2.length d2, .slice I3 m3.length d3, .slice I4 m4.length d4]) := by rw [ha]; exact putSel_on (e := (3, 31, .agg #[.int .i64 oa, .slice I1 m1.length d1, .slice I2 m2.length d2, .slice I3 m3.length d3, .slice I4 m4.length d4])) 3 rfl rfl (hon 3 (by kernel_rfl)) rfl
      have e33 : a.tmps[33]? = some (m5_) := by rw [ha]; exact putSel_on (e := (5, 33, m5_)) 5 rfl rfl (hon 5 (by kernel_rfl)) rfl
      rw [Q_X5_ (hon 5 (by kernel_rfl))] at e33
      replace ha := Aside0.mk ha
      have R := Aside0.mk Q_R
      have O := Aside0.mk (Q_O (hon 5 (by kernel_rfl)))
      refine call_ 8 #[.agg #[.int .i64 oa, .slice I1 m1.length d1, .slice I2 m2.length d2, .slice I3 m3.length d3, .slice I4 m4.length d4], .agg #[.int .i64 ob, .slice E1 n1.length r1, .slice E2 n2.length r2, .slice E3 n3.length r3, .slice E4 n4.length r4]] (by rfl) rfl (by go_simp; try rfl) ?_
      refine (rsame_c (HM4.out _ R.out.2) O.out HR12.out).mono ?_
      rintro e w1 ⟨rfl, hB⟩
      refine ⟨_, rfl, ?_⟩
      refine hK.out _ _ ⟨E1, E2, E3, E4, r1, r2, r3, r4, m5_, (by rw [ha.out]; exact putSel_upk 6 hb_ rfl rfl rfl), ⟨below_step R.out.1 hB, HS4.out _ _ hB R.out.2⟩, fun _ => O.out.step hB, Q_X5_⟩
    refine steps_cons ?_ ?_
    · rintro b a w' ⟨E1, E2, E3, E4, r1, r2, r3, r4, m5_, ha, Q_R, Q_O, Q_X5_⟩ hb_ hon hoff
      refine ⟨_, rfl, fun K hK => ?_⟩
      have e30 : a.tmps[30]? = some (.bool s) := by rw [ha]; exact putSel_on (e := (2, 30, .bool s)) 2 rfl rfl (hon 2 (by kernel_rfl)) rfl
      have e34 : a.tmps[34]? = some (.bool s) := by rw [ha]; exact putSel_on (e := (6, 34, .bool s)) 6 rfl rfl (hon 6 (by kernel_rfl)) rfl
      replace ha := Aside0.mk ha
      have R := Aside0.mk Q_R
      have O := Aside0.mk (Q_O (hon 5 (by kernel_rfl)))
      have hss := HSS.out
      refine value_ (w1 := w') (v := .bool false) (by rfl) rfl ?_ ?_
      · go_simp
        (try simp only [i64_w])
        try rfl
      refine hK.out _ _ ⟨E1, E2, E3, E4, r1, r2, r3, r4, m5_, (by rw [ha.out]; exact putSel_upk 7 hb_ rfl rfl rfl), Q_R, Q_O, Q_X5_⟩
    refine steps_cons ?_ ?_
    · rintro b a w' ⟨E1, E2, E3, E4, r1, r2, r3, r4, m5_, ha, Q_R, Q_O, Q_X5_⟩ hb_ hon hoff
      refine ⟨_, rfl, fun K hK => ?_⟩
      have e35 : a.tmps[35]? = some (.bool false) := by rw [ha]; exact putSel_on (e := (7, 35, .bool false)) 7 rfl rfl (hon 7 (by kernel_rfl)) rfl
      replace ha := Aside0.mk ha
      have R := Aside0.mk Q_R
      have O := Aside0.mk (Q_O (hon 5 (by kernel_rfl)))
      refine value_ (w1 := w') (v := .bool false) (by rfl) rfl ?_ ?_
      · go_simp
        (try simp only [i64_w])
        try rfl
      refine hK.out _ _ ⟨E1, E2, E3, E4, r1, r2, r3, r4, m5_, (by rw [ha.out]; exact putSel_upk 8 hb_ rfl rfl rfl), Q_R, Q_O, Q_X5_⟩
    refine steps_cons ?_ ?_
    · rintro b a w' ⟨E1, E2, E3, E4, r1, r2, r3, r4, m5_, ha, Q_R, Q_O, Q_X5_⟩ hb_ hon hoff
      refine ⟨_, rfl, fun K hK => ?_⟩
      have e2 : a.tmps[2]? = some (.pointer (some ⟨g2, 0, none⟩)) := by rw [ha]; exact (putSel_off rfl).trans rfl
      have e36 : a.tmps[36]? = some (.bool false) := by rw [ha]; exact putSel_on (e := (8, 36, .bool false)) 8 rfl rfl (hon 8 (by kernel_rfl)) rfl
      replace ha := Aside0.mk ha
      have R := Aside0.mk Q_R
      have O := Aside0.mk (Q_O (hon 5 (by kernel_rfl)))
      obtain ⟨u0_, u1_, u2_, u3_, u4_⟩ := cz5 (mk0 (H2.out _ R.out.2))
      refine value_ (w1 := w') (v := .agg #[.int .i64 oa, .slice A1 l1.length c1, .slice A2 l2.length c2, .slice A3 l3.length c3, .slice A4 l4.length c4]) (wanted_on rfl rfl rfl (e36.trans (by first | rfl | (simp [*]; done)))) rfl ?_ ?_
      · go_simp
        (try simp only [i64_w])
        try rfl
      refine hK.out _ _ ⟨E1, E2, E3, E4, r1, r2, r3, r4, m5_, (by rw [ha.out]; exact putSel_upk 9 hb_ rfl rfl rfl), Q_R, Q_O, Q_X5_⟩
    refine steps_cons ?_ ?_
    · rintro b a w' ⟨E1, E2, E3, E4, r1, r2, r3, r4, m5_, ha, Q_R, Q_O, Q_X5_⟩ hb_ hon hoff
      refine ⟨_, rfl, fun K hK => ?_⟩
      have e2 : a.tmps[2]? = some (.pointer (some ⟨g2, 0, none⟩)) := by rw [ha]; exact (putSel_off rfl).trans rfl
      have e36 : a.tmps[36]? = some (.bool false) := by rw [ha]; exact putSel_on (e := (8, 36, .bool false)) 8 rfl rfl (hon 8 (by kernel_rfl)) rfl
      replace ha := Aside0.mk ha
      have R := Aside0.mk Q_R
      have O := Aside0.mk (Q_O (hon 5 (by kernel_rfl)))
      obtain ⟨u0_, u1_, u2_, u3_, u4_⟩ := cz5 (mk0 (H2.out _ R.out.2))
      refine value_ (w1 := w') (v := .agg #[.int .i64 oa, .slice A1 l1.length c1, .slice A2 l2.length c2, .slice A3 l3.length c3, .slice A4 l4.length c4]) (wanted_on rfl rfl rfl (e36.trans (by first | rfl | (simp [*]; done)))) rfl ?_ ?_
      · go_simp
        (try simp only [i64_w])
        try rfl
      refine hK.out _ _ ⟨E1, E2, E3, E4, r1, r2, r3, r4, m5_, (by rw [ha.out]; exact putSel_upk 10 hb_ rfl rfl rfl), Q_R, Q_O, Q_X5_⟩
    refine steps_cons ?_ ?_
    · rintro b a w' ⟨E1, E2, E3, E4, r1, r2, r3, r4, m5_, ha, Q_R, Q_O, Q_X5_⟩ hb_ hon hoff
      refine ⟨_, rfl, fun K hK => ?_⟩
      have e37 : a.tmps[37]? = some (.agg #[.int .i64 oa, .slice A1 l1.length c1, .slice A2 l2.length c2, .slice A3 l3.length c3, .slice A4 l4.length c4]) := by rw [ha]; exact putSel_on (e := (9, 37, .agg #[.int .i64 oa, .slice A1 l1.length c1, .slice A2 l2.length c2, .slice A3 l3.length c3, .slice A4 l4.length c4])) 9 rfl rfl (hon 9 (by kernel_rfl)) rfl
      have e38 : a.tmps[38]? = some (.agg #[.int .i64 oa, .slice A1 l1.length c1, .slice A2 l2.length c2, .slice A3 l3.length c3, .slice A4 l4.length c4]) := by rw [ha]; exact putSel_on (e := (10, 38, .agg #[.int .i64 oa, .slice A1 l1.length c1, .slice A2 l2.length c2, .slice A3 l3.length c3, .slice A4 l4.length c4])) 10 rfl rfl (hon 10 (by kernel_rfl)) rfl
      have e36 : a.tmps[36]? = some (.bool false) := by rw [ha]; exact putSel_on (e := (8, 36, .bool false)) 8 rfl rfl (hon 8 (by kernel_rfl)) rfl
      replace ha := Aside0.mk ha
      have R := Aside0.mk Q_R
      have O := Aside0.mk (Q_O (hon 5 (by kernel_rfl)))
      refine call_ 7 #[.agg #[.int .i64 oa, .slice A1 l1.length c1, .slice A2 l2.length c2, .slice A3 l3.length c3, .slice A4 l4.length c4], .agg #[.int .i64 oa, .slice A1 l1.length c1, .slice A2 l2.length c2, .slice A3 l3.length c3, .slice A4 l4.length c4]] (wanted_on rfl rfl rfl (e36.trans rfl)) rfl (by go_simp; try rfl) ?_
      refine (same_c (HX4.out _ R.out.2) (HX4.out _ R.out.2) HE11.out).mono ?_
      rintro e w1 ⟨rfl, hB⟩
      refine ⟨_, rfl, ?_⟩
      refine hK.out _ _ ⟨E1, E2, E3, E4, r1, r2, r3, r4, m5_, (by rw [ha.out]; exact putSel_upk 11 hb_ rfl rfl rfl), ⟨below_step R.out.1 hB, HS4.out _ _ hB R.out.2⟩, fun _ => O.out.step hB, Q_X5_⟩
    refine steps_cons ?_ ?_
    · rintro b a w' ⟨E1, E2, E3, E4, r1, r2, r3, r4, m5_, ha, Q_R, Q_O, Q_X5_⟩ hb_ hon hoff
      refine ⟨_, rfl, fun K hK => ?_⟩
      have e39 : a.tmps[39]? = some (.bool true) := by rw [ha]; exact putSel_on (e := (11, 39, .bool true)) 11 rfl rfl (hon 11 (by kernel_rfl)) rfl
      have e36 : a.tmps[36]? = some (.bool false) := by rw [ha]; exact putSel_on (e := (8, 36, .bool false)) 8 rfl rfl (hon 8 (by kernel_rfl)) rfl
      replace ha := Aside0.mk ha
      have R := Aside0.mk Q_R
      have O := Aside0.mk (Q_O (hon 5 (by kernel_rfl)))
      refine value_ (w1 := w') (v := .bool false) (wanted_on rfl rfl rfl (e36.trans (by first | rfl | (simp [*]; done)))) rfl ?_ ?_
      · go_simp
        (try simp only [i64_w])
        try rfl
      refine hK.out _ _ ⟨E1, E2, E3, E4, r1, r2, r3, r4, m5_, (by rw [ha.out]; exact putSel_upk 12 hb_ rfl rfl rfl), Q_R, Q_O, Q_X5_⟩
    refine steps_cons ?_ ?_
    · rintro b a w' ⟨E1, E2, E3, E4, r1, r2, r3, r4, m5_, ha, Q_R, Q_O, Q_X5_⟩ hb_ hon hoff
      refine ⟨_, rfl, fun K hK => ?_⟩
      have e36 : a.tmps[36]? = some (.bool false) := by rw [ha]; exact putSel_on (e := (8, 36, .bool false)) 8 rfl rfl (hon 8 (by kernel_rfl)) rfl
      have e40 : a.tmps[40]? = some (.bool false) := by rw [ha]; exact putSel_on (e := (12, 40, .bool false)) 12 rfl rfl (hon 12 (by kernel_rfl)) rfl
      replace ha := Aside0.mk ha
      have R := Aside0.mk Q_R
      have O := Aside0.mk (Q_O (hon 5 (by kernel_rfl)))
      refine value_ (w1 := w') (v := .bool false) (by rfl) rfl ?_ ?_
      · go_simp
        (try simp only [i64_w])
        try rfl
      refine hK.out _ _ ⟨E1, E2, E3, E4, r1, r2, r3, r4, m5_, (by rw [ha.out]; exact putSel_upk 13 hb_ rfl rfl rfl), Q_R, Q_O, Q_X5_⟩
    exact steps_nil
  · rintro b a w' hall ⟨E1, E2, E3, E4, r1, r2, r3, r4, m5_, ha, Q_R, Q_O, Q_X5_⟩
    skip
    have hb0_ := hall 0 (by kernel_rfl)
    have hb1_ := hall 1 (by kernel_rfl)
    have hb2_ := hall 2 (by kernel_rfl)
    have hb3_ := hall 3 (by kernel_rfl)
    have hb4_ := hall 4 (by kernel_rfl)
    have hb5_ := hall 5 (by kernel_rfl)
    have hb6_ := hall 6 (by kernel_rfl)
    have hb7_ := hall 7 (by kernel_rfl)
    have hb8_ := hall 8 (by kernel_rfl)
    have hb9_ := hall 9 (by kernel_rfl)
    have hb10_ := hall 10 (by kernel_rfl)
    have hb11_ := hall 11 (by kernel_rfl)
    have hb12_ := hall 12 (by kernel_rfl)
    have hb13_ := hall 13 (by kernel_rfl)
    subst ha
    obtain rfl := Q_X5_ hb5_
    simp only [putSel, hb0_, hb1_, hb2_, hb3_, hb4_, hb5_, hb6_, hb7_, hb8_, hb9_, hb10_, hb11_, hb12_, hb13_, if_true, Act.put, List.setIfInBounds_toArray, List.set_cons_zero, List.set_cons_succ]
    have R := Aside0.mk Q_R
    clear Q_R
    have O := Aside0.mk (Q_O hb5_)
    clear Q_O
    clear hall hb0_ hb1_ hb2_ hb3_ hb4_ hb5_ hb6_ hb7_ hb8_ hb9_ hb10_ hb11_ hb12_ hb13_
    have B2 := mk0 (H2.out _ R.out.2)
    have B3 := mk0 (H3.out _ R.out.2)
    have B5 := mk0 (H5.out _ R.out.2)
    have HX := mk0 (HX4.out _ R.out.2)
    have HY := mk0 (HY4.out _ R.out.2)
    have HM := mk0 (HM4.out _ R.out.2)
    have HB := mk0 R.out.1
    clear R O HR4 HS4 H2 H3 H5 HX4 HY4 HM4 HE12 HR12 HE11 HSS hHeld HT_ HW_
    obtain ⟨x0, x1, x2, x3, x4⟩ := cz5 B2
    go_wp2_with (first | fail)
    refine (clone_c HX.out HCx.out).mono ?_
    rintro e v8 ⟨J1, j1, J2, j2, J3, j3, J4, j4, rfl, hc, _, _, _, hb⟩
    have HC := mk0 hc
    clear x0 x1 x2 x3 x4 B2 HX hc
    replace B3 := bkS B3 hb
    replace B5 := bkS B5 hb
    replace HY := mk0 (HY.out.step hb)
    replace HM := mk0 (HM.out.step hb)
    replace HB := hbS HB hb
    clear hb
    have H8 := mk0 (Below.refl v8.heap.size v8)
    go_wp2_with (first | ((with_reducible refine gate_dst (N := 6) rfl ?_); refine boxE (N := 6) (cs := #[.int .i64 0, .slice none 0 0, .slice none 0 0, .slice none 0 0, .slice none 0 0]) (t := 26) ?_; intro g6 hg v9 hbox hb; have B6 := mk0 hbox; have G6 := gwS HB hg; have N3_6 := neS B3 hg; have N6_3 := neT B3 hg; replace B3 := bkS B3 hb; have N5_6 := neS B5 hg; have N6_5 := neT B5 hg; replace B5 := bkS B5 hb; have GH := gwS H8 hg; replace H8 := hbS H8 hb; replace HB := hbS HB hb; clear hb hbox hg; obtain ⟨z0, z1, z2, z3, z4⟩ := cz5 B6; have fz0 := fz B6 0; have fz1 := fz B6 1; have fz2 := fz B6 2; have fz3 := fz B6 3; have fz4 := fz B6 4))
    obtain ⟨v10, hw⟩ : ∃ wb, wb = (((((v9).setCell ⟨g6, 0, none⟩ (.int .i64 oa)).setCell ⟨g6, 1, none⟩ (.slice J1 l1.length j1)).setCell ⟨g6, 2, none⟩ (.slice J2 l2.length j2)).setCell ⟨g6, 3, none⟩ (.slice J3 l3.length j3)).setCell ⟨g6, 4, none⟩ (.slice J4 l4.length j4) := ⟨_, rfl⟩
    rw [← hw]
    replace B6 := mk0 (show v10.heap[g6]? = some (.cells #[.int .i64 oa, .slice J1 l1.length j1, .slice J2 l2.length j2, .slice J3 l3.length j3, .slice J4 l4.length j4] 26 (0, 0)) from by rw [hw]; exact bkW B6)
    replace B3 := bkQ B3 hw
    replace B5 := bkQ B5 hw
    replace H8 := hbQ H8 hw
    replace HB := hbQ HB hw
    clear hw z0 z1 z2 z3 z4 fz0 fz1 fz2 fz3 fz4 GH
    replace HC := mk0 (HC.out.step H8.out)
    replace HY := mk0 (HY.out.step H8.out)
    replace HM := mk0 (HM.out.step H8.out)
    clear H8 N3_6 N6_3 N5_6 N6_5 G6
    obtain ⟨P7, hP⟩ : ∃ P : World → Prop, P = fun W => W.heap[g6]? = some (.cells #[.int .i64 oa, .slice J1 l1.length j1, .slice J2 l2.length j2, .slice J3 l3.length j3, .slice J4 l4.length j4] 26 (0, 0)) ∧ W.heap[g5]? = some (.cells #[.int .i64 oa, .slice I1 m1.length d1, .slice I2 m2.length d2, .slice I3 m3.length d3, .slice I4 m4.length d4] 33 (0, 0)) ∧ W.heap[g3]? = some (.cells #[.int .i64 ob, .slice yA1 yl1.length yc1, .slice yA2 yl2.length yc2, .slice yA3 yl3.length yc3, .slice yA4 yl4.length yc4] 26 (0, 0)) ∧ XM W J1 j1 l1 J2 j2 l2 J3 j3 l3 J4 j4 l4 ∧ YM W I1 d1 m1 I2 d2 m2 I3 d3 m3 I4 d4 m4 ∧ XM W yA1 yc1 yl1 yA2 yc2 yl2 yA3 yc3 yl3 yA4 yc4 yl4 := ⟨_, rfl⟩
    have H6 := mk0 (show ∀ W, P7 W → W.heap[g6]? = some (.cells #[.int .i64 oa, .slice J1 l1.length j1, .slice J2 l2.length j2, .slice J3 l3.length j3, .slice J4 l4.length j4] 26 (0, 0)) from fun W h => by rw [hP] at h; exact h.1)
    have H57 := mk0 (show ∀ W, P7 W → W.heap[g5]? = some (.cells #[.int .i64 oa, .slice I1 m1.length d1, .slice I2 m2.length d2, .slice I3 m3.length d3, .slice I4 m4.length d4] 33 (0, 0)) from fun W h => by rw [hP] at h; exact h.2.1)
    have H37 := mk0 (show ∀ W, P7 W → W.heap[g3]? = some (.cells #[.int .i64 ob, .slice yA1 yl1.length yc1, .slice yA2 yl2.length yc2, .slice yA3 yl3.length yc3, .slice yA4 yl4.length yc4] 26 (0, 0)) from fun W h => by rw [hP] at h; exact h.2.2.1)
    have HC7 := mk0 (show ∀ W, P7 W → XM W J1 j1 l1 J2 j2 l2 J3 j3 l3 J4 j4 l4 from fun W h => by rw [hP] at h; exact h.2.2.2.1)
    have HM7 := mk0 (show ∀ W, P7 W → YM W I1 d1 m1 I2 d2 m2 I3 d3 m3 I4 d4 m4 from fun W h => by rw [hP] at h; exact h.2.2.2.2.1)
    have HY7 := mk0 (show ∀ W, P7 W → XM W yA1 yc1 yl1 yA2 yc2 yl2 yA3 yc3 yl3 yA4 yc4 yl4 from fun W h => by rw [hP] at h; exact h.2.2.2.2.2)
    have HS7 := mk0 (show ∀ V1 V2, Below V1.heap.size V1 V2 → P7 V1 → P7 V2 from fun V1 V2 hb h => by rw [hP] at h ⊢; exact ⟨blk_below h.1 hb, blk_below h.2.1 hb, blk_below h.2.2.1 hb, h.2.2.2.1.step hb, h.2.2.2.2.1.step hb, h.2.2.2.2.2.step hb⟩)
    have HP := mk0 (show P7 v10 from by rw [hP]; exact ⟨B6.out, B5.out, B3.out, HC.out, HM.out, HY.out⟩)
    clear hP B6 B5 B3 HC HM HY
    have HR7 := mk0 (show Below w.heap.size w v10.drew ∧ P7 v10.drew from ⟨below_drew1 HB.out, HS7.out _ _ (below_drew1 (Below.refl _ _)) HP.out⟩)
    clear HP HB
    refine start_ (n := 5) (S := fun w' => True) (ds := []) #[false, false, false, false, false] (by kernel_rfl) rfl rfl trivial (fun hHeld => ?_)
    refine with_tabW tell.tab7 tell.bits7 (fun HT_ HW_ => ?_)
    generalize v10.drew = wd at HR7 hHeld ⊢
    refine inv_at [0, 1, 2, 3, 4] (fun a0_ b a w' => ∃ (E1 : Option Addr) (E2 : Option Addr) (E3 : Option Addr) (E4 : Option Addr) (r1 : Nat) (r2 : Nat) (r3 : Nat) (r4 : Nat) (m1_ : Value), a = putSel a0_ b [(0, 44, .agg #[.int .i64 oa, .slice J1 l1.length j1, .slice J2 l2.length j2, .slice J3 l3.length j3, .slice J4 l4.length j4]), (1, 45, m1_), (2, 46, .agg #[.int .i64 oa, .slice I1 m1.length d1, .slice I2 m2.length d2, .slice I3 m3.length d3, .slice I4 m4.length d4]), (3, 47, .bool true), (4, 48, .bool false)] ∧ (Below w.heap.size w w' ∧ P7 w') ∧ (b 1 = true → YM w' E1 r1 m1 E2 r2 m2 E3 r3 m3 E4 r4 m4) ∧ (b 1 = true → (m1_ : Value) = .agg #[.int .i64 oa, .slice E1 m1.length r1, .slice E2 m2.length r2, .slice E3 m3.length r3, .slice E4 m4.length r4])) HT_.out HW_.out (by kernel_rfl) (by kernel_rfl) ?_ ?_ ?_
    · exact ⟨none, none, none, none, 0, 0, 0, 0, .bool false, by simp only [putSel, Bool.false_eq_true, if_false], HR7.out, fun h_ => absurd h_ (by decide), fun h_ => absurd h_ (by decide)⟩
    · skip
      skip
      refine steps_cons ?_ ?_
      · rintro b a w' ⟨E1, E2, E3, E4, r1, r2, r3, r4, m1_, ha, Q_R, Q_O, Q_X1_⟩ hb_ hon hoff
        refine ⟨_, rfl, fun K hK => ?_⟩
        have e6 : a.tmps[6]? = some (.pointer (some ⟨g6, 0, none⟩)) := by rw [ha]; exact (putSel_off rfl).trans rfl
        replace ha := Aside0.mk ha
        have R := Aside0.mk Q_R
        obtain ⟨u0_, u1_, u2_, u3_, u4_⟩ := cz5 (mk0 (H6.out _ R.out.2))
        refine value_ (w1 := w') (v := .agg #[.int .i64 oa, .slice J1 l1.length j1, .slice J2 l2.length j2, .slice J3 l3.length j3, .slice J4 l4.length j4]) (by rfl) rfl ?_ ?_
        · go_simp
          (try simp only [i64_w])
          try rfl
        refine hK.out _ _ ⟨E1, E2, E3, E4, r1, r2, r3, r4, m1_, (by rw [ha.out]; exact putSel_upk 0 hb_ rfl rfl rfl), Q_R, fun h0_ => absurd ((hoff 1 (by kernel_rfl)).symm.trans h0_) (by decide), fun h0_ => absurd ((hoff 1 (by kernel_rfl)).symm.trans h0_) (by decide)⟩
      refine steps_cons ?_ ?_
      · rintro b a w' ⟨E1, E2, E3, E4, r1, r2, r3, r4, m1_, ha, Q_R, Q_O, Q_X1_⟩ hb_ hon hoff
        refine ⟨_, rfl, fun K hK => ?_⟩
        have e44 : a.tmps[44]? = some (.agg #[.int .i64 oa, .slice J1 l1.length j1, .slice J2 l2.length j2, .slice J3 l3.length j3, .slice J4 l4.length j4]) := by rw [ha]; exact putSel_on (e := (0, 44, .agg #[.int .i64 oa, .slice J1 l1.length j1, .slice J2 l2.length j2, .slice J3 l3.length j3, .slice J4 l4.length j4])) 0 rfl rfl (hon 0 (by kernel_rfl)) rfl
        replace ha := Aside0.mk ha
        have R := Aside0.mk Q_R
        refine call_ 6 #[.agg #[.int .i64 oa, .slice J1 l1.length j1, .slice J2 l2.length j2, .slice J3 l3.length j3, .slice J4 l4.length j4]] (by rfl) rfl (by go_simp; try rfl) ?_
        refine (of_c (HC7.out _ R.out.2) HOx.out).mono ?_
        rintro e w1 ⟨F1, f1, F2, f2, F3, f3, F4, f4, rfl, hO, hB⟩
        refine ⟨_, rfl, ?_⟩
        refine hK.out _ _ ⟨F1, F2, F3, F4, f1, f2, f3, f4, (.agg #[.int .i64 oa, .slice F1 m1.length f1, .slice F2 m2.length f2, .slice F3 m3.length f3, .slice F4 m4.length f4]), (by rw [ha.out]; exact putSel_upk 1 hb_ rfl rfl rfl), ⟨below_step R.out.1 hB, HS7.out _ _ hB R.out.2⟩, fun _ => hO, fun _ => rfl⟩
      refine steps_cons ?_ ?_
      · rintro b a w' ⟨E1, E2, E3, E4, r1, r2, r3, r4, m1_, ha, Q_R, Q_O, Q_X1_⟩ hb_ hon hoff
        refine ⟨_, rfl, fun K hK => ?_⟩
        have e5 : a.tmps[5]? = some (.pointer (some ⟨g5, 0, none⟩)) := by rw [ha]; exact (putSel_off rfl).trans rfl
        replace ha := Aside0.mk ha
        have R := Aside0.mk Q_R
        obtain ⟨u0_, u1_, u2_, u3_, u4_⟩ := cz5 (mk0 (H57.out _ R.out.2))
        refine value_ (w1 := w') (v := .agg #[.int .i64 oa, .slice I1 m1.length d1, .slice I2 m2.length d2, .slice I3 m3.length d3, .slice I4 m4.length d4]) (by rfl) rfl ?_ ?_
        · go_simp
          (try simp only [i64_w])
          try rfl
        refine hK.out _ _ ⟨E1, E2, E3, E4, r1, r2, r3, r4, m1_, (by rw [ha.out]; exact putSel_upk 2 hb_ rfl rfl rfl), Q_R, Q_O, Q_X1_⟩
      refine steps_cons ?_ ?_
      · rintro b a w' ⟨E1, E2, E3, E4, r1, r2, r3, r4, m1_, ha, Q_R, Q_O, Q_X1_⟩ hb_ hon hoff
        refine ⟨_, rfl, fun K hK => ?_⟩
        have e45 : a.tmps[45]? = some (m1_) := by rw [ha]; exact putSel_on (e := (1, 45, m1_)) 1 rfl rfl (hon 1 (by kernel_rfl)) rfl
        rw [Q_X1_ (hon 1 (by kernel_rfl))] at e45
        have e46 : a.tmps[46]? = some (.agg #[.int .i64 oa, .slice I1 m1.length d1, .slice I2 m2.length d2, .slice I3 m3.length d3, .slice I4 m4.length d4]) := by rw [ha]; exact putSel_on (e := (2, 46, .agg #[.int .i64 oa, .slice I1 m1.length d1, .slice I2 m2.length d2, .slice I3 m3.length d3, .slice I4 m4.length d4])) 2 rfl rfl (hon 2 (by kernel_rfl)) rfl
        replace ha := Aside0.mk ha
        have R := Aside0.mk Q_R
        have O := Aside0.mk (Q_O (hon 1 (by kernel_rfl)))
        refine call_ 8 #[.agg #[.int .i64 oa, .slice E1 m1.length r1, .slice E2 m2.length r2, .slice E3 m3.length r3, .slice E4 m4.length r4], .agg #[.int .i64 oa, .slice I1 m1.length d1, .slice I2 m2.length d2, .slice I3 m3.length d3, .slice I4 m4.length d4]] (by rfl) rfl (by go_simp; try rfl) ?_
        refine (rsame_c O.out (HM7.out _ R.out.2) HR11.out).mono ?_
        rintro e w1 ⟨rfl, hB⟩
        refine ⟨_, rfl, ?_⟩
        refine hK.out _ _ ⟨E1, E2, E3, E4, r1, r2, r3, r4, m1_, (by rw [ha.out]; exact putSel_upk 3 hb_ rfl rfl rfl), ⟨below_step R.out.1 hB, HS7.out _ _ hB R.out.2⟩, fun _ => O.out.step hB, Q_X1_⟩
      refine steps_cons ?_ ?_
      · rintro b a w' ⟨E1, E2, E3, E4, r1, r2, r3, r4, m1_, ha, Q_R, Q_O, Q_X1_⟩ hb_ hon hoff
        refine ⟨_, rfl, fun K hK => ?_⟩
        have e47 : a.tmps[47]? = some (.bool true) := by rw [ha]; exact putSel_on (e := (3, 47, .bool true)) 3 rfl rfl (hon 3 (by kernel_rfl)) rfl
        replace ha := Aside0.mk ha
        have R := Aside0.mk Q_R
        have O := Aside0.mk (Q_O (hon 1 (by kernel_rfl)))
        refine value_ (w1 := w') (v := .bool false) (by rfl) rfl ?_ ?_
        · go_simp
          (try simp only [i64_w])
          try rfl
        refine hK.out _ _ ⟨E1, E2, E3, E4, r1, r2, r3, r4, m1_, (by rw [ha.out]; exact putSel_upk 4 hb_ rfl rfl rfl), Q_R, Q_O, Q_X1_⟩
      exact steps_nil
    · rintro b a w' hall ⟨E1, E2, E3, E4, r1, r2, r3, r4, m1_, ha, Q_R, Q_O, Q_X1_⟩
      skip
      have hb0_ := hall 0 (by kernel_rfl)
      have hb1_ := hall 1 (by kernel_rfl)
      have hb2_ := hall 2 (by kernel_rfl)
      have hb3_ := hall 3 (by kernel_rfl)
      have hb4_ := hall 4 (by kernel_rfl)
      subst ha
      obtain rfl := Q_X1_ hb1_
      simp only [putSel, hb0_, hb1_, hb2_, hb3_, hb4_, if_true, Act.put, List.setIfInBounds_toArray, List.set_cons_zero, List.set_cons_succ]
      have R := Aside0.mk Q_R
      clear Q_R
      have O := Aside0.mk (Q_O hb1_)
      clear Q_O
      clear hall hb0_ hb1_ hb2_ hb3_ hb4_
      have B3 := mk0 (H37.out _ R.out.2)
      have HY := mk0 (HY7.out _ R.out.2)
      have HB := mk0 R.out.1
      clear R O HR7 HS7 H6 H57 H37 HC7 HM7 HY7 HR11 HOx HCx hHeld HT_ HW_
      obtain ⟨y0, y1, y2, y3, y4⟩ := cz5 B3
      go_wp2_with (first | fail)
      refine (clone_c HY.out HCy.out).mono ?_
      rintro e v11 ⟨U1, u1, U2, u2, U3, u3, U4, u4, rfl, hc, _, _, _, hb⟩
      have HC := mk0 hc
      clear y0 y1 y2 y3 y4 hc
      replace B3 := bkS B3 hb
      replace HY := mk0 (HY.out.step hb)
      replace HB := hbS HB hb
      clear hb
      go_wp2_with (first | fail)
      refine (of_c HC.out HOy.out).mono ?_
      rintro e v12 ⟨Q1, q1, Q2, q2, Q3, q3, Q4, q4, rfl, hm, hb⟩
      have HK := mk0 hm
      clear hm HC
      replace B3 := bkS B3 hb
      replace HY := mk0 (HY.out.step hb)
      replace HB := hbS HB hb
      clear hb
      have H12 := mk0 (Below.refl v12.heap.size v12)
      go_upto_region 10 with (first | ((with_reducible refine gate_dst (N := 7) rfl ?_); refine boxE (N := 7) (cs := #[.int .i64 0, .slice none 0 0, .slice none 0 0, .slice none 0 0, .slice none 0 0]) (t := 33) ?_; intro g7 hg v13 hbox hb; have B7 := mk0 hbox; have G7 := gwS HB hg; have N3_7 := neS B3 hg; have N7_3 := neT B3 hg; replace B3 := bkS B3 hb; have GH := gwS H12 hg; replace H12 := hbS H12 hb; replace HB := hbS HB hb; clear hb hbox hg; obtain ⟨z0, z1, z2, z3, z4⟩ := cz5 B7; have fz0 := fz B7 0; have fz1 := fz B7 1; have fz2 := fz B7 2; have fz3 := fz B7 3; have fz4 := fz B7 4))
      obtain ⟨v14, hw⟩ : ∃ wb, wb = (((((v13).setCell ⟨g7, 0, none⟩ (.int .i64 ob)).setCell ⟨g7, 1, none⟩ (.slice Q1 n1.length q1)).setCell ⟨g7, 2, none⟩ (.slice Q2 n2.length q2)).setCell ⟨g7, 3, none⟩ (.slice Q3 n3.length q3)).setCell ⟨g7, 4, none⟩ (.slice Q4 n4.length q4) := ⟨_, rfl⟩
      rw [← hw]
      replace B7 := mk0 (show v14.heap[g7]? = some (.cells #[.int .i64 ob, .slice Q1 n1.length q1, .slice Q2 n2.length q2, .slice Q3 n3.length q3, .slice Q4 n4.length q4] 33 (0, 0)) from by rw [hw]; exact bkW B7)
      replace B3 := bkQ B3 hw
      replace H12 := hbQ H12 hw
      replace HB := hbQ HB hw
      clear hw z0 z1 z2 z3 z4 fz0 fz1 fz2 fz3 fz4 GH
      replace HY := mk0 (HY.out.step H12.out)
      replace HK := mk0 (HK.out.step H12.out)
      obtain ⟨y0, y1, y2, y3, y4⟩ := cz5 B3
      go_wp2_with (first | fail)
      refine (clone_c HY.out HCy.out).mono ?_
      rintro e v15 ⟨Z1, zc1, Z2, zc2, Z3, zc3, Z4, zc4, rfl, _, hz1, hz3, hz4, hb⟩
      clear H12 N3_7 N7_3 G7 y0 y1 y2 y3 y4
      obtain ⟨P9, hP⟩ : ∃ P : World → Prop, P = fun W => W.heap[g3]? = some (.cells #[.int .i64 ob, .slice yA1 yl1.length yc1, .slice yA2 yl2.length yc2, .slice yA3 yl3.length yc3, .slice yA4 yl4.length yc4] 26 (0, 0)) ∧ W.heap[g7]? = some (.cells #[.int .i64 ob, .slice Q1 n1.length q1, .slice Q2 n2.length q2, .slice Q3 n3.length q3, .slice Q4 n4.length q4] 33 (0, 0)) ∧ XM W yA1 yc1 yl1 yA2 yc2 yl2 yA3 yc3 yl3 yA4 yc4 yl4 ∧ YM W Q1 q1 n1 Q2 q2 n2 Q3 q3 n3 Q4 q4 n4 := ⟨_, rfl⟩
      have H39 := mk0 (show ∀ W, P9 W → W.heap[g3]? = some (.cells #[.int .i64 ob, .slice yA1 yl1.length yc1, .slice yA2 yl2.length yc2, .slice yA3 yl3.length yc3, .slice yA4 yl4.length yc4] 26 (0, 0)) from fun W h => by rw [hP] at h; exact h.1)
      have H79 := mk0 (show ∀ W, P9 W → W.heap[g7]? = some (.cells #[.int .i64 ob, .slice Q1 n1.length q1, .slice Q2 n2.length q2, .slice Q3 n3.length q3, .slice Q4 n4.length q4] 33 (0, 0)) from fun W h => by rw [hP] at h; exact h.2.1)
      have HY9 := mk0 (show ∀ W, P9 W → XM W yA1 yc1 yl1 yA2 yc2 yl2 yA3 yc3 yl3 yA4 yc4 yl4 from fun W h => by rw [hP] at h; exact h.2.2.1)
      have HK9 := mk0 (show ∀ W, P9 W → YM W Q1 q1 n1 Q2 q2 n2 Q3 q3 n3 Q4 q4 n4 from fun W h => by rw [hP] at h; exact h.2.2.2)
      have HS9 := mk0 (show ∀ V1 V2, Below V1.heap.size V1 V2 → P9 V1 → P9 V2 from fun V1 V2 hb h => by rw [hP] at h ⊢; exact ⟨blk_below h.1 hb, blk_below h.2.1 hb, h.2.2.1.step hb, h.2.2.2.step hb⟩)
      have HP := mk0 (show P9 v14 from by rw [hP]; exact ⟨B3.out, B7.out, HY.out, HK.out⟩)
      clear hP B3 B7 HY HK
      have HB0 := HB
      replace HB := hbS HB hb
      have HZ1 := mk0 hz1
      have HZ3 := mk0 hz3
      have HZ4 := mk0 (nodeB_of hz4 HL4.out.1)
      have H14 := mk0 hb
      clear hb hz1 hz3 hz4
      have H15 := mk0 (Below.refl v15.heap.size v15)
      go_upto_region 11 with (first | ((with_reducible refine gate_dst (N := 8) rfl ?_); refine boxE (N := 8) (cs := #[.int .i64 0, .slice none 0 0, .slice none 0 0, .slice none 0 0, .slice none 0 0]) (t := 26) ?_; intro g8 hg v16 hbox hb; have B8 := mk0 hbox; have G8 := gwS HB hg; have GH := gwS H15 hg; replace H15 := hbS H15 hb; replace HB := hbS HB hb; clear hb hbox hg; obtain ⟨z0, z1, z2, z3, z4⟩ := cz5 B8; have fz0 := fz B8 0; have fz1 := fz B8 1; have fz2 := fz B8 2; have fz3 := fz B8 3; have fz4 := fz B8 4))
      obtain ⟨v17, hw⟩ : ∃ wb, wb = (((((v16).setCell ⟨g8, 0, none⟩ (.int .i64 ob)).setCell ⟨g8, 1, none⟩ (.slice Z1 yl1.length zc1)).setCell ⟨g8, 2, none⟩ (.slice Z2 yl2.length zc2)).setCell ⟨g8, 3, none⟩ (.slice Z3 yl3.length zc3)).setCell ⟨g8, 4, none⟩ (.slice Z4 yl4.length zc4) := ⟨_, rfl⟩
      rw [← hw]
      replace B8 := mk0 (show v17.heap[g8]? = some (.cells #[.int .i64 ob, .slice Z1 yl1.length zc1, .slice Z2 yl2.length zc2, .slice Z3 yl3.length zc3, .slice Z4 yl4.length zc4] 26 (0, 0)) from by rw [hw]; exact bkW B8)
      replace H15 := hbQ H15 hw
      replace HB := hbQ HB hw
      clear hw z0 z1 z2 z3 z4 fz0 fz1 fz2 fz3 fz4 GH
      have HZ := mk0 (show ZR v14 v17 g8 ob Z1 yl1.length zc1 (.slice Z2 yl2.length zc2) Z3 yl3.length zc3 Z4 yl4.length zc4 140737488351232 from ⟨below_step H14.out H15.out, B8.out, HZ1.out.step H15.out, HZ3.out.step H15.out, HZ4.out.step H15.out⟩)
      clear H14 H15 HZ1 HZ3 HZ4 B8 G8 HB
      have Hn := mk0 (show yl1.length ≤ 9223372036854775807 ∧ yl3.length ≤ 9223372036854775807 ∧ yl4.length ≤ 9223372036854775807 from ⟨HZ.out.r1.max, HZ.out.r3.max, HZ.out.r4.max⟩)
      obtain ⟨z0, z1, z2, z3, z4⟩ := cz5 (mk0 HZ.out.bz)
      go_wp2_with (first | fail)
      clear z0 z1 z2 z3 z4
      go_loopg [57] yl1.length (fun kq v57 w' => ∃ (i1 : Nat), v57 = .int .i64 i1 ∧ Aside0 (i1 + kq = yl1.length) ∧ i1 ≤ yl1.length ∧ Aside0 (ZR v14 w' g8 ob Z1 yl1.length zc1 (.slice Z2 yl2.length zc2) Z3 yl3.length zc3 Z4 yl4.length zc4 140737488351232))
      case atStart => exact ⟨0, rfl, ⟨by omega⟩, Nat.zero_le _, HZ⟩
      case round =>
      clear HZ
      obtain ⟨i1, rfl, HKi1, hii1, HZ⟩ := hrel
      obtain ⟨z0, z1, z2, z3, z4⟩ := cz5 (mk0 HZ.out.bz)
      by_cases hlti1 : i1 < yl1.length
      · have hlt' : decide ((i1 : Int) < (yl1.length : Int)) = true := by simpa using hlti1
        obtain ⟨kki1, rfl⟩ : ∃ m, gk = m + 1 := ⟨gk - 1, by have := HKi1.out; omega⟩
        have pi1 : 0 ≤ (i1 : Int) := Int.natCast_nonneg i1
        have qi1 : (i1 : Int) < (yl1.length : Int) := by omega
        have Hwi1 : Aside0 (wrap64 ((i1 : Int) + 1) = (i1 : Int) + 1) := ⟨by have := Hn.out; exact wrap64_id (by omega) (by omega)⟩
        replace pi1 := eq_true pi1
        replace qi1 := eq_true qi1
        obtain ⟨gE, AE, nE, cE, hE, _, hh, hR⟩ := HZ.out.r1.info hlti1
        have HnE := mk0 (HasR.max hR)
        clear hR
        cases hE
        go_wp2_with (first | fail)
        clear z0 z1 z2 z3 z4
        go_loopg [67] nE (fun kq v67 w' => ∃ (j1 : Nat), v67 = .int .i64 j1 ∧ Aside0 (j1 + kq = nE) ∧ j1 ≤ nE ∧ Aside0 (ZR v14 w' g8 ob (some ⟨gE, 0, none⟩) yl1.length zc1 (.slice Z2 yl2.length zc2) Z3 yl3.length zc3 Z4 yl4.length zc4 140737488351232) ∧ w'.cell? ⟨gE, i1 * 3 + 2, none⟩ = some (.slice AE nE cE))
        case atStart => exact ⟨0, rfl, ⟨by omega⟩, Nat.zero_le _, HZ, hh⟩
        case round =>
        clear HZ hh
        obtain ⟨j1, rfl, HKj1, hij1, HZ, hh⟩ := hrel
        obtain ⟨z0, z1, z2, z3, z4⟩ := cz5 (mk0 HZ.out.bz)
        by_cases hltj1 : j1 < nE
        · have hlt' : decide ((j1 : Int) < (nE : Int)) = true := by simpa using hltj1
          obtain ⟨kkj1, rfl⟩ : ∃ m, gk = m + 1 := ⟨gk - 1, by have := HKj1.out; omega⟩
          have pj1 : 0 ≤ (j1 : Int) := Int.natCast_nonneg j1
          have qj1 : (j1 : Int) < (nE : Int) := by omega
          have Hwj1 : Aside0 (wrap64 ((j1 : Int) + 1) = (j1 : Int) + 1) := ⟨by have := HnE.out; exact wrap64_id (by omega) (by omega)⟩
          replace pj1 := eq_true pj1
          replace qj1 := eq_true qj1
          obtain ⟨gd, dd, hE2, hbase, ⟨cl, hcl⟩, hc, hf, hn0⟩ := HZ.out.r1.info_int hlti1 hh hltj1
          have HE2 := mk0 hE2
          have HQ := mk0 (And.intro hbase hcl)
          have HN := mk0 hn0
          clear hbase hcl hn0
          cases hE2
          go_wp2_with (first | fail)
          go_roundg kkj1
          case measure => have := HKj1.out; omega
          case rel => exact ⟨j1 + 1, by rw [Hwj1.out]; rfl, ⟨by have := HKj1.out; omega⟩, by omega, ⟨HZ.out.set HQ.out.2 HQ.out.1 (.inl ⟨rfl, _, rfl⟩)⟩, cellZ_far hh HN.out⟩
        · have hlt' : decide ((j1 : Int) < (nE : Int)) = false := by simpa using hltj1
          go_wp2_with (first | fail)
          go_roundg kki1
          case measure => have := HKi1.out; omega
          case rel => exact ⟨i1 + 1, by rw [Hwi1.out]; rfl, ⟨by have := HKi1.out; omega⟩, by omega, HZ⟩
      · have hlt' : decide ((i1 : Int) < (yl1.length : Int)) = false := by simpa using hlti1
        go_wp2_with (first | fail)
        clear z0 z1 z2 z3 z4
        go_loopg [86] yl3.length (fun kq v86 w' => ∃ (i2 : Nat), v86 = .int .i64 i2 ∧ Aside0 (i2 + kq = yl3.length) ∧ i2 ≤ yl3.length ∧ Aside0 (ZR v14 w' g8 ob Z1 yl1.length zc1 (.slice Z2 yl2.length zc2) Z3 yl3.length zc3 Z4 yl4.length zc4 140737488351232))
        case atStart => exact ⟨0, rfl, ⟨by omega⟩, Nat.zero_le _, HZ⟩
        case round =>
        clear HZ
        obtain ⟨i2, rfl, HKi2, hii2, HZ⟩ := hrel
        obtain ⟨z0, z1, z2, z3, z4⟩ := cz5 (mk0 HZ.out.bz)
        by_cases hlti2 : i2 < yl3.length
        · have hlt' : decide ((i2 : Int) < (yl3.length : Int)) = true := by simpa using hlti2
          obtain ⟨kki2, rfl⟩ : ∃ m, gk = m + 1 := ⟨gk - 1, by have := HKi2.out; omega⟩
          have pi2 : 0 ≤ (i2 : Int) := Int.natCast_nonneg i2
          have qi2 : (i2 : Int) < (yl3.length : Int) := by omega
          have Hwi2 : Aside0 (wrap64 ((i2 : Int) + 1) = (i2 : Int) + 1) := ⟨by have := Hn.out; exact wrap64_id (by omega) (by omega)⟩
          replace pi2 := eq_true pi2
          replace qi2 := eq_true qi2
          obtain ⟨gE, AE, nE, cE, hE, _, hh, hR⟩ := HZ.out.r3.tensor hlti2
          have HnE := mk0 (HasR.max hR)
          clear hR
          cases hE
          go_wp2_with (first | fail)
          clear z0 z1 z2 z3 z4
          go_loopg [96] nE (fun kq v96 w' => ∃ (j2 : Nat), v96 = .int .i64 j2 ∧ Aside0 (j2 + kq = nE) ∧ j2 ≤ nE ∧ Aside0 (ZR v14 w' g8 ob Z1 yl1.length zc1 (.slice Z2 yl2.length zc2) (some ⟨gE, 0, none⟩) yl3.length zc3 Z4 yl4.length zc4 140737488351232) ∧ w'.cell? ⟨gE, i2 * 4 + 2, none⟩ = some (.slice AE nE cE))
          case atStart => exact ⟨0, rfl, ⟨by omega⟩, Nat.zero_le _, HZ, hh⟩
          case round =>
          clear HZ hh
          obtain ⟨j2, rfl, HKj2, hij2, HZ, hh⟩ := hrel
          obtain ⟨z0, z1, z2, z3, z4⟩ := cz5 (mk0 HZ.out.bz)
          by_cases hltj2 : j2 < nE
          · have hlt' : decide ((j2 : Int) < (nE : Int)) = true := by simpa using hltj2
            obtain ⟨kkj2, rfl⟩ : ∃ m, gk = m + 1 := ⟨gk - 1, by have := HKj2.out; omega⟩
            have pj2 : 0 ≤ (j2 : Int) := Int.natCast_nonneg j2
            have qj2 : (j2 : Int) < (nE : Int) := by omega
            have Hwj2 : Aside0 (wrap64 ((j2 : Int) + 1) = (j2 : Int) + 1) := ⟨by have := HnE.out; exact wrap64_id (by omega) (by omega)⟩
            replace pj2 := eq_true pj2
            replace qj2 := eq_true qj2
            obtain ⟨gd, dd, hE2, hbase, ⟨cl, hcl⟩, hc, hf, hn0⟩ := HZ.out.r3.tensor_int hlti2 hh hltj2
            have HE2 := mk0 hE2
            have HQ := mk0 (And.intro hbase hcl)
            have HN := mk0 hn0
            clear hbase hcl hn0
            cases hE2
            go_wp2_with (first | fail)
            go_roundg kkj2
            case measure => have := HKj2.out; omega
            case rel => exact ⟨j2 + 1, by rw [Hwj2.out]; rfl, ⟨by have := HKj2.out; omega⟩, by omega, ⟨HZ.out.set HQ.out.2 HQ.out.1 (.inl ⟨rfl, _, rfl⟩)⟩, cellZ_far hh HN.out⟩
          · have hlt' : decide ((j2 : Int) < (nE : Int)) = false := by simpa using hltj2
            go_wp2_with (first | fail)
            go_roundg kki2
            case measure => have := HKi2.out; omega
            case rel => exact ⟨i2 + 1, by rw [Hwi2.out]; rfl, ⟨by have := HKi2.out; omega⟩, by omega, HZ⟩
        · have hlt' : decide ((i2 : Int) < (yl3.length : Int)) = false := by simpa using hlti2
          go_wp2_with (first | fail)
          clear z0 z1 z2 z3 z4
          go_loopg [115] yl4.length (fun kq v115 w' => ∃ (i3 : Nat), v115 = .int .i64 i3 ∧ Aside0 (i3 + kq = yl4.length) ∧ i3 ≤ yl4.length ∧ Aside0 (ZR v14 w' g8 ob Z1 yl1.length zc1 (.slice Z2 yl2.length zc2) Z3 yl3.length zc3 Z4 yl4.length zc4 (140737488351232 + i3)))
          case atStart => exact ⟨0, rfl, ⟨by omega⟩, Nat.zero_le _, HZ⟩
          case round =>
          clear HZ
          obtain ⟨i3, rfl, HKi3, hii3, HZ⟩ := hrel
          obtain ⟨z0, z1, z2, z3, z4⟩ := cz5 (mk0 HZ.out.bz)
          by_cases hlti3 : i3 < yl4.length
          · have hlt' : decide ((i3 : Int) < (yl4.length : Int)) = true := by simpa using hlti3
            obtain ⟨kki3, rfl⟩ : ∃ m, gk = m + 1 := ⟨gk - 1, by have := HKi3.out; omega⟩
            have pi3 : 0 ≤ (i3 : Int) := Int.natCast_nonneg i3
            have qi3 : (i3 : Int) < (yl4.length : Int) := by omega
            have Hwi3 : Aside0 (wrap64 ((i3 : Int) + 1) = (i3 : Int) + 1) := ⟨by have := Hn.out; exact wrap64_id (by omega) (by omega)⟩
            replace pi3 := eq_true pi3
            replace qi3 := eq_true qi3
            obtain ⟨gE, AI, nI, cI, AT, nT, cT, hE, _, hh, hR1, ht, hR2⟩ := HZ.out.r4.node hlti3
            have HnE := mk0 (HasR.max hR1)
            have HnT := mk0 (HasR.max hR2)
            have HSI := mk0 (SI_of hR1)
            clear hR1 hR2
            cases hE
            go_wp2_with (first | fail)
            clear z0 z1 z2 z3 z4
            go_loopg [125] nI (fun kq v125 w' => ∃ (j3 : Nat), v125 = .int .i64 j3 ∧ Aside0 (j3 + kq = nI) ∧ j3 ≤ nI ∧ Aside0 (ZR v14 w' g8 ob Z1 yl1.length zc1 (.slice Z2 yl2.length zc2) Z3 yl3.length zc3 (some ⟨gE, 0, none⟩) yl4.length zc4 (140737488351232 + i3 + 1)) ∧ w'.cell? ⟨gE, i3 * 4 + 1, none⟩ = some (.slice AI nI cI) ∧ w'.cell? ⟨gE, i3 * 4 + 3, none⟩ = some (.slice AT nT cT) ∧ Aside0 (SI w' AI j3 nI (140737488351232 + i3)))
            case atStart => exact ⟨0, rfl, ⟨by omega⟩, Nat.zero_le _, ⟨HZ.out.up (by omega)⟩, hh, ht, HSI⟩
            case round =>
            clear HZ hh ht HSI
            obtain ⟨j3, rfl, HKj3, hij3, HZ, hh, ht, HSI⟩ := hrel
            obtain ⟨z0, z1, z2, z3, z4⟩ := cz5 (mk0 HZ.out.bz)
            by_cases hltj3 : j3 < nI
            · have hlt' : decide ((j3 : Int) < (nI : Int)) = true := by simpa using hltj3
              obtain ⟨kkj3, rfl⟩ : ∃ m, gk = m + 1 := ⟨gk - 1, by have := HKj3.out; omega⟩
              have pj3 : 0 ≤ (j3 : Int) := Int.natCast_nonneg j3
              have qj3 : (j3 : Int) < (nI : Int) := by omega
              have Hwj3 : Aside0 (wrap64 ((j3 : Int) + 1) = (j3 : Int) + 1) := ⟨by have := HnE.out; exact wrap64_id (by omega) (by omega)⟩
              replace pj3 := eq_true pj3
              replace qj3 := eq_true qj3
              obtain ⟨gd, dd, hE2, hbase, ⟨cl, hcl⟩, hc, _, hf, hn0⟩ := HZ.out.r4.node_str hlti3 hh hltj3
              have HE2 := mk0 hE2
              have HQ := mk0 (And.intro hbase hcl)
              have HN := mk0 hn0
              have hq := HSI.out.now hE2 hltj3 hc
              have hyl := HL4.out.2
              have hz_ : (9223372036854775807 < dd.size + 1) = False := eq_false (by omega)
              have HSz := mk0 (show (dd ++ (⟨#[120]⟩ : ByteArray)).size ≤ 140737488351232 + i3 + 1 from by rw [ByteArray.size_append]; show dd.size + 1 ≤ _; omega)
              clear hbase hcl hn0 hq hyl
              cases hE2
              go_wp2_with (first | fail)
              go_roundg kkj3
              case measure => have := HKj3.out; omega
              case rel => exact ⟨j3 + 1, by rw [Hwj3.out]; rfl, ⟨by have := HKj3.out; omega⟩, by omega, ⟨HZ.out.set HQ.out.2 HQ.out.1 (.inr ⟨rfl, _, rfl, HSz.out⟩)⟩, cellZ_far hh HN.out, cellZ_far ht HN.out, ⟨HSI.out.set rfl⟩⟩
            · have hlt' : decide ((j3 : Int) < (nI : Int)) = false := by simpa using hltj3
              go_wp2_with (first | fail)
              clear z0 z1 z2 z3 z4 hlt' hh HSI
              go_loopg [147] nT (fun kq v147 w' => ∃ (k3 : Nat), v147 = .int .i64 k3 ∧ Aside0 (k3 + kq = nT) ∧ k3 ≤ nT ∧ Aside0 (ZR v14 w' g8 ob Z1 yl1.length zc1 (.slice Z2 yl2.length zc2) Z3 yl3.length zc3 (some ⟨gE, 0, none⟩) yl4.length zc4 (140737488351232 + i3 + 1)) ∧ w'.cell? ⟨gE, i3 * 4 + 3, none⟩ = some (.slice AT nT cT))
              case atStart => exact ⟨0, rfl, ⟨by omega⟩, Nat.zero_le _, HZ, ht⟩
              case round =>
              clear HZ ht
              obtain ⟨k3, rfl, HKk3, hik3, HZ, ht⟩ := hrel
              obtain ⟨z0, z1, z2, z3, z4⟩ := cz5 (mk0 HZ.out.bz)
              by_cases hltk3 : k3 < nT
              · have hlt' : decide ((k3 : Int) < (nT : Int)) = true := by simpa using hltk3
                obtain ⟨kkk3, rfl⟩ : ∃ m, gk = m + 1 := ⟨gk - 1, by have := HKk3.out; omega⟩
                have pk3 : 0 ≤ (k3 : Int) := Int.natCast_nonneg k3
                have qk3 : (k3 : Int) < (nT : Int) := by omega
                have Hwk3 : Aside0 (wrap64 ((k3 : Int) + 1) = (k3 : Int) + 1) := ⟨by have := HnT.out; exact wrap64_id (by omega) (by omega)⟩
                replace pk3 := eq_true pk3
                replace qk3 := eq_true qk3
                obtain ⟨ga, AA, nA, cA, hE3, h3, hnA⟩ := HZ.out.r4.node_attr hlti3 ht hltk3
                have HnA := mk0 hnA
                clear hnA
                cases hE3
                go_wp2_with (first | fail)
                clear z0 z1 z2 z3 z4
                go_loopg [161] nA (fun kq v161 w' => ∃ (l3 : Nat), v161 = .int .i64 l3 ∧ Aside0 (l3 + kq = nA) ∧ l3 ≤ nA ∧ Aside0 (ZR v14 w' g8 ob Z1 yl1.length zc1 (.slice Z2 yl2.length zc2) Z3 yl3.length zc3 (some ⟨gE, 0, none⟩) yl4.length zc4 (140737488351232 + i3 + 1)) ∧ w'.cell? ⟨gE, i3 * 4 + 3, none⟩ = some (.slice (some ⟨ga, 0, none⟩) nT cT) ∧ w'.cell? ⟨ga, k3 * 4 + 3, none⟩ = some (.slice AA nA cA))
                case atStart => exact ⟨0, rfl, ⟨by omega⟩, Nat.zero_le _, HZ, ht, h3⟩
                case round =>
                clear HZ ht h3
                obtain ⟨l3, rfl, HKl3, hil3, HZ, ht, h3⟩ := hrel
                obtain ⟨z0, z1, z2, z3, z4⟩ := cz5 (mk0 HZ.out.bz)
                by_cases hltl3 : l3 < nA
                · have hlt' : decide ((l3 : Int) < (nA : Int)) = true := by simpa using hltl3
                  obtain ⟨kkl3, rfl⟩ : ∃ m, gk = m + 1 := ⟨gk - 1, by have := HKl3.out; omega⟩
                  have pl3 : 0 ≤ (l3 : Int) := Int.natCast_nonneg l3
                  have ql3 : (l3 : Int) < (nA : Int) := by omega
                  have Hwl3 : Aside0 (wrap64 ((l3 : Int) + 1) = (l3 : Int) + 1) := ⟨by have := HnA.out; exact wrap64_id (by omega) (by omega)⟩
                  replace pl3 := eq_true pl3
                  replace ql3 := eq_true ql3
                  obtain ⟨gd, dd, hE2, hbase, ⟨cl, hcl⟩, hc, hf, hn0, hn1⟩ := HZ.out.r4.node_int hlti3 ht hltk3 h3 hltl3
                  have HE2 := mk0 hE2
                  have HQ := mk0 (And.intro hbase hcl)
                  have HN := mk0 (And.intro hn0 hn1)
                  clear hbase hcl hn0 hn1
                  cases hE2
                  go_wp2_with (first | fail)
                  go_roundg kkl3
                  case measure => have := HKl3.out; omega
                  case rel => exact ⟨l3 + 1, by rw [Hwl3.out]; rfl, ⟨by have := HKl3.out; omega⟩, by omega, ⟨HZ.out.set HQ.out.2 HQ.out.1 (.inl ⟨rfl, _, rfl⟩)⟩, cellZ_far ht HN.out.1, cellZ_far h3 HN.out.2⟩
                · have hlt' : decide ((l3 : Int) < (nA : Int)) = false := by simpa using hltl3
                  go_wp2_with (first | fail)
                  go_roundg kkk3
                  case measure => have := HKk3.out; omega
                  case rel => exact ⟨k3 + 1, by rw [Hwk3.out]; rfl, ⟨by have := HKk3.out; omega⟩, by omega, HZ, ht⟩
              · have hlt' : decide ((k3 : Int) < (nT : Int)) = false := by simpa using hltk3
                go_wp2_with (first | fail)
                go_roundg kki3
                case measure => have := HKi3.out; omega
                case rel => exact ⟨i3 + 1, by rw [Hwi3.out]; rfl, ⟨by have := HKi3.out; omega⟩, by omega, HZ⟩
          · have hlt' : decide ((i3 : Int) < (yl4.length : Int)) = false := by simpa using hlti3
            go_wp2_with (first | fail)
            clear z0 z1 z2 z3 z4 hlt'
            have HR9 := mk0 (show Below w.heap.size w wr.drew ∧ P9 wr.drew from ⟨below_drew1 (below_step HB0.out HZ.out.hb), HS9.out _ _ (below_drew1 HZ.out.hb) HP.out⟩)
            clear HP HZ HB0
            refine start_ (n := 8) (S := fun w' => True) (ds := []) #[false, false, false, false, false, false, false, false] (by kernel_rfl) rfl rfl trivial (fun hHeld => ?_)
            refine with_tabW tell.tab47 tell.bits47 (fun HT_ HW_ => ?_)
            generalize wr.drew = wd at HR9 hHeld ⊢
            refine inv_at [0, 1, 2, 3, 4, 5, 6, 7] (fun a0_ b a w' => ∃ (E1 : Option Addr) (E2 : Option Addr) (E3 : Option Addr) (E4 : Option Addr) (r1 : Nat) (r2 : Nat) (r3 : Nat) (r4 : Nat) (m3_ : Value), a = putSel a0_ b [(0, 182, .bool true), (1, 183, .bool true), (2, 184, .agg #[.int .i64 ob, .slice yA1 yl1.length yc1, .slice yA2 yl2.length yc2, .slice yA3 yl3.length yc3, .slice yA4 yl4.length yc4]), (3, 185, m3_), (4, 186, .agg #[.int .i64 ob, .slice Q1 n1.length q1, .slice Q2 n2.length q2, .slice Q3 n3.length q3, .slice Q4 n4.length q4]), (5, 187, .bool true), (6, 188, .bool true), (7, 4, .bool true)] ∧ (Below w.heap.size w w' ∧ P9 w') ∧ (b 3 = true → YM w' E1 r1 n1 E2 r2 n2 E3 r3 n3 E4 r4 n4) ∧ (b 3 = true → (m3_ : Value) = .agg #[.int .i64 ob, .slice E1 n1.length r1, .slice E2 n2.length r2, .slice E3 n3.length r3, .slice E4 n4.length r4])) HT_.out HW_.out (by kernel_rfl) (by kernel_rfl) ?_ ?_ ?_
            · exact ⟨none, none, none, none, 0, 0, 0, 0, .bool false, by simp only [putSel, Bool.false_eq_true, if_false], HR9.out, fun h_ => absurd h_ (by decide), fun h_ => absurd h_ (by decide)⟩
            · skip
              skip
              refine steps_cons ?_ ?_
              · rintro b a w' ⟨E1, E2, E3, E4, r1, r2, r3, r4, m3_, ha, Q_R, Q_O, Q_X3_⟩ hb_ hon hoff
                refine ⟨_, rfl, fun K hK => ?_⟩
                replace ha := Aside0.mk ha
                have R := Aside0.mk Q_R
                refine call_ 5 #[] (by rfl) rfl (by go_simp; try rfl) ?_
                refine (agatelaw10_Awake.calls true w' HAw.out).mono ?_
                rintro e w1 ⟨rfl, hB⟩
                refine ⟨_, rfl, ?_⟩
                refine hK.out _ _ ⟨E1, E2, E3, E4, r1, r2, r3, r4, m3_, (by rw [ha.out]; exact putSel_upk 0 hb_ rfl rfl rfl), ⟨below_step R.out.1 hB, HS9.out _ _ hB R.out.2⟩, fun h0_ => absurd ((hoff 3 (by kernel_rfl)).symm.trans h0_) (by decide), fun h0_ => absurd ((hoff 3 (by kernel_rfl)).symm.trans h0_) (by decide)⟩
              refine steps_cons ?_ ?_
              · rintro b a w' ⟨E1, E2, E3, E4, r1, r2, r3, r4, m3_, ha, Q_R, Q_O, Q_X3_⟩ hb_ hon hoff
                refine ⟨_, rfl, fun K hK => ?_⟩
                have e182 : a.tmps[182]? = some (.bool true) := by rw [ha]; exact putSel_on (e := (0, 182, .bool true)) 0 rfl rfl (hon 0 (by kernel_rfl)) rfl
                replace ha := Aside0.mk ha
                have R := Aside0.mk Q_R
                refine value_ (w1 := w') (v := .bool true) (by rfl) rfl ?_ ?_
                · go_simp
                  (try simp only [i64_w])
                  try rfl
                refine hK.out _ _ ⟨E1, E2, E3, E4, r1, r2, r3, r4, m3_, (by rw [ha.out]; exact putSel_upk 1 hb_ rfl rfl rfl), Q_R, fun h0_ => absurd ((hoff 3 (by kernel_rfl)).symm.trans h0_) (by decide), fun h0_ => absurd ((hoff 3 (by kernel_rfl)).symm.trans h0_) (by decide)⟩
              refine steps_cons ?_ ?_
              · rintro b a w' ⟨E1, E2, E3, E4, r1, r2, r3, r4, m3_, ha, Q_R, Q_O, Q_X3_⟩ hb_ hon hoff
                refine ⟨_, rfl, fun K hK => ?_⟩
                have e3 : a.tmps[3]? = some (.pointer (some ⟨g3, 0, none⟩)) := by rw [ha]; exact (putSel_off rfl).trans rfl
                have e183 : a.tmps[183]? = some (.bool true) := by rw [ha]; exact putSel_on (e := (1, 183, .bool true)) 1 rfl rfl (hon 1 (by kernel_rfl)) rfl
                replace ha := Aside0.mk ha
                have R := Aside0.mk Q_R
                obtain ⟨u0_, u1_, u2_, u3_, u4_⟩ := cz5 (mk0 (H39.out _ R.out.2))
                refine value_ (w1 := w') (v := .agg #[.int .i64 ob, .slice yA1 yl1.length yc1, .slice yA2 yl2.length yc2, .slice yA3 yl3.length yc3, .slice yA4 yl4.length yc4]) (wanted_on rfl rfl rfl (e183.trans (by first | rfl | (simp [*]; done)))) rfl ?_ ?_
                · go_simp
                  (try simp only [i64_w])
                  try rfl
                refine hK.out _ _ ⟨E1, E2, E3, E4, r1, r2, r3, r4, m3_, (by rw [ha.out]; exact putSel_upk 2 hb_ rfl rfl rfl), Q_R, fun h0_ => absurd ((hoff 3 (by kernel_rfl)).symm.trans h0_) (by decide), fun h0_ => absurd ((hoff 3 (by kernel_rfl)).symm.trans h0_) (by decide)⟩
              refine steps_cons ?_ ?_
              · rintro b a w' ⟨E1, E2, E3, E4, r1, r2, r3, r4, m3_, ha, Q_R, Q_O, Q_X3_⟩ hb_ hon hoff
                refine ⟨_, rfl, fun K hK => ?_⟩
                have e184 : a.tmps[184]? = some (.agg #[.int .i64 ob, .slice yA1 yl1.length yc1, .slice yA2 yl2.length yc2, .slice yA3 yl3.length yc3, .slice yA4 yl4.length yc4]) := by rw [ha]; exact putSel_on (e := (2, 184, .agg #[.int .i64 ob, .slice yA1 yl1.length yc1, .slice yA2 yl2.length yc2, .slice yA3 yl3.length yc3, .slice yA4 yl4.length yc4])) 2 rfl rfl (hon 2 (by kernel_rfl)) rfl
                have e183 : a.tmps[183]? = some (.bool true) := by rw [ha]; exact putSel_on (e := (1, 183, .bool true)) 1 rfl rfl (hon 1 (by kernel_rfl)) rfl
                replace ha := Aside0.mk ha
                have R := Aside0.mk Q_R
                refine call_ 6 #[.agg #[.int .i64 ob, .slice yA1 yl1.length yc1, .slice yA2 yl2.length yc2, .slice yA3 yl3.length yc3, .slice yA4 yl4.length yc4]] (wanted_on rfl rfl rfl (e183.trans rfl)) rfl (by go_simp; try rfl) ?_
                refine (of_c (HY9.out _ R.out.2) HOy.out).mono ?_
                rintro e w1 ⟨F1, f1, F2, f2, F3, f3, F4, f4, rfl, hO, hB⟩
                refine ⟨_, rfl, ?_⟩
                refine hK.out _ _ ⟨F1, F2, F3, F4, f1, f2, f3, f4, (.agg #[.int .i64 ob, .slice F1 n1.length f1, .slice F2 n2.length f2, .slice F3 n3.length f3, .slice F4 n4.length f4]), (by rw [ha.out]; exact putSel_upk 3 hb_ rfl rfl rfl), ⟨below_step R.out.1 hB, HS9.out _ _ hB R.out.2⟩, fun _ => hO, fun _ => rfl⟩
              refine steps_cons ?_ ?_
              · rintro b a w' ⟨E1, E2, E3, E4, r1, r2, r3, r4, m3_, ha, Q_R, Q_O, Q_X3_⟩ hb_ hon hoff
                refine ⟨_, rfl, fun K hK => ?_⟩
                have e7 : a.tmps[7]? = some (.pointer (some ⟨g7, 0, none⟩)) := by rw [ha]; exact (putSel_off rfl).trans rfl
                have e183 : a.tmps[183]? = some (.bool true) := by rw [ha]; exact putSel_on (e := (1, 183, .bool true)) 1 rfl rfl (hon 1 (by kernel_rfl)) rfl
                replace ha := Aside0.mk ha
                have R := Aside0.mk Q_R
                obtain ⟨u0_, u1_, u2_, u3_, u4_⟩ := cz5 (mk0 (H79.out _ R.out.2))
                refine value_ (w1 := w') (v := .agg #[.int .i64 ob, .slice Q1 n1.length q1, .slice Q2 n2.length q2, .slice Q3 n3.length q3, .slice Q4 n4.length q4]) (wanted_on rfl rfl rfl (e183.trans (by first | rfl | (simp [*]; done)))) rfl ?_ ?_
                · go_simp
                  (try simp only [i64_w])
                  try rfl
                refine hK.out _ _ ⟨E1, E2, E3, E4, r1, r2, r3, r4, m3_, (by rw [ha.out]; exact putSel_upk 4 hb_ rfl rfl rfl), Q_R, Q_O, Q_X3_⟩
              refine steps_cons ?_ ?_
              · rintro b a w' ⟨E1, E2, E3, E4, r1, r2, r3, r4, m3_, ha, Q_R, Q_O, Q_X3_⟩ hb_ hon hoff
                refine ⟨_, rfl, fun K hK => ?_⟩
                have e185 : a.tmps[185]? = some (m3_) := by rw [ha]; exact putSel_on (e := (3, 185, m3_)) 3 rfl rfl (hon 3 (by kernel_rfl)) rfl
                rw [Q_X3_ (hon 3 (by kernel_rfl))] at e185
                have e186 : a.tmps[186]? = some (.agg #[.int .i64 ob, .slice Q1 n1.length q1, .slice Q2 n2.length q2, .slice Q3 n3.length q3, .slice Q4 n4.length q4]) := by rw [ha]; exact putSel_on (e := (4, 186, .agg #[.int .i64 ob, .slice Q1 n1.length q1, .slice Q2 n2.length q2, .slice Q3 n3.length q3, .slice Q4 n4.length q4])) 4 rfl rfl (hon 4 (by kernel_rfl)) rfl
                have e183 : a.tmps[183]? = some (.bool true) := by rw [ha]; exact putSel_on (e := (1, 183, .bool true)) 1 rfl rfl (hon 1 (by kernel_rfl)) rfl
                replace ha := Aside0.mk ha
                have R := Aside0.mk Q_R
                have O := Aside0.mk (Q_O (hon 3 (by kernel_rfl)))
                refine call_ 8 #[.agg #[.int .i64 ob, .slice E1 n1.length r1, .slice E2 n2.length r2, .slice E3 n3.length r3, .slice E4 n4.length r4], .agg #[.int .i64 ob, .slice Q1 n1.length q1, .slice Q2 n2.length q2, .slice Q3 n3.length q3, .slice Q4 n4.length q4]] (wanted_on rfl rfl rfl (e183.trans rfl)) rfl (by go_simp; try rfl) ?_
                refine (rsame_c O.out (HK9.out _ R.out.2) HR22.out).mono ?_
                rintro e w1 ⟨rfl, hB⟩
                refine ⟨_, rfl, ?_⟩
                refine hK.out _ _ ⟨E1, E2, E3, E4, r1, r2, r3, r4, m3_, (by rw [ha.out]; exact putSel_upk 5 hb_ rfl rfl rfl), ⟨below_step R.out.1 hB, HS9.out _ _ hB R.out.2⟩, fun _ => O.out.step hB, Q_X3_⟩
              refine steps_cons ?_ ?_
              · rintro b a w' ⟨E1, E2, E3, E4, r1, r2, r3, r4, m3_, ha, Q_R, Q_O, Q_X3_⟩ hb_ hon hoff
                refine ⟨_, rfl, fun K hK => ?_⟩
                have e183 : a.tmps[183]? = some (.bool true) := by rw [ha]; exact putSel_on (e := (1, 183, .bool true)) 1 rfl rfl (hon 1 (by kernel_rfl)) rfl
                have e187 : a.tmps[187]? = some (.bool true) := by rw [ha]; exact putSel_on (e := (5, 187, .bool true)) 5 rfl rfl (hon 5 (by kernel_rfl)) rfl
                replace ha := Aside0.mk ha
                have R := Aside0.mk Q_R
                have O := Aside0.mk (Q_O (hon 3 (by kernel_rfl)))
                refine value_ (w1 := w') (v := .bool true) (by rfl) rfl ?_ ?_
                · go_simp
                  (try simp only [i64_w])
                  try rfl
                refine hK.out _ _ ⟨E1, E2, E3, E4, r1, r2, r3, r4, m3_, (by rw [ha.out]; exact putSel_upk 6 hb_ rfl rfl rfl), Q_R, Q_O, Q_X3_⟩
              refine steps_cons ?_ ?_
              · rintro b a w' ⟨E1, E2, E3, E4, r1, r2, r3, r4, m3_, ha, Q_R, Q_O, Q_X3_⟩ hb_ hon hoff
                refine ⟨_, rfl, fun K hK => ?_⟩
                have e188 : a.tmps[188]? = some (.bool true) := by rw [ha]; exact putSel_on (e := (6, 188, .bool true)) 6 rfl rfl (hon 6 (by kernel_rfl)) rfl
                replace ha := Aside0.mk ha
                have R := Aside0.mk Q_R
                have O := Aside0.mk (Q_O (hon 3 (by kernel_rfl)))
                refine value_ (w1 := w') (v := .bool true) (by rfl) rfl ?_ ?_
                · go_simp
                  (try simp only [i64_w])
                  try rfl
                refine hK.out _ _ ⟨E1, E2, E3, E4, r1, r2, r3, r4, m3_, (by rw [ha.out]; exact putSel_upk 7 hb_ rfl rfl rfl), Q_R, Q_O, Q_X3_⟩
              exact steps_nil
            · rintro b a w' hall ⟨E1, E2, E3, E4, r1, r2, r3, r4, m3_, ha, Q_R, Q_O, Q_X3_⟩
              skip
              have hb0_ := hall 0 (by kernel_rfl)
              have hb1_ := hall 1 (by kernel_rfl)
              have hb2_ := hall 2 (by kernel_rfl)
              have hb3_ := hall 3 (by kernel_rfl)
              have hb4_ := hall 4 (by kernel_rfl)
              have hb5_ := hall 5 (by kernel_rfl)
              have hb6_ := hall 6 (by kernel_rfl)
              have hb7_ := hall 7 (by kernel_rfl)
              subst ha
              obtain rfl := Q_X3_ hb3_
              simp only [putSel, hb0_, hb1_, hb2_, hb3_, hb4_, hb5_, hb6_, hb7_, if_true, Act.put, List.setIfInBounds_toArray, List.set_cons_zero, List.set_cons_succ]
              have R := Aside0.mk Q_R
              clear Q_R
              have O := Aside0.mk (Q_O hb3_)
              clear Q_O
              clear hall hb0_ hb1_ hb2_ hb3_ hb4_ hb5_ hb6_ hb7_
              go_wp2
              go_ret
              exact ⟨rfl, R.out.1⟩
end Go.Proofs.Ytfejdnkmmjffcaa.X
