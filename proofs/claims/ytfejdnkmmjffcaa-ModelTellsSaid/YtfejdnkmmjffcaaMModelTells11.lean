import Derived.Test.YtfejdnkmmjffcaaMModelTells3
import Derived.Test.YtfejdnkmmjffcaaMModelTells4
import Derived.Test.YtfejdnkmmjffcaaMModelTells9
import Derived.Test.YtfejdnkmmjffcaaMModelTells10
import Derived.ChangeSlices
import Derived.SizedLaws
import Derived.ProofKit
import Derived.OpenShut
import Derived.ShutString
import Derived.ChangeOld
import Derived.Test.YtfejdnkmmjffcaaMModelTells5
namespace Go.Proofs.Ytfejdnkmmjffcaa.X
open Go.RowKit Go.Proofs.YtfejdnkmmjffcaaW.PrintWords Go.Proofs.YtfejdnkmmjffcaaW.PrintLast Go.Proofs.YtfejdnkmmjffcaaW.PrintMore
attribute [local go_sem] max2_int min2_int max_two min_two max_three min_three max_four min_four
set_option linter.unusedVariables false
set_option linter.unusedSimpArgs false
def agateref10_Ints.l0 : Nat → List Int → List Int → Int → Option (Bool)
 | 0, _, _, _ => none
 | k + 1, x0, x1, x5 => if x5 < (x0.length : Int) then (if 0 ≤ x5 then (if x5 < (x1.length : Int) then (if (rd x0 x5) = (rd x1 x5) then (agateref10_Ints.l0 k x0 x1 (wrap64 (x5 + 1))) else (some false)) else (none)) else (none)) else (some true)
def agateref10_Ints.f (k : Nat) (l0 : List Int) (l1 : List Int) : Option (Bool) := if (l0.length : Int) = (l1.length : Int) then (agateref10_Ints.l0 k l0 l1 0) else (some false)
set_option maxHeartbeats 8000000 in
set_option maxRecDepth 100000 in
theorem agateref10_Ints.calls (k : Nat) (A0 : Option Addr) (c0 : Nat) (l0 : List Int) (A1 : Option Addr) (c1 : Nat) (l1 : List Int) (r : Bool) (w : World) (hr0 : Kd.C (Kd.int .i64) w A0 l0.length l0) (hc0 : l0.length ≤ c0) (hr1 : Kd.C (Kd.int .i64) w A1 l1.length l1) (hc1 : l1.length ≤ c1) (h : agateref10_Ints.f k l0 l1 = some r) :
  Calls Try.prog 45 #[.slice A0 l0.length c0, .slice A1 l1.length c1] w fun e w' => e = .returned (.bool r) ∧ Drawn0 w w' := by
 have HR0 := mk0 hr0; have HC0 := mk0 hc0; clear hr0 hc0; have HR1 := mk0 hr1; have HC1 := mk0 hc1; clear hr1 hc1; have H : (if (l0.length : Int) = (l1.length : Int) then (agateref10_Ints.l0 k l0 l1 0) else (some false)) = some r := h; clear h
 by_cases c3 : (l0.length : Int) = (l1.length : Int)
 ·
  rw [if_pos c3] at H; have c3b0 := beq_iff_eq.mpr c3; have c3b1 := bne_eq_false_iff_eq.mpr c3; have c3b2 : (l0.length == l1.length) = true := by first | simpa using c3 | (simp at c3 ⊢; omega)
  clear c3; have H' := mk0 H; clear H
  go_enter Try.func45, Try.ntmps45
  go_wp2
  repeat (go_quiet (fail); try go_wp2)
  go_loopg [5] k (fun kq v5 w' => ∃ (x5_1 : Int), v5 = .int .i64 x5_1 ∧ Aside0 (agateref10_Ints.l0 kq l0 l1 x5_1 = some r) ∧ Aside0 (kq ≤ k) ∧ Drawn0 w w')
  case atStart => exact ⟨(0), cl0, H', ⟨Nat.le_refl _⟩, by repeat (first | exact Drawn0.refl _ | apply Drawn0.step)⟩
  case round =>
   clear H'; try clear c1; try clear c3; try clear c3b0; try clear c3b1; try clear c3b2
   obtain ⟨x5_1, rfl, HA, HK1, ⟨m1, rfl⟩⟩ := hrel
   cases gk with
   | zero => exact absurd HA.out (by simp [agateref10_Ints.l0])
   | succ k1 =>
    have H := HA.out; clear HA
    simp only [agateref10_Ints.l0] at H
    by_cases c4 : x5_1 < (l0.length : Int)
    ·
     rw [if_pos c4] at H; have c4b0 := decide_eq_true c4; clear c4; replace H := ifS H; obtain ⟨c5, H⟩ := H; have c5b0 := decide_eq_true c5; clear c5; replace H := ifS H; obtain ⟨c6, H⟩ := H; have c6b0 := decide_eq_true c6; clear c6
     by_cases c7 : (rd l0 x5_1) = (rd l1 x5_1)
     ·
      rw [if_pos c7] at H; have c7b0 := beq_iff_eq.mpr c7; have c7b1 := bne_eq_false_iff_eq.mpr c7; clear c7; have H' := mk0 H; clear H; have p101 : 0 ≤ (x5_1 : Int) := ofd; have q101 : x5_1 < (l0.length : Int) := ofd; obtain ⟨ad101, e101, hx101_0⟩ := Kd.at_int HR0.out x5_1 p101 q101; cases e101; replace p101 := eq_true p101; replace q101 := eq_true q101; have p102 : 0 ≤ (x5_1 : Int) := ofd; have q102 : x5_1 < (l1.length : Int) := ofd; obtain ⟨ad102, e102, hx102_0⟩ := Kd.at_int HR1.out x5_1 p102 q102; cases e102; replace p102 := eq_true p102; replace q102 := eq_true q102
      go_wp2
      repeat (go_quiet (fail); try go_wp2)
      go_roundg k1
      case measure => have := HK1.out; omega
      case rel => exact ⟨(wrap64 (x5_1 + 1)), cl0, H', cl2 HK1, by repeat (first | exact Drawn0.refl _ | apply Drawn0.step)⟩
     ·
      rw [if_neg c7] at H; have c7b0 := beq_eq_false_iff_ne.mpr c7; have c7b1 := bne_iff_ne.mpr c7; obtain rfl := Option.some.inj H; have p101 : 0 ≤ (x5_1 : Int) := ofd; have q101 : x5_1 < (l0.length : Int) := ofd; obtain ⟨ad101, e101, hx101_0⟩ := Kd.at_int HR0.out x5_1 p101 q101; cases e101; replace p101 := eq_true p101; replace q101 := eq_true q101; have p102 : 0 ≤ (x5_1 : Int) := ofd; have q102 : x5_1 < (l1.length : Int) := ofd; obtain ⟨ad102, e102, hx102_0⟩ := Kd.at_int HR1.out x5_1 p102 q102; cases e102; replace p102 := eq_true p102; replace q102 := eq_true q102
      go_wp2
      repeat (go_quiet (fail); try go_wp2)
      go_ret
      exact ⟨by first | rfl | (simp; done) | (simp [*]; done), by repeat (first | exact Drawn0.refl _ | apply Drawn0.step)⟩
    ·
     rw [if_neg c4] at H; have c4b0 := decide_eq_false c4; clear c4; obtain rfl := Option.some.inj H
     go_wp2
     repeat (go_quiet (fail); try go_wp2)
     go_ret
     exact ⟨by first | rfl | (simp; done) | (simp [*]; done), by repeat (first | exact Drawn0.refl _ | apply Drawn0.step)⟩
 ·
  rw [if_neg c3] at H; have c3b0 := beq_eq_false_iff_ne.mpr c3; have c3b1 := bne_iff_ne.mpr c3; have c3b2 : (l0.length == l1.length) = false := by first | simpa using c3 | (simp at c3 ⊢; omega)
  obtain rfl := Option.some.inj H
  go_enter Try.func45, Try.ntmps45
  go_wp2
  repeat (go_quiet (fail); try go_wp2)
  go_ret
  exact ⟨by first | rfl | (simp; done) | (simp [*]; done), by repeat (first | exact Drawn0.refl _ | apply Drawn0.step)⟩
def agateref10_Attrs.f (k : Nat) (a0_0 : ByteArray) (a0_1 : Bool) (a0_2 : Int) (l0_3 : List Int) (a1_0 : ByteArray) (a1_1 : Bool) (a1_2 : Int) (l1_3 : List Int) : Option (Bool) := if a0_0.toList = a1_0.toList then (if (a0_1 == a1_1) = true then (if a0_1 = true then (if a0_2 = a1_2 then (some true) else (some false)) else ((agateref10_Ints.f k l0_3 l1_3).bind fun t103 => (some t103))) else (some false)) else (some false)
set_option maxHeartbeats 8000000 in
set_option maxRecDepth 100000 in
theorem agateref10_Attrs.calls (k : Nat) (a0_0 : ByteArray) (a0_1 : Bool) (a0_2 : Int) (A0_3 : Option Addr) (c0_3 : Nat) (l0_3 : List Int) (a1_0 : ByteArray) (a1_1 : Bool) (a1_2 : Int) (A1_3 : Option Addr) (c1_3 : Nat) (l1_3 : List Int) (r : Bool) (w : World) (hr0_3 : Kd.C (Kd.int .i64) w A0_3 l0_3.length l0_3) (hc0_3 : l0_3.length ≤ c0_3) (hr1_3 : Kd.C (Kd.int .i64) w A1_3 l1_3.length l1_3) (hc1_3 : l1_3.length ≤ c1_3) (h : agateref10_Attrs.f k a0_0 a0_1 a0_2 l0_3 a1_0 a1_1 a1_2 l1_3 = some r) :
  Calls Try.prog 46 #[.agg #[.string a0_0, .bool a0_1, .int .i64 a0_2, .slice A0_3 l0_3.length c0_3], .agg #[.string a1_0, .bool a1_1, .int .i64 a1_2, .slice A1_3 l1_3.length c1_3]] w fun e w' => e = .returned (.bool r) ∧ Below w.heap.size w w' := by
 have hu90 := Try.underlying90; have HR0_3 := mk0 hr0_3; have HC0_3 := mk0 hc0_3; clear hr0_3 hc0_3; have HR1_3 := mk0 hr1_3; have HC1_3 := mk0 hc1_3; clear hr1_3 hc1_3; have HB := mk0 (Below.refl w.heap.size w); have H : (if a0_0.toList = a1_0.toList then (if (a0_1 == a1_1) = true then (if a0_1 = true then (if a0_2 = a1_2 then (some true) else (some false)) else ((agateref10_Ints.f k l0_3 l1_3).bind fun t103 => (some t103))) else (some false)) else (some false)) = some r := h; clear h
 by_cases c3 : a0_0.toList = a1_0.toList
 ·
  rw [if_pos c3] at H; have c3b0 := beq_iff_eq.mpr c3; have c3b1 := bne_eq_false_iff_eq.mpr c3; clear c3
  by_cases c4 : (a0_1 == a1_1) = true
  ·
   rw [if_pos c4] at H; have c4b0 : (a0_1 == a1_1) = true := c4
   (try (have c4b1 : decide (a0_1 = a1_1) = true := by simpa using c4))
   (try (have c4b2 : (a0_1 == a1_1) = true := by simpa using c4))
   clear c4
   by_cases c5 : a0_1 = true
   ·
    subst c5; have H1 : (if a0_2 = a1_2 then (some true) else (some false)) = some r := by rw [if_pos rfl] at H; exact H
    clear H; have H := H1; clear H1
    by_cases c6 : a0_2 = a1_2
    ·
     rw [if_pos c6] at H; have c6b0 := beq_iff_eq.mpr c6; have c6b1 := bne_eq_false_iff_eq.mpr c6; clear c6; obtain rfl := Option.some.inj H
     go_enter Try.func46, Try.ntmps46
     go_wp2_with (first | ((with_reducible refine gate_dst (N := 2) rfl ?_); refine boxE (N := 2) (cs := #[.string a0_0, .bool true, .int .i64 a0_2, .slice A0_3 l0_3.length c0_3]) (t := 90) ?_; intro gb101 hg w7 hbox hb; have BK101 := mk0 hbox; have GW101 := gwS HB hg; have GE101 := gwS HB hg; replace HB := hbS HB hb; clear hb hbox hg) | ((with_reducible refine gate_dst (N := 3) rfl ?_); refine boxE (N := 3) (cs := #[.string a1_0, .bool a1_1, .int .i64 a1_2, .slice A1_3 l1_3.length c1_3]) (t := 90) ?_; intro gb102 hg w8 hbox hb; have BK102 := mk0 hbox; have GW102 := gwS HB hg; have GE102 := gwS HB hg; replace HB := hbS HB hb; have NB101_102 := neS BK101 hg; have NB102_101 := neT BK101 hg; replace BK101 := bkS BK101 hb; clear hb hbox hg; have hnb9 := NB101_102.out; have hnc9 := NB102_101.out; obtain ⟨hcz10_0, hcz10_1, hcz10_2, hcz10_3⟩ := cz4 BK101; obtain ⟨hcz11_0, hcz11_1, hcz11_2, hcz11_3⟩ := cz4 BK102; have hfz11_3 := blk_frozen BK102.out 3))
     go_ret
     exact ⟨cl3, hbA HB⟩
    ·
     rw [if_neg c6] at H; have c6b0 := beq_eq_false_iff_ne.mpr c6; have c6b1 := bne_iff_ne.mpr c6; obtain rfl := Option.some.inj H
     go_enter Try.func46, Try.ntmps46
     go_wp2_with (first | ((with_reducible refine gate_dst (N := 2) rfl ?_); refine boxE (N := 2) (cs := #[.string a0_0, .bool true, .int .i64 a0_2, .slice A0_3 l0_3.length c0_3]) (t := 90) ?_; intro gb101 hg w12 hbox hb; have BK101 := mk0 hbox; have GW101 := gwS HB hg; have GE101 := gwS HB hg; replace HB := hbS HB hb; clear hb hbox hg) | ((with_reducible refine gate_dst (N := 3) rfl ?_); refine boxE (N := 3) (cs := #[.string a1_0, .bool a1_1, .int .i64 a1_2, .slice A1_3 l1_3.length c1_3]) (t := 90) ?_; intro gb102 hg w13 hbox hb; have BK102 := mk0 hbox; have GW102 := gwS HB hg; have GE102 := gwS HB hg; replace HB := hbS HB hb; have NB101_102 := neS BK101 hg; have NB102_101 := neT BK101 hg; replace BK101 := bkS BK101 hb; clear hb hbox hg; have hnb14 := NB101_102.out; have hnc14 := NB102_101.out; obtain ⟨hcz15_0, hcz15_1, hcz15_2, hcz15_3⟩ := cz4 BK101; obtain ⟨hcz16_0, hcz16_1, hcz16_2, hcz16_3⟩ := cz4 BK102; have hfz16_3 := blk_frozen BK102.out 3))
     go_ret
     exact ⟨cl3, hbA HB⟩
   ·
    replace c5 := Bool.eq_false_iff.mpr c5; subst c5; have H1 : ((agateref10_Ints.f k l0_3 l1_3).bind fun t103 => (some t103)) = some r := by rw [if_neg (show ¬ (false = true) by decide)] at H; exact H
    clear H; have H := H1; clear H1; replace H := bnd H; obtain ⟨t103, A17, H⟩ := H; obtain rfl := Option.some.inj H
    go_enter Try.func46, Try.ntmps46
    go_wp2_with (first | ((with_reducible refine gate_dst (N := 2) rfl ?_); refine boxE (N := 2) (cs := #[.string a0_0, .bool false, .int .i64 a0_2, .slice A0_3 l0_3.length c0_3]) (t := 90) ?_; intro gb101 hg w18 hbox hb; have BK101 := mk0 hbox; have GW101 := gwS HB hg; have GE101 := gwS HB hg; replace HB := hbS HB hb; clear hb hbox hg) | ((with_reducible refine gate_dst (N := 3) rfl ?_); refine boxE (N := 3) (cs := #[.string a1_0, .bool a1_1, .int .i64 a1_2, .slice A1_3 l1_3.length c1_3]) (t := 90) ?_; intro gb102 hg w19 hbox hb; have BK102 := mk0 hbox; have GW102 := gwS HB hg; have GE102 := gwS HB hg; replace HB := hbS HB hb; have NB101_102 := neS BK101 hg; have NB102_101 := neT BK101 hg; replace BK101 := bkS BK101 hb; clear hb hbox hg; have hnb20 := NB101_102.out; have hnc20 := NB102_101.out; obtain ⟨hcz21_0, hcz21_1, hcz21_2, hcz21_3⟩ := cz4 BK101; obtain ⟨hcz22_0, hcz22_1, hcz22_2, hcz22_3⟩ := cz4 BK102) | (go_at_call 45; (with_reducible refine (agateref10_Ints.calls k _ _ l0_3 _ _ l1_3 t103 _ ?side1 ?side2 ?side3 ?side4 A17.out).mono ?_); (case side1 => repeat (first | exact (Kd.C_below HR0_3.out HB.out) | (with_reducible refine Kd.C_alloc ?_ _) | (with_reducible refine Kd.C_drewN ?_ _) | (with_reducible refine Kd.C_drew ?_))); (case side2 => exact HC0_3.out); (case side3 => repeat (first | exact (Kd.C_below HR1_3.out HB.out) | (with_reducible refine Kd.C_alloc ?_ _) | (with_reducible refine Kd.C_drewN ?_ _) | (with_reducible refine Kd.C_drew ?_))); (case side4 => exact HC1_3.out); rintro e w' ⟨rfl, ⟨nd, rfl⟩⟩))
    go_ret
    exact ⟨cl3, hbA HB⟩
  ·
   rw [if_neg c4] at H; have c4b0 : (a0_1 == a1_1) = false := by simpa using c4
   (try (have c4b1 : decide (a0_1 = a1_1) = false := by simpa using c4))
   (try (have c4b2 : (a0_1 == a1_1) = false := by simpa using c4))
   (try (have c4b3 : ¬ (a0_1 = a1_1) := by simpa using c4))
   clear c4; obtain rfl := Option.some.inj H
   go_enter Try.func46, Try.ntmps46
   go_wp2_with (first | ((with_reducible refine gate_dst (N := 2) rfl ?_); refine boxE (N := 2) (cs := #[.string a0_0, .bool a0_1, .int .i64 a0_2, .slice A0_3 l0_3.length c0_3]) (t := 90) ?_; intro gb101 hg w23 hbox hb; have BK101 := mk0 hbox; have GW101 := gwS HB hg; have GE101 := gwS HB hg; replace HB := hbS HB hb; clear hb hbox hg) | ((with_reducible refine gate_dst (N := 3) rfl ?_); refine boxE (N := 3) (cs := #[.string a1_0, .bool a1_1, .int .i64 a1_2, .slice A1_3 l1_3.length c1_3]) (t := 90) ?_; intro gb102 hg w24 hbox hb; have BK102 := mk0 hbox; have GW102 := gwS HB hg; have GE102 := gwS HB hg; replace HB := hbS HB hb; have NB101_102 := neS BK101 hg; have NB102_101 := neT BK101 hg; replace BK101 := bkS BK101 hb; clear hb hbox hg; have hnb25 := NB101_102.out; have hnc25 := NB102_101.out; obtain ⟨hcz26_0, hcz26_1, hcz26_2, hcz26_3⟩ := cz4 BK101; obtain ⟨hcz27_0, hcz27_1, hcz27_2, hcz27_3⟩ := cz4 BK102; have hfz27_3 := blk_frozen BK102.out 3))
   go_ret
   exact ⟨cl3, hbA HB⟩
 ·
  rw [if_neg c3] at H; have c3b0 := beq_eq_false_iff_ne.mpr c3; have c3b1 := bne_iff_ne.mpr c3; obtain rfl := Option.some.inj H
  go_enter Try.func46, Try.ntmps46
  go_wp2_with (first | ((with_reducible refine gate_dst (N := 2) rfl ?_); refine boxE (N := 2) (cs := #[.string a0_0, .bool a0_1, .int .i64 a0_2, .slice A0_3 l0_3.length c0_3]) (t := 90) ?_; intro gb101 hg w28 hbox hb; have BK101 := mk0 hbox; have GW101 := gwS HB hg; have GE101 := gwS HB hg; replace HB := hbS HB hb; clear hb hbox hg) | ((with_reducible refine gate_dst (N := 3) rfl ?_); refine boxE (N := 3) (cs := #[.string a1_0, .bool a1_1, .int .i64 a1_2, .slice A1_3 l1_3.length c1_3]) (t := 90) ?_; intro gb102 hg w29 hbox hb; have BK102 := mk0 hbox; have GW102 := gwS HB hg; have GE102 := gwS HB hg; replace HB := hbS HB hb; have NB101_102 := neS BK101 hg; have NB102_101 := neT BK101 hg; replace BK101 := bkS BK101 hb; clear hb hbox hg; have hnb30 := NB101_102.out; have hnc30 := NB102_101.out; obtain ⟨hcz31_0, hcz31_1, hcz31_2, hcz31_3⟩ := cz4 BK101; obtain ⟨hcz32_0, hcz32_1, hcz32_2, hcz32_3⟩ := cz4 BK102; have hfz32_3 := blk_frozen BK102.out 3))
  go_ret
  exact ⟨cl3, hbA HB⟩
def toA (x : S48) : S90 := ⟨x.f0, x.f1, x.f2, x.f3⟩
def toI (x : S40) : S89 := ⟨x.f0, x.f1, x.f2⟩
def toT (x : S42) : S55 := ⟨x.f0, x.f1, x.f2, x.f3⟩
def toN (x : S46) : S59 := ⟨x.f0, x.f1, x.f2, x.f3.map toA⟩
theorem node_l0 (l : List S48) (hl : l.length < 2513169434916) (a : ByteArray) (b : List ByteArray) (c : ByteArray) (d : Nat) : ∀ (k i : Nat), l.length - i = d → i ≤ l.length → d < k →
    agatelaw10_Node.l0 k l (l.length : Int) (i : Int) a b c ((l.take i).map toA) = some (a, b, c, l.map toA) := by
  induction d with
  | zero =>
    intro k i hdd hi hk
    obtain ⟨k, rfl⟩ : ∃ m, k = m + 1 := ⟨k - 1, by omega⟩
    simp only [agatelaw10_Node.l0]
    rw [if_neg (by omega), List.take_of_length_le (by omega)]
  | succ d ih =>
    intro k i hdd hi hk
    obtain ⟨k, rfl⟩ : ∃ m, k = m + 1 := ⟨k - 1, by omega⟩
    have hlt : i < l.length := by omega
    have e0 : rd_T48 l (i : Int) = l[i] := by simp [rd_T48, hlt]
    have ih' := ih k (i + 1) (by omega) (by omega) (by omega)
    simp only [agatelaw10_Node.l0]
    rw [if_pos (by omega), if_pos (by omega), if_pos (by omega), if_pos (by rw [List.length_map, List.length_take]; omega), e0, wrap64_id (by omega) (by omega)]
    rw [List.take_succ_eq_append_getElem hlt, List.map_append] at ih'
    exact ih'
theorem node_f (l : List S48) (hl : l.length < 2513169434916) (a : ByteArray) (b : List ByteArray) (c : ByteArray) (k : Nat) (hk : l.length < k) : agatelaw10_Node.f k a b c l = some (a, b, c, l.map toA) := by
  have h := node_l0 l hl a b c l.length k 0 (by omega) (by omega) hk
  exact h
theorem infos_l0 (l : List S40) (hl : l.length < 2932031007402) (d : Nat) : ∀ (k i : Nat), l.length - i = d → i ≤ l.length → d < k →
    agatelaw10_Infos.l0 k ((l.take i).map toI) l (l.length : Int) (i : Int) = some (l.map toI) := by
  induction d with
  | zero =>
    intro k i hdd hi hk
    obtain ⟨k, rfl⟩ : ∃ m, k = m + 1 := ⟨k - 1, by omega⟩
    simp only [agatelaw10_Infos.l0]
    rw [if_neg (by omega), List.take_of_length_le (by omega)]
  | succ d ih =>
    intro k i hdd hi hk
    obtain ⟨k, rfl⟩ : ∃ m, k = m + 1 := ⟨k - 1, by omega⟩
    have hlt : i < l.length := by omega
    have e0 : rd_T40 l (i : Int) = l[i] := by simp [rd_T40, hlt]
    have ih' := ih k (i + 1) (by omega) (by omega) (by omega)
    simp only [agatelaw10_Infos.l0]
    rw [if_pos (by omega), if_pos (by omega), if_pos (by omega), if_pos (by rw [List.length_map, List.length_take]; omega), e0, wrap64_id (by omega) (by omega)]
    rw [List.take_succ_eq_append_getElem hlt, List.map_append] at ih'
    exact ih'
theorem infos_f (l : List S40) (hl : l.length < 2932031007402) (k : Nat) (hk : l.length < k) : agatelaw10_Infos.f k l = some (l.map toI) := by
  have h := infos_l0 l hl l.length k 0 (by omega) (by omega) hk
  exact h
theorem of_l1 (l : List S46) (hl : l.length < 1759218604441) (K : Nat) (hK : ∀ x ∈ l, x.f3.length < 2513169434916 ∧ x.f3.length < K) (a : Int) (i1 i2 : List S89) (t : List S55) (d : Nat) : ∀ (k i : Nat), l.length - i = d → i ≤ l.length → K + d < k →
    agatelaw10_Of.l1 k l (l.length : Int) (i : Int) a i1 i2 t ((l.take i).map toN) = some (a, i1, i2, t, l.map toN) := by
  induction d with
  | zero =>
    intro k i hdd hi hk
    obtain ⟨k, rfl⟩ : ∃ m, k = m + 1 := ⟨k - 1, by omega⟩
    simp only [agatelaw10_Of.l1]
    rw [if_neg (by omega), List.take_of_length_le (by omega)]
  | succ d ih =>
    intro k i hdd hi hk
    obtain ⟨k, rfl⟩ : ∃ m, k = m + 1 := ⟨k - 1, by omega⟩
    have hlt : i < l.length := by omega
    have e0 : rd_T46 l (i : Int) = l[i] := by simp [rd_T46, hlt]
    have ih' := ih k (i + 1) (by omega) (by omega) (by omega)
    obtain ⟨h1, h2⟩ := hK l[i] (List.getElem_mem _)
    simp only [agatelaw10_Of.l1]
    rw [if_pos (by omega), if_pos (by omega), if_pos (by omega), e0, node_f l[i].f3 h1 _ _ _ k (by omega), Option.bind_some, if_pos (by rw [List.length_map, List.length_take]; omega), wrap64_id (by omega) (by omega)]
    rw [List.take_succ_eq_append_getElem hlt, List.map_append] at ih'
    exact ih'
theorem of_l0 (l : List S42) (hl : l.length < 2199023255552) (l4 : List S46) (hl4 : l4.length < 1759218604441) (K : Nat) (hK : ∀ x ∈ l4, x.f3.length < 2513169434916 ∧ x.f3.length < K) (b : Int) (l1 l2 : List S40) (l3 : List S42) (a : Int) (i1 i2 : List S89) (d : Nat) : ∀ (k i : Nat), l.length - i = d → i ≤ l.length → K + l4.length + d + 1 < k →
    agatelaw10_Of.l0 k l (l.length : Int) (i : Int) b l1 l2 l3 l4 a i1 i2 ((l.take i).map toT) = some (a, i1, i2, l.map toT, l4.map toN) := by
  induction d with
  | zero =>
    intro k i hdd hi hk
    obtain ⟨k, rfl⟩ : ∃ m, k = m + 1 := ⟨k - 1, by omega⟩
    simp only [agatelaw10_Of.l0]
    rw [if_neg (by omega), List.take_of_length_le (by omega)]
    have h := of_l1 l4 hl4 K hK a i1 i2 (l.map toT) l4.length k 0 (by omega) (by omega) (by omega)
    exact h
  | succ d ih =>
    intro k i hdd hi hk
    obtain ⟨k, rfl⟩ : ∃ m, k = m + 1 := ⟨k - 1, by omega⟩
    have hlt : i < l.length := by omega
    have e0 : rd_T42 l (i : Int) = l[i] := by simp [rd_T42, hlt]
    have ih' := ih k (i + 1) (by omega) (by omega) (by omega)
    simp only [agatelaw10_Of.l0]
    rw [if_pos (by omega), if_pos (by omega), if_pos (by omega), e0, show agatelaw07_Of.f l[i].f0 l[i].f1 l[i].f2 l[i].f3 = some (l[i].f0, l[i].f1, l[i].f2, l[i].f3) from rfl, Option.bind_some, if_pos (by rw [List.length_map, List.length_take]; omega), wrap64_id (by omega) (by omega)]
    rw [List.take_succ_eq_append_getElem hlt, List.map_append] at ih'
    exact ih'
theorem of_f (a : Int) (l1 l2 : List S40) (l3 : List S42) (l4 : List S46) (h1 : l1.length < 2932031007402) (h2 : l2.length < 2932031007402) (h3 : l3.length < 2199023255552) (h4 : l4.length < 1759218604441) (K : Nat) (hK : ∀ x ∈ l4, x.f3.length < 2513169434916 ∧ x.f3.length < K) (k : Nat) (hk : l1.length + l2.length + l3.length + l4.length + K + 2 < k) :
    agatelaw10_Of.f k a l1 l2 l3 l4 = some (a, l1.map toI, l2.map toI, l3.map toT, l4.map toN) := by
  unfold agatelaw10_Of.f
  rw [infos_f l1 h1 k (by omega), Option.bind_some, infos_f l2 h2 k (by omega), Option.bind_some]
  have h := of_l0 l3 h3 l4 h4 K hK a l1 l2 l3 a (l1.map toI) (l2.map toI) l3.length k 0 (by omega) (by omega) (by omega)
  exact h
end Go.Proofs.Ytfejdnkmmjffcaa.X
namespace Go.Proofs.Ytfejdnkmmjffcaa.X
open Go.RowKit Go.Proofs.YtfejdnkmmjffcaaW.PrintWords Go.Proofs.YtfejdnkmmjffcaaW.PrintLast Go.Proofs.YtfejdnkmmjffcaaW.PrintMore
attribute [local go_sem] max2_int min2_int max_two min_two max_three min_three max_four min_four
set_option linter.unusedVariables false
set_option linter.unusedSimpArgs false
open Go.ChangeShapes Go.WideShapes
structure Opens {H : Type} (enc : TypeId × Value → H) (P : Program) (W : World) (t : TypeId) {α : Type} (d : Kd α) (wf : α → Prop) : Prop where
  cells : P.cellsOf t = d.sz
  go : ∀ (fuel : Nat) (cs : List Value) (x : DataW H × List MemPlace), DataW.trod enc P W 0 (fun _ => true) true fuel t cs = some x →
    (∀ n ∈ DataW.weights P t x.1, n ≤ reachBytes) → ∃ a, d.K W a cs ∧ wf a
theorem Opens.int {H : Type} {enc : TypeId × Value → H} {P : Program} {W : World} {t : TypeId} {k : IntKind} (ht : P.underlying t = some (.int k)) (hc : P.cellsOf t = 1) :
    Opens enc P W t (Kd.int k) (fun a => (Lit.int k a).wf = true) := by
  refine ⟨hc, fun fuel cs x h _ => ?_⟩
  obtain ⟨n, rfl, _, hw⟩ := DataW.trod_int ht h
  exact ⟨n, rfl, hw⟩
theorem Opens.bool {H : Type} {enc : TypeId × Value → H} {P : Program} {W : World} {t : TypeId} (ht : P.underlying t = some .bool) (hc : P.cellsOf t = 1) :
    Opens enc P W t Kd.bool (fun _ => True) := by
  refine ⟨hc, fun fuel cs x h _ => ?_⟩
  obtain ⟨b, rfl, _⟩ := DataW.trod_bool ht h
  exact ⟨b, rfl, trivial⟩
theorem Opens.string {H : Type} {enc : TypeId × Value → H} {P : Program} {W : World} {t : TypeId} (ht : P.underlying t = some .string) (hc : P.cellsOf t = 1) :
    Opens enc P W t Kd.string (fun a => a.size ≤ 140737488351232) := by
  refine ⟨hc, fun fuel cs x h hw => ?_⟩
  obtain ⟨s, rfl, rfl, _⟩ := DataW.trod_string ht h
  refine ⟨s, rfl, ?_⟩
  have := hw s.data.toList.length (by simp [DataW.weights])
  rw [Array.length_toList] at this
  exact this
theorem weights_all_mem {H : Type} {P : Program} {e : TypeId} : ∀ {l : List (DataW H)} {y : DataW H}, y ∈ l → ∀ n ∈ DataW.weights P e y, n ∈ DataW.weightsAll P e l
  | d :: r, y, hy, n, hn => by
    simp only [DataW.weightsAll, List.mem_append]
    rcases List.mem_cons.1 hy with rfl | hy
    · exact .inl hn
    · exact .inr (weights_all_mem hy n hn)
theorem Opens.slice {H : Type} {enc : TypeId × Value → H} {P : Program} {W : World} {t e : TypeId} {α : Type} {d : Kd α} {wf : α → Prop} {B : Nat} (ht : P.underlying t = some (.slice e)) (hc : P.cellsOf t = 1) (hB : P.bytesOf e = B)
    (he : Opens enc P W e d wf) :
    Opens enc P W t (Kd.slice e d) (fun l => l.length ≤ maxLen ∧ l.length * B ≤ 140737488351232 ∧ ∀ x ∈ l, wf x) := by
  refine ⟨hc, fun fuel cs x h hw => ?_⟩
  rcases DataW.trod_slice ht h with ⟨rfl, rfl⟩ | ⟨a, len, cap, elems, rest, n, _, rfl, rfl, hb, hl, hm, hlen, hel, hsp, hns⟩
  · exact ⟨[], ⟨none, 0, rfl, Nat.le_refl _, rfl, Nat.zero_le _, fun h => absurd h (Nat.lt_irrefl 0)⟩, by simp, by simp, by simp⟩
  · have hwe : ∀ y ∈ elems, ∀ n ∈ DataW.weights P e y.1, n ≤ reachBytes := by
      intro y hy n hn
      refine hw n ?_
      simp only [DataW.weights, ht, List.mem_cons, List.mem_append]
      exact .inr (.inl (weights_all_mem (List.mem_map_of_mem hy) n hn))
    have hsize : (elems.length + rest.length) * P.bytesOf e ≤ reachBytes := by
      have := hw ((elems.length + rest.length) * P.bytesOf e) (by simp [DataW.weights, ht])
      exact this
    have each : ∀ i, i < len → ∃ y c, W.cells? 0 (a.add (i * P.cellsOf e)) (P.cellsOf e) = some c ∧ d.K W y c ∧ wf y := by
      intro i hi
      have h1 := hel i hi
      have h2 : elems[i]? = some elems[i] := List.getElem?_eq_getElem (by omega)
      rw [h2, Option.bind_eq_some_iff] at h1
      obtain ⟨c, hcs, hy⟩ := h1
      obtain ⟨y, hk, hwf⟩ := he.go n c _ hy (hwe _ (List.getElem_mem _))
      exact ⟨y, c, hcs, hk, hwf⟩
    obtain ⟨l, hll, hlp⟩ : ∃ l : List α, l.length = len ∧ ∀ i p, l[i]? = some p → ∃ c, W.cells? 0 (a.add (i * P.cellsOf e)) (P.cellsOf e) = some c ∧ d.K W p c ∧ wf p := by
      clear hel h hw hwe hsize hlen hl hsp hns hm hb ht hc
      induction len with
      | zero => exact ⟨[], rfl, by simp⟩
      | succ m ih =>
        obtain ⟨l, hll, hlp⟩ := ih (fun i hi => each i (by omega))
        obtain ⟨y, c, hcs, hk, hwf⟩ := each m (by omega)
        refine ⟨l ++ [y], by simp [hll], fun i p hp => ?_⟩
        rcases Nat.lt_or_ge i l.length with hi | hi
        · rw [List.getElem?_append_left hi] at hp
          exact hlp i p hp
        · rw [List.getElem?_append_right hi] at hp
          obtain ⟨h0, rfl⟩ : i - l.length = 0 ∧ y = p := by
            rcases hq : i - l.length with _ | q
            · rw [hq] at hp; simpa using hp
            · rw [hq] at hp; simp at hp
          obtain rfl : i = m := by omega
          exact ⟨c, hcs, hk, hwf⟩
    subst hll
    refine ⟨l, ⟨some a, cap, rfl, hl, rfl, by unfold maxLen at hm; omega, fun _ => ⟨a, rfl, fun j p hp => ?_⟩⟩, by omega, ?_, ?_⟩
    · obtain ⟨c, hcs, hk, _⟩ := hlp j p hp
      have hclen := (World.cells?_some hcs).2.1
      refine ⟨c, by rw [hclen, he.cells], hk, fun i u hu => ?_⟩
      have hi : i < P.cellsOf e := by have := (List.getElem?_eq_some_iff.1 hu).1; omega
      have := (World.cells?_some hcs).2.2 i hi
      rw [hu, Addr.add_add] at this
      rw [← he.cells]
      exact this
    · rw [hB] at hsize
      have : l.length * B ≤ (elems.length + rest.length) * B := Nat.mul_le_mul_right _ (by omega)
      exact Nat.le_trans this hsize
    · intro x hx
      obtain ⟨i, hi⟩ := List.getElem?_of_mem hx
      obtain ⟨c, _, _, hwf⟩ := hlp i x hi
      exact hwf
structure OpensF {H : Type} (enc : TypeId × Value → H) (P : Program) (W : World) (fs : List Field) (off : Nat) {α : Type} (d : Kd α) (wf : α → Prop) : Prop where
  go : ∀ (n : Nat) (cs : List Value) (xs : List (DataW H × List MemPlace)), cs.length = off + d.sz →
    (∀ (i : Nat) (f : Field), fs[i]? = some f → DataW.trod enc P W 0 (fun _ => true) true n f.type ((cs.drop f.offset).take (P.cellsOf f.type)) = xs[i]?) → xs.length = fs.length →
    (∀ n ∈ DataW.weightsEach P (fs.map (·.type)) (xs.map (·.1)), n ≤ reachBytes) → ∃ a, d.K W a (cs.drop off) ∧ wf a
theorem OpensF.one {H : Type} {enc : TypeId × Value → H} {P : Program} {W : World} {f : Field} {off : Nat} {α : Type} {d : Kd α} {wf : α → Prop} (ho : f.offset = off) (h : Opens enc P W f.type d wf) :
    OpensF enc P W [f] off d wf := by
  refine ⟨fun n cs xs hl hx hxl hw => ?_⟩
  obtain ⟨x, rfl⟩ : ∃ x, xs = [x] := by
    match xs, hxl with
    | [x], _ => exact ⟨x, rfl⟩
  have h1 := hx 0 f rfl
  rw [ho, List.take_of_length_le (by rw [List.length_drop, h.cells]; omega)] at h1
  exact h.go n _ x h1 (fun m hm => hw m (by simp [DataW.weightsEach, hm]))
theorem OpensF.more {H : Type} {enc : TypeId × Value → H} {P : Program} {W : World} {f : Field} {fs : List Field} {off : Nat} {α β : Type} {d : Kd α} {e : Kd β} {wf : α → Prop} {wg : β → Prop} (ho : f.offset = off) (h : Opens enc P W f.type d wf)
    (hs : OpensF enc P W fs (off + d.sz) e wg) : OpensF enc P W (f :: fs) off (Kd.pair d e) (fun a => wf a.1 ∧ wg a.2) := by
  refine ⟨fun n cs xs hl hx hxl hw => ?_⟩
  obtain ⟨x, xs, rfl⟩ : ∃ x ys, xs = x :: ys := by
    match xs, hxl with
    | x :: ys, _ => exact ⟨x, ys, rfl⟩
  have hsz : (Kd.pair d e).sz = d.sz + e.sz := rfl
  have h1 := hx 0 f rfl
  rw [ho, h.cells] at h1
  obtain ⟨a, hk, hwf⟩ := h.go n _ x h1 (fun m hm => hw m (by simp [DataW.weightsEach, hm]))
  obtain ⟨b, hk2, hwg⟩ := hs.go n cs xs (by omega) (fun i g hg => hx (i + 1) g (by simpa using hg)) (by simpa using hxl) (fun m hm => hw m (by simp [DataW.weightsEach, hm]))
  refine ⟨(a, b), ⟨_, _, ?_, hk, hk2⟩, hwf, hwg⟩
  rw [← List.drop_drop, List.take_append_drop]
theorem Opens.struct {H : Type} {enc : TypeId × Value → H} {P : Program} {W : World} {t : TypeId} {fs : Array Field} {α β : Type} {d : Kd α} {wf : α → Prop} {f : β → α} (mk : α → β) (hmk : ∀ a, f (mk a) = a) (ht : P.underlying t = some (.struct fs))
    (hc : P.cellsOf t = d.sz) (h : OpensF enc P W fs.toList 0 d wf) : Opens enc P W t (Kd.iso d f) (fun b => wf (f b)) := by
  refine ⟨hc, fun fuel cs x hx hw => ?_⟩
  obtain ⟨xs, n, _, rfl, hl, hxl, hf⟩ := DataW.trod_struct ht hx
  obtain ⟨a, hk, hwf⟩ := h.go n cs xs (by rw [hl, hc]; omega) (fun i g hg => hf i g (by simpa using hg)) (by simpa using hxl) (fun m hm => hw m (by simpa [DataW.weights, ht] using hm))
  refine ⟨mk a, ?_, by rw [hmk]; exact hwf⟩
  show d.K W (f (mk a)) cs
  rw [hmk]
  simpa using hk
end Go.Proofs.Ytfejdnkmmjffcaa.X
namespace Go.Proofs.Ytfejdnkmmjffcaa.X
open Go.RowKit Go.Proofs.YtfejdnkmmjffcaaW.PrintWords Go.Proofs.YtfejdnkmmjffcaaW.PrintLast Go.Proofs.YtfejdnkmmjffcaaW.PrintMore
attribute [local go_sem] max2_int min2_int max_two min_two max_three min_three max_four min_four
set_option linter.unusedVariables false
set_option linter.unusedSimpArgs false
def stepI (n : Int) (x : S40) : Int := wrap64 (n + wrap64 (wrap64 (1 + (x.f0.size : Int)) + (x.f2.length : Int)))
def sumI (n : Int) (l : List S40) : Int := l.foldl stepI n
def stepT (n : Int) (x : S42) : Int := wrap64 (n + wrap64 (wrap64 (wrap64 (1 + (x.f0.size : Int)) + (x.f2.length : Int)) + (x.f3.size : Int)))
def sumT (n : Int) (l : List S42) : Int := l.foldl stepT n
def stepS (n : Int) (x : ByteArray) : Int := wrap64 (n + wrap64 (1 + (x.size : Int)))
def sumSt (n : Int) (l : List ByteArray) : Int := l.foldl stepS n
def stepA (n : Int) (x : S48) : Int := wrap64 (n + wrap64 (wrap64 (1 + (x.f0.size : Int)) + (x.f3.length : Int)))
def sumA (n : Int) (l : List S48) : Int := l.foldl stepA n
def stepD (n : Int) (x : S46) : Int := sumA (sumSt (wrap64 (n + wrap64 (wrap64 (1 + (x.f0.size : Int)) + (x.f2.size : Int)))) x.f1) x.f3
def sumD (n : Int) (l : List S46) : Int := l.foldl stepD n
def smallN (l1 l2 : List S40) (l3 : List S42) (l4 : List S46) : Int := sumD (sumT (sumI (sumI 0 l1) l2) l3) l4
def agatelaw10_Small.f (a0_0 : Int) (l0_1 : List S40) (l0_2 : List S40) (l0_3 : List S42) (l0_4 : List S46) : Option Bool := some (decide (smallN l0_1 l0_2 l0_3 l0_4 ≤ 6000))
set_option maxHeartbeats 8000000 in
set_option maxRecDepth 100000 in
theorem agatelaw10_Small.calls (a0_0 : Int) (A0_1 : Option Addr) (c0_1 : Nat) (l0_1 : List S40) (A0_2 : Option Addr) (c0_2 : Nat) (l0_2 : List S40) (A0_3 : Option Addr) (c0_3 : Nat) (l0_3 : List S42) (A0_4 : Option Addr) (c0_4 : Nat) (l0_4 : List S46) (r : Bool) (w : World) (hr0_1 : Kd.C k40 w A0_1 l0_1.length l0_1) (hc0_1 : l0_1.length ≤ c0_1) (hr0_2 : Kd.C k40 w A0_2 l0_2.length l0_2) (hc0_2 : l0_2.length ≤ c0_2) (hr0_3 : Kd.C k42 w A0_3 l0_3.length l0_3) (hc0_3 : l0_3.length ≤ c0_3) (hr0_4 : Kd.C k46 w A0_4 l0_4.length l0_4) (hc0_4 : l0_4.length ≤ c0_4) (h : agatelaw10_Small.f a0_0 l0_1 l0_2 l0_3 l0_4 = some r) :
    Calls Try.prog 4 #[.agg #[.int .i64 a0_0, .slice A0_1 l0_1.length c0_1, .slice A0_2 l0_2.length c0_2, .slice A0_3 l0_3.length c0_3, .slice A0_4 l0_4.length c0_4]] w fun e w' => e = .returned (.bool r) ∧ Below w.heap.size w w' := by
  obtain rfl := Option.some.inj h
  clear h
  obtain ⟨T4, hT4⟩ : ∃ T4, T4 = smallN l0_1 l0_2 l0_3 l0_4 := ⟨_, rfl⟩
  obtain ⟨T2, hT2⟩ : ∃ T2, T2 = sumI (sumI 0 l0_1) l0_2 := ⟨_, rfl⟩
  obtain ⟨T3, hT3⟩ : ∃ T3, T3 = sumT T2 l0_3 := ⟨_, rfl⟩
  have HT4 := Aside0.mk (show sumD T3 l0_4 = T4 by rw [hT4, hT3, hT2]; rfl)
  have HT3 := Aside0.mk hT3.symm
  have HT2 := Aside0.mk hT2.symm
  rw [← hT4]
  clear hT4 hT3 hT2
  have hu := Try.underlying26
  have hu2 := Try.underlying40
  have hu3 := Try.underlying42
  have hu4 := Try.underlying46
  have hu5 := Try.underlying48
  have HR1 := Aside0.mk hr0_1
  have HR2 := Aside0.mk hr0_2
  have HR3 := Aside0.mk hr0_3
  have HR4 := Aside0.mk hr0_4
  clear hr0_1 hc0_1 hr0_2 hc0_2 hr0_3 hc0_3 hr0_4 hc0_4
  go_enter Try.func4, Try.ntmps4
  go_wp2_with (first | (fail))
  have BK0 := Aside0.mk (show ((w.alloc (Obj.cells #[.int .i64 a0_0, .slice A0_1 l0_1.length c0_1, .slice A0_2 l0_2.length c0_2, .slice A0_3 l0_3.length c0_3, .slice A0_4 l0_4.length c0_4] 26)).alloc (Obj.cells #[.slice A0_1 l0_1.length c0_1, .slice A0_2 l0_2.length c0_2] 22)).heap[w.heap.size]? = some (.cells #[.int .i64 a0_0, .slice A0_1 l0_1.length c0_1, .slice A0_2 l0_2.length c0_2, .slice A0_3 l0_3.length c0_3, .slice A0_4 l0_4.length c0_4] 26 (0, 0)) from blk_alloc (blk_new w _) _)
  have BKr := Aside0.mk (show ((w.alloc (Obj.cells #[.int .i64 a0_0, .slice A0_1 l0_1.length c0_1, .slice A0_2 l0_2.length c0_2, .slice A0_3 l0_3.length c0_3, .slice A0_4 l0_4.length c0_4] 26)).alloc (Obj.cells #[.slice A0_1 l0_1.length c0_1, .slice A0_2 l0_2.length c0_2] 22)).heap[w.heap.size + 1]? = some (.cells #[.slice A0_1 l0_1.length c0_1, .slice A0_2 l0_2.length c0_2] 22 (0, 0)) from by rw [← alloc_size w (Obj.cells #[.int .i64 a0_0, .slice A0_1 l0_1.length c0_1, .slice A0_2 l0_2.length c0_2, .slice A0_3 l0_3.length c0_3, .slice A0_4 l0_4.length c0_4] 26)]; exact blk_new _ _)
  have HB := Aside0.mk (below_alloc (below_alloc (Below.refl w.heap.size w) (Obj.cells #[.int .i64 a0_0, .slice A0_1 l0_1.length c0_1, .slice A0_2 l0_2.length c0_2, .slice A0_3 l0_3.length c0_3, .slice A0_4 l0_4.length c0_4] 26)) (Obj.cells #[.slice A0_1 l0_1.length c0_1, .slice A0_2 l0_2.length c0_2] 22))
  generalize ((w.alloc (Obj.cells #[.int .i64 a0_0, .slice A0_1 l0_1.length c0_1, .slice A0_2 l0_2.length c0_2, .slice A0_3 l0_3.length c0_3, .slice A0_4 l0_4.length c0_4] 26)).alloc (Obj.cells #[.slice A0_1 l0_1.length c0_1, .slice A0_2 l0_2.length c0_2] 22)) = w3 at BK0 BKr HB ⊢
  obtain ⟨rb, hrb⟩ : ∃ rb, rb = w.heap.size + 1 := ⟨_, rfl⟩
  rw [← hrb] at BKr ⊢
  clear hrb
  go_loopg [3, 22] 2 (fun kq v3 v22 w' => ∃ (i : Nat) (n : Int), v3 = .int .i64 n ∧ v22 = .int .i64 i ∧ Aside0 (i + kq = 2) ∧ i ≤ 2 ∧ Aside0 (([l0_1, l0_2].drop i).foldl sumI n = T2) ∧ Aside0 (w'.heap[rb]? = some (.cells #[.slice A0_1 l0_1.length c0_1, .slice A0_2 l0_2.length c0_2] 22 (0, 0))) ∧ Aside0 (w'.heap[w.heap.size]? = some (.cells #[.int .i64 a0_0, .slice A0_1 l0_1.length c0_1, .slice A0_2 l0_2.length c0_2, .slice A0_3 l0_3.length c0_3, .slice A0_4 l0_4.length c0_4] 26 (0, 0))) ∧ Aside0 (Below w.heap.size w w'))
  case atStart => exact ⟨0, 0, rfl, rfl, ⟨by omega⟩, by omega, HT2, BKr, BK0, HB⟩
  case round =>
  clear HT2 BK0 HB BKr
  obtain ⟨i1, n1, rfl, rfl, HK1, hi1, HF1, BKr, BK0, HB⟩ := hrel
  by_cases hlt1 : i1 < 2
  · have hlt' : decide ((i1 : Int) < 2) = true := decide_eq_true (by omega)
    obtain ⟨kk1, rfl⟩ : ∃ m, gk = m + 1 := ⟨gk - 1, by have := HK1.out; omega⟩
    have p101 : 0 ≤ (i1 : Int) := Int.natCast_nonneg i1
    have q101 : (i1 : Int) < 2 := by omega
    obtain ⟨A, c, l, hc1, hC, hdr⟩ : ∃ (A : Option Addr) (c : Nat) (l : List S40), wr.cell? ⟨rb, i1, none⟩ = some (.slice A l.length c) ∧ Kd.C k40 w A l.length l ∧ [l0_1, l0_2].drop i1 = l :: [l0_1, l0_2].drop (i1 + 1) := by
      have h : i1 = 0 ∨ i1 = 1 := by omega
      rcases h with rfl | rfl
      · exact ⟨_, _, l0_1, blk_cell BKr.out 0, HR1.out, rfl⟩
      · exact ⟨_, _, l0_2, blk_cell BKr.out 1, HR2.out, rfl⟩
    have HC := Aside0.mk hC
    obtain ⟨T1, hT1⟩ : ∃ T1, T1 = sumI n1 l := ⟨_, rfl⟩
    have HF2 := Aside0.mk (show ([l0_1, l0_2].drop (i1 + 1)).foldl sumI T1 = T2 by have h := HF1.out; rw [hdr] at h; rw [hT1]; exact h)
    have HT1 := Aside0.mk hT1.symm
    clear HF1 hdr hC hT1
    have HF1 := HF2
    clear HF2
    replace p101 := eq_true p101
    replace q101 := eq_true q101
    go_wp2_with (first | (fail))
    go_loopg [3, 28] l.length (fun kq v3 v28 w' => ∃ (i : Nat) (n : Int), v3 = .int .i64 n ∧ v28 = .int .i64 i ∧ Aside0 (i + kq = l.length) ∧ i ≤ l.length ∧ Aside0 (sumI n (l.drop i) = T1) ∧ Aside0 (w'.heap[rb]? = some (.cells #[.slice A0_1 l0_1.length c0_1, .slice A0_2 l0_2.length c0_2] 22 (0, 0))) ∧ Aside0 (w'.heap[w.heap.size]? = some (.cells #[.int .i64 a0_0, .slice A0_1 l0_1.length c0_1, .slice A0_2 l0_2.length c0_2, .slice A0_3 l0_3.length c0_3, .slice A0_4 l0_4.length c0_4] 26 (0, 0))) ∧ Aside0 (Below w.heap.size w w'))
    case atStart => exact ⟨0, _, rfl, rfl, ⟨by omega⟩, Nat.zero_le _, HT1, BKr, BK0, HB⟩
    case round =>
    clear HT1 BKr BK0 HB
    obtain ⟨i2, n2, rfl, rfl, HK2, hi2, HF2, BKr, BK0, HB⟩ := hrel
    by_cases hlt2 : i2 < l.length
    · have hlt' : decide ((i2 : Int) < (l.length : Int)) = true := by simpa using hlt2
      obtain ⟨kk2, rfl⟩ : ∃ m, gk = m + 1 := ⟨gk - 1, by have := HK2.out; omega⟩
      have p101 : 0 ≤ (i2 : Int) := Int.natCast_nonneg i2
      have q101 : (i2 : Int) < (l.length : Int) := by omega
      obtain ⟨x2, hx2⟩ : ∃ x, x = l[i2] := ⟨_, rfl⟩
      have hdr : l.drop i2 = x2 :: l.drop (i2 + 1) := by rw [List.drop_eq_getElem_cons hlt2, hx2]
      have HFx := Aside0.mk (show sumI (stepI n2 x2) (l.drop (i2 + 1)) = T1 by have h := HF2.out; rw [hdr] at h; exact h)
      have Hw2 : Aside0 (wrap64 ((i2 : Int) + 1) = (i2 : Int) + 1) := ⟨by have h := (Kd.C_below HC.out HB.out).2.1; exact wrap64_id (by omega) (by omega)⟩
      obtain ⟨ad2, A2_2, c2_2, e101, h2_0, h2_1, h2_2, hl2_2, hi2_2⟩ := at_T40 (Kd.C_below HC.out HB.out) (i2 : Int) p101 q101
      cases e101
      rw [Int.toNat_natCast] at h2_0 h2_1 h2_2
      have hr : rd_T40 l (i2 : Int) = x2 := by rw [hx2]; simp [rd_T40, hlt2]
      rw [hr] at h2_0 h2_1 h2_2 hl2_2 hi2_2
      clear HF2 hdr hr hx2
      have HF2 := HFx
      clear HFx
      replace p101 := eq_true p101
      replace q101 := eq_true q101
      go_wp2_with (first | (fail))
      go_roundg kk2
      case measure => have := HK2.out; omega
      case rel => exact ⟨i2 + 1, _, rfl, by rw [Hw2.out]; rfl, ⟨by have := HK2.out; omega⟩, by omega, HF2, ⟨blk_alloc BKr.out _⟩, ⟨blk_alloc BK0.out _⟩, ⟨below_alloc HB.out _⟩⟩
    · have hlt' : decide ((i2 : Int) < (l.length : Int)) = false := by simpa using hlt2
      have HN := Aside0.mk (show n2 = T1 by have h := HF2.out; rw [List.drop_of_length_le (by omega)] at h; exact h)
      go_wp2_with (first | (fail))
      go_roundg kk1
      case measure => have := HK1.out; omega
      case rel => exact ⟨i1 + 1, _, rfl, by first | rfl | (rw [show wrap64 ((i1 : Int) + 1) = (i1 : Int) + 1 from wrap64_id (by omega) (by omega)]; rfl), ⟨by have := HK1.out; omega⟩, by omega, ⟨by rw [HN.out]; exact HF1.out⟩, BKr, BK0, HB⟩
  · have hlt' : decide ((i1 : Int) < 2) = false := decide_eq_false (by omega)
    have HN1 := Aside0.mk (show n1 = T2 by have h := HF1.out; rw [List.drop_of_length_le (by simp; omega)] at h; exact h)
    have g3 : wr.cell? ⟨w.heap.size, 3, none⟩ = some (.slice A0_3 l0_3.length c0_3) := blk_cell BK0.out 3
    go_wp2_with (first | (fail))
    have HTT := Aside0.mk (show sumT n1 (l0_3.drop 0) = T3 by rw [HN1.out]; exact HT3.out)
    clear g3 HF1 HT3 HN1
    go_loopg [3, 47] l0_3.length (fun kq v3 v47 w' => ∃ (i : Nat) (n : Int), v3 = .int .i64 n ∧ v47 = .int .i64 i ∧ Aside0 (i + kq = l0_3.length) ∧ i ≤ l0_3.length ∧ Aside0 (sumT n (l0_3.drop i) = T3) ∧ Aside0 (w'.heap[w.heap.size]? = some (.cells #[.int .i64 a0_0, .slice A0_1 l0_1.length c0_1, .slice A0_2 l0_2.length c0_2, .slice A0_3 l0_3.length c0_3, .slice A0_4 l0_4.length c0_4] 26 (0, 0))) ∧ Aside0 (Below w.heap.size w w'))
    case atStart => exact ⟨0, _, rfl, rfl, ⟨by omega⟩, Nat.zero_le _, HTT, BK0, HB⟩
    case round =>
    clear HTT BK0 HB
    obtain ⟨i3, n3, rfl, rfl, HK3, hi3, HF3, BK0, HB⟩ := hrel
    by_cases hlt3 : i3 < l0_3.length
    · have hlt' : decide ((i3 : Int) < (l0_3.length : Int)) = true := by simpa using hlt3
      obtain ⟨kk3, rfl⟩ : ∃ m, gk = m + 1 := ⟨gk - 1, by have := HK3.out; omega⟩
      have p101 : 0 ≤ (i3 : Int) := Int.natCast_nonneg i3
      have q101 : (i3 : Int) < (l0_3.length : Int) := by omega
      obtain ⟨x3, hx3⟩ : ∃ x, x = l0_3[i3] := ⟨_, rfl⟩
      have hdr : l0_3.drop i3 = x3 :: l0_3.drop (i3 + 1) := by rw [List.drop_eq_getElem_cons hlt3, hx3]
      have HFx := Aside0.mk (show sumT (stepT n3 x3) (l0_3.drop (i3 + 1)) = T3 by have h := HF3.out; rw [hdr] at h; exact h)
      have Hw3 : Aside0 (wrap64 ((i3 : Int) + 1) = (i3 : Int) + 1) := ⟨by have h := (Kd.C_below HR3.out HB.out).2.1; exact wrap64_id (by omega) (by omega)⟩
      obtain ⟨ad3, A3_2, c3_2, e101, h3_0, h3_1, h3_2, h3_3, hl3_2, hi3_2⟩ := at_T42 (Kd.C_below HR3.out HB.out) (i3 : Int) p101 q101
      cases e101
      rw [Int.toNat_natCast] at h3_0 h3_1 h3_2 h3_3
      have hr : rd_T42 l0_3 (i3 : Int) = x3 := by rw [hx3]; simp [rd_T42, hlt3]
      rw [hr] at h3_0 h3_1 h3_2 h3_3 hl3_2 hi3_2
      clear HF3 hdr hr hx3
      have HF3 := HFx
      clear HFx
      replace p101 := eq_true p101
      replace q101 := eq_true q101
      go_wp2_with (first | (fail))
      go_roundg kk3
      case measure => have := HK3.out; omega
      case rel => exact ⟨i3 + 1, _, rfl, by rw [Hw3.out]; rfl, ⟨by have := HK3.out; omega⟩, by omega, HF3, ⟨blk_alloc BK0.out _⟩, ⟨below_alloc HB.out _⟩⟩
    · have hlt' : decide ((i3 : Int) < (l0_3.length : Int)) = false := by simpa using hlt3
      have HN := Aside0.mk (show n3 = T3 by have h := HF3.out; rw [List.drop_of_length_le (by omega)] at h; exact h)
      have g4 : wr.cell? ⟨w.heap.size, 4, none⟩ = some (.slice A0_4 l0_4.length c0_4) := blk_cell BK0.out 4
      go_wp2_with (first | (fail))
      have HTD := Aside0.mk (show sumD n3 (l0_4.drop 0) = T4 by rw [HN.out]; exact HT4.out)
      clear g4 HN HF3 HT4
      go_loopg [3, 69] l0_4.length (fun kq v3 v69 w' => ∃ (i : Nat) (n : Int), v3 = .int .i64 n ∧ v69 = .int .i64 i ∧ Aside0 (i + kq = l0_4.length) ∧ i ≤ l0_4.length ∧ Aside0 (sumD n (l0_4.drop i) = T4) ∧ Aside0 (w'.heap[w.heap.size]? = some (.cells #[.int .i64 a0_0, .slice A0_1 l0_1.length c0_1, .slice A0_2 l0_2.length c0_2, .slice A0_3 l0_3.length c0_3, .slice A0_4 l0_4.length c0_4] 26 (0, 0))) ∧ Aside0 (Below w.heap.size w w'))
      case atStart => exact ⟨0, _, rfl, rfl, ⟨by omega⟩, Nat.zero_le _, HTD, BK0, HB⟩
      case round =>
      clear HTD BK0 HB
      obtain ⟨i4, n4, rfl, rfl, HK4, hi4, HF4, BK0, HB⟩ := hrel
      by_cases hlt4 : i4 < l0_4.length
      · have hlt' : decide ((i4 : Int) < (l0_4.length : Int)) = true := by simpa using hlt4
        obtain ⟨kk4, rfl⟩ : ∃ m, gk = m + 1 := ⟨gk - 1, by have := HK4.out; omega⟩
        have p101 : 0 ≤ (i4 : Int) := Int.natCast_nonneg i4
        have q101 : (i4 : Int) < (l0_4.length : Int) := by omega
        obtain ⟨x4, hx4⟩ : ∃ x, x = l0_4[i4] := ⟨_, rfl⟩
        have hdr : l0_4.drop i4 = x4 :: l0_4.drop (i4 + 1) := by rw [List.drop_eq_getElem_cons hlt4, hx4]
        have HFx := Aside0.mk (show sumD (stepD n4 x4) (l0_4.drop (i4 + 1)) = T4 by have h := HF4.out; rw [hdr] at h; exact h)
        have Hw4 : Aside0 (wrap64 ((i4 : Int) + 1) = (i4 : Int) + 1) := ⟨by have h := (Kd.C_below HR4.out HB.out).2.1; exact wrap64_id (by omega) (by omega)⟩
        obtain ⟨ad4, A4_1, c4_1, A4_3, c4_3, e101, h4_0, h4_1, h4_2, h4_3, hl4_1, hi4_1, hl4_3, hi4_3⟩ := at_T46 (Kd.C_below HR4.out HB.out) (i4 : Int) p101 q101
        cases e101
        rw [Int.toNat_natCast] at h4_0 h4_1 h4_2 h4_3
        have hr : rd_T46 l0_4 (i4 : Int) = x4 := by rw [hx4]; simp [rd_T46, hlt4]
        rw [hr] at h4_0 h4_1 h4_2 h4_3 hl4_1 hi4_1 hl4_3 hi4_3
        clear HF4 hdr hr hx4
        have HF4 := HFx
        clear HFx
        replace p101 := eq_true p101
        replace q101 := eq_true q101
        have HI1 := Aside0.mk hi4_1
        have HI3 := Aside0.mk hi4_3
        clear hi4_1 hl4_1 hi4_3 hl4_3
        obtain ⟨TS, hTS⟩ : ∃ TS, TS = sumSt (wrap64 (n4 + wrap64 (wrap64 (1 + (x4.f0.size : Int)) + (x4.f2.size : Int)))) x4.f1 := ⟨_, rfl⟩
        obtain ⟨TA, hTA⟩ : ∃ TA, TA = sumA TS x4.f3 := ⟨_, rfl⟩
        have HFD := Aside0.mk (show sumD TA (l0_4.drop (i4 + 1)) = T4 by have h := HF4.out; unfold stepD at h; rw [← hTS, ← hTA] at h; exact h)
        have HTS := Aside0.mk (show sumSt (wrap64 (n4 + wrap64 (wrap64 (1 + (x4.f0.size : Int)) + (x4.f2.size : Int)))) (x4.f1.drop 0) = TS from hTS.symm)
        have HTA := Aside0.mk (show sumA TS (x4.f3.drop 0) = TA from hTA.symm)
        clear hTS hTA HF4
        go_wp2_with (first | (fail))
        have BKd := Aside0.mk (show (wr.alloc (Obj.cells #[Value.string x4.f0, Value.slice A4_1 x4.f1.length c4_1, Value.string x4.f2, Value.slice A4_3 x4.f3.length c4_3] 46)).heap[wr.heap.size]? = some (.cells #[Value.string x4.f0, Value.slice A4_1 x4.f1.length c4_1, Value.string x4.f2, Value.slice A4_3 x4.f3.length c4_3] 46 (0, 0)) from blk_new _ _)
        have hbn := below_alloc (Below.refl wr.heap.size wr) (Obj.cells #[Value.string x4.f0, Value.slice A4_1 x4.f1.length c4_1, Value.string x4.f2, Value.slice A4_3 x4.f3.length c4_3] 46)
        have n0_ := Aside0.mk (below_step HB.out hbn)
        have n1_ := Aside0.mk (blk_below BK0.out hbn)
        have n2_ := Aside0.mk (Kd.C_below HI1.out hbn)
        have n3_ := Aside0.mk (Kd.C_below HI3.out hbn)
        clear HB BK0 HI1 HI3 hbn
        have HB := n0_; have BK0 := n1_; have HI1 := n2_; have HI3 := n3_
        clear n0_ n1_ n2_ n3_
        obtain ⟨db, hdb⟩ : ∃ db, db = wr.heap.size := ⟨_, rfl⟩
        rw [← hdb] at BKd ⊢
        clear hdb
        generalize wr.alloc (Obj.cells #[Value.string x4.f0, Value.slice A4_1 x4.f1.length c4_1, Value.string x4.f2, Value.slice A4_3 x4.f3.length c4_3] 46) = w5 at HB BK0 HI1 HI3 BKd ⊢
        go_loopg [3, 86] x4.f1.length (fun kq v3 v86 w' => ∃ (i : Nat) (n : Int), v3 = .int .i64 n ∧ v86 = .int .i64 i ∧ Aside0 (i + kq = x4.f1.length) ∧ i ≤ x4.f1.length ∧ Aside0 (sumSt n (x4.f1.drop i) = TS) ∧ Aside0 (w'.heap[db]? = some (.cells #[Value.string x4.f0, Value.slice A4_1 x4.f1.length c4_1, Value.string x4.f2, Value.slice A4_3 x4.f3.length c4_3] 46 (0, 0))) ∧ Aside0 (Below w5.heap.size w5 w') ∧ Aside0 (w'.heap[w.heap.size]? = some (.cells #[.int .i64 a0_0, .slice A0_1 l0_1.length c0_1, .slice A0_2 l0_2.length c0_2, .slice A0_3 l0_3.length c0_3, .slice (some ad4) l0_4.length c0_4] 26 (0, 0))) ∧ Aside0 (Below w.heap.size w w'))
        case atStart => exact ⟨0, _, rfl, rfl, ⟨by omega⟩, Nat.zero_le _, HTS, BKd, ⟨Below.refl _ _⟩, BK0, HB⟩
        case round =>
        clear HTS BKd BK0 HB
        obtain ⟨i5, n5, rfl, rfl, HK5, hi5, HF5, BKd, HB5, BK0, HB⟩ := hrel
        by_cases hlt5 : i5 < x4.f1.length
        · have hlt' : decide ((i5 : Int) < (x4.f1.length : Int)) = true := by simpa using hlt5
          obtain ⟨kk5, rfl⟩ : ∃ m, gk = m + 1 := ⟨gk - 1, by have := HK5.out; omega⟩
          have p101 : 0 ≤ (i5 : Int) := Int.natCast_nonneg i5
          have q101 : (i5 : Int) < (x4.f1.length : Int) := by omega
          obtain ⟨x5, hx5⟩ : ∃ x, x = x4.f1[i5] := ⟨_, rfl⟩
          have hdr : x4.f1.drop i5 = x5 :: x4.f1.drop (i5 + 1) := by rw [List.drop_eq_getElem_cons hlt5, hx5]
          have HFx := Aside0.mk (show sumSt (stepS n5 x5) (x4.f1.drop (i5 + 1)) = TS by have h := HF5.out; rw [hdr] at h; exact h)
          have Hw5 : Aside0 (wrap64 ((i5 : Int) + 1) = (i5 : Int) + 1) := ⟨by have h := (Kd.C_below HI1.out HB5.out).2.1; exact wrap64_id (by omega) (by omega)⟩
          obtain ⟨ad, e101, h5_0⟩ := Kd.at_string (Kd.C_below HI1.out HB5.out) (i5 : Int) p101 q101
          cases e101
          rw [Int.toNat_natCast] at h5_0
          have hr : rdOf ByteArray.empty x4.f1 (i5 : Int) = x5 := by rw [hx5]; simp [rdOf, hlt5]
          rw [hr] at h5_0
          clear HF5 hdr hr hx5
          have HF5 := HFx
          clear HFx
          replace p101 := eq_true p101
          replace q101 := eq_true q101
          go_wp2_with (first | (fail))
          go_roundg kk5
          case measure => have := HK5.out; omega
          case rel => exact ⟨i5 + 1, _, rfl, by rw [Hw5.out]; rfl, ⟨by have := HK5.out; omega⟩, by omega, HF5, BKd, HB5, BK0, HB⟩
        · have hlt' : decide ((i5 : Int) < (x4.f1.length : Int)) = false := by simpa using hlt5
          have HN := Aside0.mk (show n5 = TS by have h := HF5.out; rw [List.drop_of_length_le (by omega)] at h; exact h)
          have g5 : wr.cell? ⟨db, 3, none⟩ = some (.slice A4_3 x4.f3.length c4_3) := blk_cell BKd.out 3
          go_wp2_with (first | (fail))
          have HTB := Aside0.mk (show sumA n5 (x4.f3.drop 0) = TA by rw [HN.out]; exact HTA.out)
          clear g5 HN HF5 HTA
          go_loopg [3, 99] x4.f3.length (fun kq v3 v99 w' => ∃ (i : Nat) (n : Int), v3 = .int .i64 n ∧ v99 = .int .i64 i ∧ Aside0 (i + kq = x4.f3.length) ∧ i ≤ x4.f3.length ∧ Aside0 (sumA n (x4.f3.drop i) = TA) ∧ Aside0 (Below w5.heap.size w5 w') ∧ Aside0 (w'.heap[w.heap.size]? = some (.cells #[.int .i64 a0_0, .slice A0_1 l0_1.length c0_1, .slice A0_2 l0_2.length c0_2, .slice A0_3 l0_3.length c0_3, .slice (some ad4) l0_4.length c0_4] 26 (0, 0))) ∧ Aside0 (Below w.heap.size w w'))
          case atStart => exact ⟨0, _, rfl, rfl, ⟨by omega⟩, Nat.zero_le _, HTB, HB5, BK0, HB⟩
          case round =>
          clear HTB HB5 BK0 HB
          obtain ⟨i6, n6, rfl, rfl, HK6, hi6, HF6, HB5, BK0, HB⟩ := hrel
          by_cases hlt6 : i6 < x4.f3.length
          · have hlt' : decide ((i6 : Int) < (x4.f3.length : Int)) = true := by simpa using hlt6
            obtain ⟨kk6, rfl⟩ : ∃ m, gk = m + 1 := ⟨gk - 1, by have := HK6.out; omega⟩
            have p101 : 0 ≤ (i6 : Int) := Int.natCast_nonneg i6
            have q101 : (i6 : Int) < (x4.f3.length : Int) := by omega
            obtain ⟨x6, hx6⟩ : ∃ x, x = x4.f3[i6] := ⟨_, rfl⟩
            have hdr : x4.f3.drop i6 = x6 :: x4.f3.drop (i6 + 1) := by rw [List.drop_eq_getElem_cons hlt6, hx6]
            have HFx := Aside0.mk (show sumA (stepA n6 x6) (x4.f3.drop (i6 + 1)) = TA by have h := HF6.out; rw [hdr] at h; exact h)
            have Hw6 : Aside0 (wrap64 ((i6 : Int) + 1) = (i6 : Int) + 1) := ⟨by have h := (Kd.C_below HI3.out HB5.out).2.1; exact wrap64_id (by omega) (by omega)⟩
            obtain ⟨ad6, A6_3, c6_3, e101, h6_0, h6_1, h6_2, h6_3, hl6_3, hi6_3⟩ := at_T48 (Kd.C_below HI3.out HB5.out) (i6 : Int) p101 q101
            cases e101
            rw [Int.toNat_natCast] at h6_0 h6_1 h6_2 h6_3
            have hr : rd_T48 x4.f3 (i6 : Int) = x6 := by rw [hx6]; simp [rd_T48, hlt6]
            rw [hr] at h6_0 h6_1 h6_2 h6_3 hl6_3 hi6_3
            clear HF6 hdr hr hx6
            have HF6 := HFx
            clear HFx
            replace p101 := eq_true p101
            replace q101 := eq_true q101
            go_wp2_with (first | (fail))
            go_roundg kk6
            case measure => have := HK6.out; omega
            case rel => exact ⟨i6 + 1, _, rfl, by rw [Hw6.out]; rfl, ⟨by have := HK6.out; omega⟩, by omega, HF6, ⟨below_alloc HB5.out _⟩, ⟨blk_alloc BK0.out _⟩, ⟨below_alloc HB.out _⟩⟩
          · have hlt' : decide ((i6 : Int) < (x4.f3.length : Int)) = false := by simpa using hlt6
            have HN := Aside0.mk (show n6 = TA by have h := HF6.out; rw [List.drop_of_length_le (by omega)] at h; exact h)
            go_wp2_with (first | (fail))
            go_roundg kk4
            case measure => have := HK4.out; omega
            case rel => exact ⟨i4 + 1, _, rfl, by rw [Hw4.out]; rfl, ⟨by have := HK4.out; omega⟩, by omega, ⟨by rw [HN.out]; exact HFD.out⟩, BK0, HB⟩
      · have hlt' : decide ((i4 : Int) < (l0_4.length : Int)) = false := by simpa using hlt4
        have HN := Aside0.mk (show n4 = T4 by have h := HF4.out; rw [List.drop_of_length_le (by omega)] at h; exact h)
        have HD := Aside0.mk (show decide (n4 ≤ 6000) = decide (T4 ≤ 6000) by rw [HN.out])
        go_wp2_with (first | (fail))
        go_ret
        exact ⟨by rw [← HD.out]; rfl, HB.out⟩
end Go.Proofs.Ytfejdnkmmjffcaa.X
