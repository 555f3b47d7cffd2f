import Derived.Test.YtgmggompdidcoaaDoorMStoreReads2
import Derived.Test.YtgmggompdidcoaaDoorMStoreReads3
namespace Go.Proofs.YtgmggompdidcoaaDoor.X
open Go.RowKit Go.Proofs.YtgmggompdidcoaaDoorW.PrintWords Go.Proofs.YtgmggompdidcoaaDoorW.PrintLast Go.Proofs.YtgmggompdidcoaaDoorW.PrintMore
attribute [local go_sem] max2_int min2_int max_two min_two max_three min_three max_four min_four
set_option linter.unusedVariables false
set_option linter.unusedSimpArgs false
mutual
def agateref08_New.l0 : Nat → List (S43) → Int → Option (Int)
 | 0, _, _ => none
 | k + 1, x0, x3 => if x3 < (x0.length : Int) then (if 0 ≤ x3 then ((agateref08_Key.f k ((rd_T43 x0 x3).f0)).bind fun t102 => (if t102 = true then (agateref08_New.l1 k x0 x3 0) else (some 9))) else (none)) else (some 0)
def agateref08_New.l1 : Nat → List (S43) → Int → Int → Option (Int)
 | 0, _, _, _ => none
 | k + 1, x0, x3, x4 => if x4 < x3 then (if 0 ≤ x4 then (if x4 < (x0.length : Int) then (if 0 ≤ x3 then (if x3 < (x0.length : Int) then (if ((rd_T43 x0 x4).f0).toList = ((rd_T43 x0 x3).f0).toList then (some 14) else (agateref08_New.l1 k x0 x3 (wrap64 (x4 + 1)))) else (none)) else (none)) else (none)) else (none)) else (agateref08_New.l0 k x0 (wrap64 (x3 + 1)))
end
def agateref08_New.f (k : Nat) (l0 : List (S43)) : Option (Int) := if (l0.length : Int) > 64 then (some 7) else (agateref08_New.l0 k l0 0)
attribute [local irreducible] Calls
set_option maxHeartbeats 8000000 in
set_option maxRecDepth 100000 in
theorem agateref08_New.calls (k : Nat) (A0 : Option Addr) (c0 : Nat) (l0 : List (S43)) (r : Int) (w : World) (hr0 : Kd.C k43 w A0 l0.length l0) (hc0 : l0.length ≤ c0) (h : agateref08_New.f k l0 = some r) :
  Calls Tryd.prog 7 #[.slice A0 l0.length c0] w fun e w' => e = .returned (.int .i64 r) ∧ Drawn0 w w' := by
 have HR0 := mk0 hr0; have HC0 := mk0 hc0; clear hr0 hc0; have H : (if (l0.length : Int) > 64 then (some 7) else (agateref08_New.l0 k l0 0)) = some r := h; clear h
 by_cases c2 : (l0.length : Int) > 64
 ·
  rw [if_pos c2] at H; have c2b0 := decide_eq_true c2; have c2b1 : decide (64 < l0.length) = true := decide_eq_true (by omega); clear c2; obtain rfl := Option.some.inj H
  go_enter Tryd.func7, Tryd.ntmps7
  go_wp2
  repeat (go_quiet (fail); try go_wp2)
  go_ret
  exact ⟨by first | rfl | (simp; done) | (simp [*]; done), by repeat (first | exact Drawn0.refl _ | apply Drawn0.step)⟩
 ·
  rw [if_neg c2] at H; have c2b0 := decide_eq_false c2; have c2b1 : decide (64 < l0.length) = false := decide_eq_false (by omega); clear c2; have H' := mk0 H; clear H
  go_enter Tryd.func7, Tryd.ntmps7
  go_wp2
  repeat (go_quiet (fail); try go_wp2)
  go_loopg [3] k (fun kq v3 w' => ∃ (x3_1 : Int), v3 = .int .i64 x3_1 ∧ Aside0 (agateref08_New.l0 kq l0 x3_1 = some r) ∧ Aside0 (kq ≤ k) ∧ Drawn0 w w')
  case atStart => exact ⟨(0), cl0, H', ⟨Nat.le_refl _⟩, by repeat (first | exact Drawn0.refl _ | apply Drawn0.step)⟩
  case round =>
   clear H'; try clear c2; try clear c2b0; try clear c2b1
   obtain ⟨x3_1, rfl, HA, HK1, ⟨m1, rfl⟩⟩ := hrel
   cases gk with
   | zero => exact absurd HA.out (by simp [agateref08_New.l0])
   | succ k1 =>
    have H := HA.out; clear HA
    simp only [agateref08_New.l0] at H
    by_cases c3 : x3_1 < (l0.length : Int)
    ·
     rw [if_pos c3] at H; have c3b0 := decide_eq_true c3; clear c3; replace H := ifS H; obtain ⟨c4, H⟩ := H; have c4b0 := decide_eq_true c4; clear c4; replace H := bnd H; obtain ⟨t102, A5, H⟩ := H
     by_cases c6 : t102 = true
     ·
      subst c6; have H1 : (agateref08_New.l1 k1 l0 x3_1 0) = some r := by rw [if_pos rfl] at H; exact H
      clear H; have H := H1; clear H1; have H' := mk0 H; clear H; have p101 : 0 ≤ (x3_1 : Int) := ofd; have q101 : x3_1 < (l0.length : Int) := ofd; obtain ⟨ad101, e101, hx101_0, hx101_1⟩ := at_T43 HR0.out x3_1 p101 q101; cases e101; replace p101 := eq_true p101; replace q101 := eq_true q101
      go_wp2_with (first | (go_at_call 12; (with_reducible refine (agateref08_Key.calls k1 ((rd_T43 l0 x3_1).f0) true _ A5.out).mono ?_); rintro e w' ⟨rfl, ⟨nd, rfl⟩⟩; (try first | exact ⟨rfl, _, World.drewN_drewN _ _ _⟩ | exact ⟨rfl, _, Eq.trans (World.drewN_drewN _ _ _) (congrArg (World.drewN _) (Nat.add_assoc _ _ _))⟩)))
      repeat (go_quiet (first | (go_at_call 12; (with_reducible refine (agateref08_Key.calls k1 ((rd_T43 l0 x3_1).f0) true _ A5.out).mono ?_); rintro e w' ⟨rfl, ⟨nd, rfl⟩⟩; (try first | exact ⟨rfl, _, World.drewN_drewN _ _ _⟩ | exact ⟨rfl, _, Eq.trans (World.drewN_drewN _ _ _) (congrArg (World.drewN _) (Nat.add_assoc _ _ _))⟩))); try go_wp2_with (first | (go_at_call 12; (with_reducible refine (agateref08_Key.calls k1 ((rd_T43 l0 x3_1).f0) true _ A5.out).mono ?_); rintro e w' ⟨rfl, ⟨nd, rfl⟩⟩; (try first | exact ⟨rfl, _, World.drewN_drewN _ _ _⟩ | exact ⟨rfl, _, Eq.trans (World.drewN_drewN _ _ _) (congrArg (World.drewN _) (Nat.add_assoc _ _ _))⟩))))
      go_loopg [4] k1 (fun kq v4 w' => ∃ (x4_2 : Int), v4 = .int .i64 x4_2 ∧ Aside0 (agateref08_New.l1 kq l0 x3_1 x4_2 = some r) ∧ Aside0 (kq ≤ k1) ∧ Drawn0 w w')
      case atStart => exact ⟨(0), cl0, H', ⟨Nat.le_refl _⟩, by repeat (first | exact Drawn0.refl _ | apply Drawn0.step)⟩
      case round =>
       clear H'; try clear c2; try clear c2b0; try clear c2b1; try clear c3; try clear c3b0; try clear c4; try clear c4b0; try clear c6; try clear hx101_0; try clear hx101_1; try clear p101; try clear q101
       obtain ⟨x4_2, rfl, HA, HK2, ⟨m2, rfl⟩⟩ := hrel
       cases gk with
       | zero => exact absurd HA.out (by simp [agateref08_New.l1])
       | succ k2 =>
        have H := HA.out; clear HA
        simp only [agateref08_New.l1] at H
        by_cases c7 : x4_2 < x3_1
        ·
         rw [if_pos c7] at H; have c7b0 := decide_eq_true c7; clear c7; replace H := ifS H; obtain ⟨c8, H⟩ := H; have c8b0 := decide_eq_true c8; clear c8; replace H := ifS H; obtain ⟨c9, H⟩ := H; have c9b0 := decide_eq_true c9; clear c9; replace H := ifS H; obtain ⟨c10, H⟩ := H; have c10b0 := decide_eq_true c10; clear c10; replace H := ifS H; obtain ⟨c11, H⟩ := H; have c11b0 := decide_eq_true c11; clear c11
         by_cases c12 : ((rd_T43 l0 x4_2).f0).toList = ((rd_T43 l0 x3_1).f0).toList
         ·
          rw [if_pos c12] at H; have c12b0 := beq_iff_eq.mpr c12; have c12b1 := bne_eq_false_iff_eq.mpr c12; clear c12; obtain rfl := Option.some.inj H; have p103 : 0 ≤ (x4_2 : Int) := ofd; have q103 : x4_2 < (l0.length : Int) := ofd; obtain ⟨ad103, e103, hx103_0, hx103_1⟩ := at_T43 HR0.out x4_2 p103 q103; obtain rfl : ad101 = ad103 := (by injection e103); replace p103 := eq_true p103; replace q103 := eq_true q103; have p104 : 0 ≤ (x3_1 : Int) := ofd; have q104 : x3_1 < (l0.length : Int) := ofd; obtain ⟨ad104, e104, hx104_0, hx104_1⟩ := at_T43 HR0.out x3_1 p104 q104; obtain rfl : ad101 = ad104 := (by injection e104); replace p104 := eq_true p104; replace q104 := eq_true q104
          go_wp2
          repeat (go_quiet (fail); try go_wp2)
          go_ret
          exact ⟨by first | rfl | (simp; done) | (simp [*]; done), by repeat (first | exact Drawn0.refl _ | apply Drawn0.step)⟩
         ·
          rw [if_neg c12] at H; have c12b0 := beq_eq_false_iff_ne.mpr c12; have c12b1 := bne_iff_ne.mpr c12; have H' := mk0 H; clear H; have p103 : 0 ≤ (x4_2 : Int) := ofd; have q103 : x4_2 < (l0.length : Int) := ofd; obtain ⟨ad103, e103, hx103_0, hx103_1⟩ := at_T43 HR0.out x4_2 p103 q103; obtain rfl : ad101 = ad103 := (by injection e103); replace p103 := eq_true p103; replace q103 := eq_true q103; have p104 : 0 ≤ (x3_1 : Int) := ofd; have q104 : x3_1 < (l0.length : Int) := ofd; obtain ⟨ad104, e104, hx104_0, hx104_1⟩ := at_T43 HR0.out x3_1 p104 q104; obtain rfl : ad101 = ad104 := (by injection e104); replace p104 := eq_true p104; replace q104 := eq_true q104
          go_wp2
          repeat (go_quiet (fail); try go_wp2)
          go_roundg k2
          case measure => have := HK1.out; have := HK2.out; omega
          case rel => exact ⟨(wrap64 (x4_2 + 1)), cl0, H', ⟨by have := HK1.out; have := HK2.out; omega⟩, by repeat (first | exact Drawn0.refl _ | apply Drawn0.step)⟩
        ·
         rw [if_neg c7] at H; have c7b0 := decide_eq_false c7; clear c7; have H' := mk0 H; clear H
         go_wp2
         repeat (go_quiet (fail); try go_wp2)
         go_roundg k2
         case measure => have := HK1.out; have := HK2.out; omega
         case rel => exact ⟨(wrap64 (x3_1 + 1)), cl0, H', ⟨by have := HK1.out; have := HK2.out; omega⟩, by repeat (first | exact Drawn0.refl _ | apply Drawn0.step)⟩
     ·
      replace c6 := Bool.eq_false_iff.mpr c6; subst c6; have H1 : (some 9) = some r := by rw [if_neg (show ¬ (false = true) by decide)] at H; exact H
      clear H; have H := H1; clear H1; obtain rfl := Option.some.inj H; have p101 : 0 ≤ (x3_1 : Int) := ofd; have q101 : x3_1 < (l0.length : Int) := ofd; obtain ⟨ad101, e101, hx101_0, hx101_1⟩ := at_T43 HR0.out x3_1 p101 q101; cases e101; replace p101 := eq_true p101; replace q101 := eq_true q101
      go_wp2_with (first | (go_at_call 12; (with_reducible refine (agateref08_Key.calls k1 ((rd_T43 l0 x3_1).f0) false _ A5.out).mono ?_); rintro e w' ⟨rfl, ⟨nd, rfl⟩⟩; (try first | exact ⟨rfl, _, World.drewN_drewN _ _ _⟩ | exact ⟨rfl, _, Eq.trans (World.drewN_drewN _ _ _) (congrArg (World.drewN _) (Nat.add_assoc _ _ _))⟩)))
      repeat (go_quiet (first | (go_at_call 12; (with_reducible refine (agateref08_Key.calls k1 ((rd_T43 l0 x3_1).f0) false _ A5.out).mono ?_); rintro e w' ⟨rfl, ⟨nd, rfl⟩⟩; (try first | exact ⟨rfl, _, World.drewN_drewN _ _ _⟩ | exact ⟨rfl, _, Eq.trans (World.drewN_drewN _ _ _) (congrArg (World.drewN _) (Nat.add_assoc _ _ _))⟩))); try go_wp2_with (first | (go_at_call 12; (with_reducible refine (agateref08_Key.calls k1 ((rd_T43 l0 x3_1).f0) false _ A5.out).mono ?_); rintro e w' ⟨rfl, ⟨nd, rfl⟩⟩; (try first | exact ⟨rfl, _, World.drewN_drewN _ _ _⟩ | exact ⟨rfl, _, Eq.trans (World.drewN_drewN _ _ _) (congrArg (World.drewN _) (Nat.add_assoc _ _ _))⟩))))
      go_ret
      exact ⟨by first | rfl | (simp; done) | (simp [*]; done), by repeat (first | exact Drawn0.refl _ | apply Drawn0.step)⟩
    ·
     rw [if_neg c3] at H; have c3b0 := decide_eq_false c3; clear c3; obtain rfl := Option.some.inj H
     go_wp2
     repeat (go_quiet (fail); try go_wp2)
     go_ret
     exact ⟨by first | rfl | (simp; done) | (simp [*]; done), by repeat (first | exact Drawn0.refl _ | apply Drawn0.step)⟩
end Go.Proofs.YtgmggompdidcoaaDoor.X
namespace Go.Proofs.YtgmggompdidcoaaDoor.X
open Go.RowKit Go.Proofs.YtgmggompdidcoaaDoorW.PrintWords Go.Proofs.YtgmggompdidcoaaDoorW.PrintLast Go.Proofs.YtgmggompdidcoaaDoorW.PrintMore
attribute [local go_sem] max2_int min2_int max_two min_two max_three min_three max_four min_four
set_option linter.unusedVariables false
set_option linter.unusedSimpArgs false
mutual
def agateref08_Read.j0 : Nat → List (S43) → ByteArray → Int → Int → Bool → Option (ByteArray × Int)
 | 0, _, _, _, _, _ => none
 | k + 1, x0, x1, x2, x3, x20 => if x20 = true then (some ((⟨#[]⟩ : ByteArray), 17)) else (agateref08_Read.l0 k x0 x1 x2 x3 0)
def agateref08_Read.l0 : Nat → List (S43) → ByteArray → Int → Int → Int → Option (ByteArray × Int)
 | 0, _, _, _, _, _ => none
 | k + 1, x0, x1, x2, x3, x10 => if x10 < (x0.length : Int) then (if 0 ≤ x10 then (if ((rd_T43 x0 x10).f0).toList = x1.toList then (if x2 > (((rd_T43 x0 x10).f1).size : Int) then (some ((⟨#[]⟩ : ByteArray), 1)) else (if x3 > (wrap64 ((((rd_T43 x0 x10).f1).size : Int) - x2)) then (some ((⟨#[]⟩ : ByteArray), 1)) else (if 0 ≤ x2 then (if x2 ≤ (wrap64 (x2 + x3)) then (if (wrap64 (x2 + x3)) ≤ (((rd_T43 x0 x10).f1).size : Int) then (some (((rd_T43 x0 x10).f1).extract (x2 : Int).toNat ((wrap64 (x2 + x3)) : Int).toNat, 0)) else (none)) else (none)) else (none)))) else (agateref08_Read.l0 k x0 x1 x2 x3 (wrap64 (x10 + 1)))) else (none)) else (some ((⟨#[]⟩ : ByteArray), 18))
end
def agateref08_Read.f (k : Nat) (l0 : List (S43)) (a1 : ByteArray) (a2 : Int) (a3 : Int) : Option (ByteArray × Int) := (agateref08_Key.f k a1).bind fun t101 => (if t101 = true then (if a2 < 0 then (agateref08_Read.j0 k l0 a1 a2 a3 true) else (agateref08_Read.j0 k l0 a1 a2 a3 (decide (a3 < 0)))) else (some ((⟨#[]⟩ : ByteArray), 9)))
set_option maxHeartbeats 8000000 in
set_option maxRecDepth 100000 in
theorem agateref08_Read.calls (k : Nat) (A0 : Option Addr) (c0 : Nat) (l0 : List (S43)) (a1 : ByteArray) (a2 : Int) (a3 : Int) (r1 : ByteArray) (r2 : Int) (w : World) (hr0 : Kd.C k43 w A0 l0.length l0) (hc0 : l0.length ≤ c0) (h : agateref08_Read.f k l0 a1 a2 a3 = some (r1, r2)) :
  Calls Tryd.prog 9 #[.slice A0 l0.length c0, .string a1, .int .i64 a2, .int .i64 a3] w fun e w' => e = .returned (.tuple #[.string r1, .int .i64 r2]) ∧ Drawn0 w w' := by
 have HR0 := mk0 hr0; have HC0 := mk0 hc0; clear hr0 hc0; have H : ((agateref08_Key.f k a1).bind fun t101 => (if t101 = true then (if a2 < 0 then (agateref08_Read.j0 k l0 a1 a2 a3 true) else (agateref08_Read.j0 k l0 a1 a2 a3 (decide (a3 < 0)))) else (some ((⟨#[]⟩ : ByteArray), 9)))) = some (r1, r2) := h; clear h; replace H := bnd H; obtain ⟨t101, A5, H⟩ := H
 by_cases c6 : t101 = true
 ·
  subst c6; have H1 : (if a2 < 0 then (agateref08_Read.j0 k l0 a1 a2 a3 true) else (agateref08_Read.j0 k l0 a1 a2 a3 (decide (a3 < 0)))) = some (r1, r2) := by rw [if_pos rfl] at H; exact H
  clear H; have H := H1; clear H1; have HC7 := mk0 H; clear H
  go_enter Tryd.func9, Tryd.ntmps9
  go_upto_region 3 with (first | ((with_reducible refine gate_callee (f := 12) rfl ?_); refine glE (some 13) rfl rfl Tryd.func12 (by kernel_rfl) rfl #[.string a1] rfl ?_; (with_reducible refine (agateref08_Key.calls k a1 true _ A5.out).mono ?_); rintro e w' ⟨rfl, ⟨nd, rfl⟩⟩; refine ⟨_, rfl, ?_⟩))
  (try simp only [Act.put, List.setIfInBounds_toArray, List.set_cons_zero, List.set_cons_succ])
  go_cut [20] (fun v20 wc => ∃ (kq : Nat) (x20_6 : Bool), v20 = .bool x20_6 ∧ Aside0 (agateref08_Read.j0 kq l0 a1 a2 a3 x20_6 = some (r1, r2)) ∧ Aside0 (kq ≤ k) ∧ Drawn0 w wc)
  case first =>
   have H := HC7.out; clear HC7
   by_cases c8 : a2 < 0
   ·
    rw [if_pos c8] at H; have c8b0 := decide_eq_true c8; clear c8
    (first | rw [c8b0] | (simp only [i64_w, i32_w]; rw [c8b0]) | skip)
    have H' := mk0 H; clear H
    go_wp2
    go_meet
    case rel => exact ⟨_, (true), cl0, H', cl1, by repeat (first | exact Drawn0.refl _ | apply Drawn0.step)⟩
   ·
    rw [if_neg c8] at H; have c8b0 := decide_eq_false c8; clear c8
    (first | rw [c8b0] | (simp only [i64_w, i32_w]; rw [c8b0]) | skip)
    have H' := mk0 H; clear H
    go_wp2
    go_meet
    case rel => exact ⟨_, (decide (a3 < 0)), cl0, H', cl1, by repeat (first | exact Drawn0.refl _ | apply Drawn0.step)⟩
  case rest =>
   clear HC7; try clear c6
   obtain ⟨kq, x20_6, rfl, HA, HJ6, ⟨mc6, rfl⟩⟩ := hcut
   cases kq with
   | zero => exact absurd HA.out (by simp [agateref08_Read.j0])
   | succ kj6 =>
    have H := HA.out; clear HA
    simp only [agateref08_Read.j0] at H
    by_cases c9 : x20_6 = true
    ·
     subst c9; have H1 : (some ((⟨#[]⟩ : ByteArray), 17)) = some (r1, r2) := by rw [if_pos rfl] at H; exact H
     clear H; have H := H1; clear H1
     simp only [Option.some.injEq, Prod.mk.injEq] at H
     obtain ⟨rfl, rfl⟩ := H
     go_wp2
     go_ret2
     exact ⟨by first | rfl | (simp; done) | (simp [*]; done), by repeat (first | exact Drawn0.refl _ | apply Drawn0.step)⟩
    ·
     replace c9 := Bool.eq_false_iff.mpr c9; subst c9; have H1 : (agateref08_Read.l0 kj6 l0 a1 a2 a3 0) = some (r1, r2) := by rw [if_neg (show ¬ (false = true) by decide)] at H; exact H
     clear H; have H := H1; clear H1; have H' := mk0 H; clear H
     go_wp2
     go_loopg [10] kj6 (fun kq v10 w' => ∃ (x10_2 : Int), v10 = .int .i64 x10_2 ∧ Aside0 (agateref08_Read.l0 kq l0 a1 a2 a3 x10_2 = some (r1, r2)) ∧ Aside0 (kq ≤ kj6) ∧ Drawn0 w w')
     case atStart => exact ⟨(0), cl0, H', ⟨Nat.le_refl _⟩, by repeat (first | exact Drawn0.refl _ | apply Drawn0.step)⟩
     case round =>
      clear H'; try clear c6; try clear c9
      obtain ⟨x10_2, rfl, HA, HK2, ⟨m2, rfl⟩⟩ := hrel
      cases gk with
      | zero => exact absurd HA.out (by simp [agateref08_Read.l0])
      | succ k2 =>
       have H := HA.out; clear HA
       simp only [agateref08_Read.l0] at H
       by_cases c10 : x10_2 < (l0.length : Int)
       ·
        rw [if_pos c10] at H; have c10b0 := decide_eq_true c10; clear c10; replace H := ifS H; obtain ⟨c11, H⟩ := H; have c11b0 := decide_eq_true c11; clear c11
        by_cases c12 : ((rd_T43 l0 x10_2).f0).toList = a1.toList
        ·
         rw [if_pos c12] at H; have c12b0 := beq_iff_eq.mpr c12; have c12b1 := bne_eq_false_iff_eq.mpr c12; clear c12
         by_cases c13 : a2 > (((rd_T43 l0 x10_2).f1).size : Int)
         ·
          rw [if_pos c13] at H; have c13b0 := decide_eq_true c13; clear c13
          simp only [Option.some.injEq, Prod.mk.injEq] at H
          obtain ⟨rfl, rfl⟩ := H; have p102 : 0 ≤ (x10_2 : Int) := ofd; have q102 : x10_2 < (l0.length : Int) := ofd; obtain ⟨ad102, e102, hx102_0, hx102_1⟩ := at_T43 HR0.out x10_2 p102 q102; cases e102; replace p102 := eq_true p102; replace q102 := eq_true q102; have p103 : 0 ≤ (x10_2 : Int) := ofd; have q103 : x10_2 < (l0.length : Int) := ofd; obtain ⟨ad103, e103, hx103_0, hx103_1⟩ := at_T43 HR0.out x10_2 p103 q103; obtain rfl : ad102 = ad103 := (by injection e103); replace p103 := eq_true p103; replace q103 := eq_true q103
          go_wp2
          go_ret2
          exact ⟨by first | rfl | (simp; done) | (simp [*]; done), by repeat (first | exact Drawn0.refl _ | apply Drawn0.step)⟩
         ·
          rw [if_neg c13] at H; have c13b0 := decide_eq_false c13; clear c13
          by_cases c14 : a3 > (wrap64 ((((rd_T43 l0 x10_2).f1).size : Int) - a2))
          ·
           rw [if_pos c14] at H; have c14b0 := decide_eq_true c14; clear c14
           simp only [Option.some.injEq, Prod.mk.injEq] at H
           obtain ⟨rfl, rfl⟩ := H; have p102 : 0 ≤ (x10_2 : Int) := ofd; have q102 : x10_2 < (l0.length : Int) := ofd; obtain ⟨ad102, e102, hx102_0, hx102_1⟩ := at_T43 HR0.out x10_2 p102 q102; cases e102; replace p102 := eq_true p102; replace q102 := eq_true q102; have p103 : 0 ≤ (x10_2 : Int) := ofd; have q103 : x10_2 < (l0.length : Int) := ofd; obtain ⟨ad103, e103, hx103_0, hx103_1⟩ := at_T43 HR0.out x10_2 p103 q103; obtain rfl : ad102 = ad103 := (by injection e103); replace p103 := eq_true p103; replace q103 := eq_true q103
           go_wp2
           go_ret2
           exact ⟨by first | rfl | (simp; done) | (simp [*]; done), by repeat (first | exact Drawn0.refl _ | apply Drawn0.step)⟩
          ·
           rw [if_neg c14] at H; have c14b0 := decide_eq_false c14; clear c14; replace H := ifS H; obtain ⟨c15, H⟩ := H; have c15b0 := eq_true c15; have c15b1 := decide_eq_true c15; clear c15; replace H := ifS H; obtain ⟨c16, H⟩ := H; have c16b0 := eq_true c16; have c16b1 := decide_eq_true c16; replace H := ifS H; obtain ⟨c17, H⟩ := H; have c17b0 := eq_true c17; have c17b1 := decide_eq_true c17
           simp only [Option.some.injEq, Prod.mk.injEq] at H
           obtain ⟨rfl, rfl⟩ := H; have p102 : 0 ≤ (x10_2 : Int) := ofd; have q102 : x10_2 < (l0.length : Int) := ofd; obtain ⟨ad102, e102, hx102_0, hx102_1⟩ := at_T43 HR0.out x10_2 p102 q102; cases e102; replace p102 := eq_true p102; replace q102 := eq_true q102; have p103 : 0 ≤ (x10_2 : Int) := ofd; have q103 : x10_2 < (l0.length : Int) := ofd; obtain ⟨ad103, e103, hx103_0, hx103_1⟩ := at_T43 HR0.out x10_2 p103 q103; obtain rfl : ad102 = ad103 := (by injection e103); replace p103 := eq_true p103; replace q103 := eq_true q103
           go_wp2
           go_ret2
           exact ⟨by first | rfl | (simp; done) | (simp [*]; done), by repeat (first | exact Drawn0.refl _ | apply Drawn0.step)⟩
        ·
         rw [if_neg c12] at H; have c12b0 := beq_eq_false_iff_ne.mpr c12; have c12b1 := bne_iff_ne.mpr c12; have H' := mk0 H; clear H; have p102 : 0 ≤ (x10_2 : Int) := ofd; have q102 : x10_2 < (l0.length : Int) := ofd; obtain ⟨ad102, e102, hx102_0, hx102_1⟩ := at_T43 HR0.out x10_2 p102 q102; cases e102; replace p102 := eq_true p102; replace q102 := eq_true q102
         go_wp2
         go_roundg k2
         case measure => have := HJ6.out; have := HK2.out; omega
         case rel => exact ⟨(wrap64 (x10_2 + 1)), cl0, H', ⟨by have := HJ6.out; have := HK2.out; omega⟩, by repeat (first | exact Drawn0.refl _ | apply Drawn0.step)⟩
       ·
        rw [if_neg c10] at H; have c10b0 := decide_eq_false c10; clear c10
        simp only [Option.some.injEq, Prod.mk.injEq] at H
        obtain ⟨rfl, rfl⟩ := H
        go_wp2
        go_ret2
        exact ⟨by first | rfl | (simp; done) | (simp [*]; done), by repeat (first | exact Drawn0.refl _ | apply Drawn0.step)⟩
 ·
  replace c6 := Bool.eq_false_iff.mpr c6; subst c6; have H1 : (some ((⟨#[]⟩ : ByteArray), 9)) = some (r1, r2) := by rw [if_neg (show ¬ (false = true) by decide)] at H; exact H
  clear H; have H := H1; clear H1
  simp only [Option.some.injEq, Prod.mk.injEq] at H
  obtain ⟨rfl, rfl⟩ := H
  go_enter Tryd.func9, Tryd.ntmps9
  go_wp2_with (first | ((with_reducible refine gate_callee (f := 12) rfl ?_); refine glE (some 13) rfl rfl Tryd.func12 (by kernel_rfl) rfl #[.string a1] rfl ?_; (with_reducible refine (agateref08_Key.calls k a1 false _ A5.out).mono ?_); rintro e w' ⟨rfl, ⟨nd, rfl⟩⟩; refine ⟨_, rfl, ?_⟩))
  go_ret2
  exact ⟨by first | rfl | (simp; done) | (simp [*]; done), by repeat (first | exact Drawn0.refl _ | apply Drawn0.step)⟩
end Go.Proofs.YtgmggompdidcoaaDoor.X
