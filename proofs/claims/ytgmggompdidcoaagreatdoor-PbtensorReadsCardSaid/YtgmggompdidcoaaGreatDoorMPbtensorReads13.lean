import Derived.Test.YtgmggompdidcoaaGreatDoorMPbtensorReads12
namespace Go.Proofs.YtgmggompdidcoaaGreatDoor.X
open Go.RowKit Go.Proofs.YtgmggompdidcoaaGreatDoorW.aX Go.Proofs.YtgmggompdidcoaaGreatDoorW.bJ Go.Proofs.YtgmggompdidcoaaGreatDoorW.bK
attribute [local go_sem] bO bQ bS bU bM bN bP bR
set_option linter.unusedVariables false
set_option linter.unusedSimpArgs false
set_option maxHeartbeats 8000000
set_option maxRecDepth 100000
section
mutual
def oI.l0 : Nat → List (mR) → Int → Option (Int)
 | 0, _, _ => none
 | k + 1, x0, x3 => if x3 < (x0.length : Int) then (if 0 ≤ x3 then ((kY.f k ((qN x0 x3).f0)).bind fun t102 => (if t102 = true then (oI.l1 k x0 x3 0) else (some 9))) else (none)) else (some 0)
def oI.l1 : Nat → List (mR) → Int → Int → Option (Int)
 | 0, _, _, _ => none
 | k + 1, x0, x3, x4 => if x4 < x3 then (if 0 ≤ x4 then (if x4 < (x0.length : Int) then (if 0 ≤ x3 then (if x3 < (x0.length : Int) then (if ((qN x0 x4).f0).toList = ((qN x0 x3).f0).toList then (some 14) else (oI.l1 k x0 x3 (wrap64 (x4 + 1)))) else (none)) else (none)) else (none)) else (none)) else (oI.l0 k x0 (wrap64 (x3 + 1)))
end
def oI.f (k : Nat) (l0 : List (mR)) : Option (Int) := if (l0.length : Int) > 64 then (some 7) else (oI.l0 k l0 0)
attribute [local irreducible] Calls
theorem oI.calls (k : Nat) (A0 : Option Addr) (c0 : Nat) (l0 : List (mR)) (r : Int) (w : World) (hr0 : Kd.C zX w A0 l0.length l0) (hc0 : l0.length ≤ c0) (h : oI.f k l0 = some r) :
 Calls Tryz.prog 16 #[.slice A0 l0.length c0] w fun e w' => e = .returned (.int .i64 r) ∧ fG w w' := by
 have fF := aA hr0; have oO := aA hc0; clear hr0 hc0; have H : (if (l0.length : Int) > 64 then (some 7) else (oI.l0 k l0 0)) = some r := h; clear h
 by_cases c2 : (l0.length : Int) > 64
 ·
  rw [ip c2] at H; have iZ := dT c2; have nZ : decide (64 < l0.length) = true := dT (by omega); clear c2; obtain rfl := Option.some.inj H
  go_enter Tryz.func16, Tryz.ntmps16
  go_wp2
  repeat (go_quiet (fail); try go_wp2)
  go_ret
  exact dW
 ·
  rw [iN c2] at H; have iZ := dF c2; have nZ : decide (64 < l0.length) = false := dF (by omega); clear c2; have H' := aA H; clear H
  go_enter Tryz.func16, Tryz.ntmps16
  go_wp2
  repeat (go_quiet (fail); try go_wp2)
  go_loopg [3] k (fun kq v3 w' => ∃ (eG : Int), v3 = .int .i64 eG ∧ aC (oI.l0 kq l0 eG = some r) ∧ aC (kq ≤ k) ∧ fG w w')
  case atStart => exact ⟨(0), aZ, H', ⟨Nat.le_refl _⟩, dr⟩
  case round =>
   clear H'; try clear c2; try clear iZ; try clear nZ
   obtain ⟨eG, rfl, HA, bD, ⟨m1, rfl⟩⟩ := hrel
   cases gk with
   | zero => exact absurd HA.out (by simp [oI.l0])
   | succ k1 =>
    have H := HA.out; clear HA
    simp only [oI.l0] at H
    by_cases c3 : eG < (l0.length : Int)
    ·
     rw [ip c3] at H; have gL := dT c3; clear c3; replace H := dU H; obtain ⟨c4, H⟩ := H; have fP := dT c4; clear c4; replace H := bnd H; obtain ⟨t102, A5, H⟩ := H
     by_cases c6 : t102 = true
     ·
      subst c6; have H1 : (oI.l1 k1 l0 eG 0) = some r := by rw [ip rfl] at H; exact H
      clear H; have H := H1; clear H1; have H' := aA H; clear H; have dL : 0 ≤ (eG : Int) := aK; have dM : eG < (l0.length : Int) := aK; obtain ⟨lD, iM, gD, kR⟩ := AR fF.out eG dL dM; cases iM; replace dL := eT dL; replace dM := eT dM
      go_wp2_with (first | (go_at_call 42; (with_reducible refine (kY.calls k1 ((qN l0 eG).f0) true _ A5.out).mono ?_); rintro e w' ⟨rfl, ⟨nd, rfl⟩⟩; (try first | exact ⟨rfl, _, World.drewN_drewN _ _ _⟩ | exact ⟨rfl, _, Eq.trans (World.drewN_drewN _ _ _) (congrArg (World.drewN _) (Nat.add_assoc _ _ _))⟩)))
      repeat (go_quiet (first | (go_at_call 42; (with_reducible refine (kY.calls k1 ((qN l0 eG).f0) true _ A5.out).mono ?_); rintro e w' ⟨rfl, ⟨nd, rfl⟩⟩; (try first | exact ⟨rfl, _, World.drewN_drewN _ _ _⟩ | exact ⟨rfl, _, Eq.trans (World.drewN_drewN _ _ _) (congrArg (World.drewN _) (Nat.add_assoc _ _ _))⟩))); try go_wp2_with (first | (go_at_call 42; (with_reducible refine (kY.calls k1 ((qN l0 eG).f0) true _ A5.out).mono ?_); rintro e w' ⟨rfl, ⟨nd, rfl⟩⟩; (try first | exact ⟨rfl, _, World.drewN_drewN _ _ _⟩ | exact ⟨rfl, _, Eq.trans (World.drewN_drewN _ _ _) (congrArg (World.drewN _) (Nat.add_assoc _ _ _))⟩))))
      go_loopg [4] k1 (fun kq v4 w' => ∃ (jZ : Int), v4 = .int .i64 jZ ∧ aC (oI.l1 kq l0 eG jZ = some r) ∧ aC (kq ≤ k1) ∧ fG w w')
      case atStart => exact ⟨(0), aZ, H', ⟨Nat.le_refl _⟩, dr⟩
      case round =>
       clear H'; try clear c2; try clear iZ; try clear nZ; try clear c3; try clear gL; try clear c4; try clear fP; try clear c6; try clear gD; try clear kR; try clear dL; try clear dM
       obtain ⟨jZ, rfl, HA, nO, ⟨m2, rfl⟩⟩ := hrel
       cases gk with
       | zero => exact absurd HA.out (by simp [oI.l1])
       | succ k2 =>
        have H := HA.out; clear HA
        simp only [oI.l1] at H
        by_cases c7 : jZ < eG
        ·
         rw [ip c7] at H; have nA := dT c7; clear c7; replace H := dU H; obtain ⟨c8, H⟩ := H; have mG := dT c8; clear c8; replace H := dU H; obtain ⟨c9, H⟩ := H; have mO := dT c9; clear c9; replace H := dU H; obtain ⟨c10, H⟩ := H; have qO := dT c10; clear c10; replace H := dU H; obtain ⟨c11, H⟩ := H; have nJ := dT c11; clear c11
         by_cases c12 : ((qN l0 jZ).f0).toList = ((qN l0 eG).f0).toList
         ·
          rw [ip c12] at H; obtain ⟨tH, OA⟩ := dH c12; clear c12; obtain rfl := Option.some.inj H; have j6 : 0 ≤ (jZ : Int) := aK; have kC : jZ < (l0.length : Int) := aK; obtain ⟨uN, rY, uI, IE⟩ := AR fF.out jZ j6 kC; obtain rfl : lD = uN := (by injection rY); replace j6 := eT j6; replace kC := eT kC; have jC : 0 ≤ (eG : Int) := aK; have jD : eG < (l0.length : Int) := aK; obtain ⟨uO, pV, uJ, EZ⟩ := AR fF.out eG jC jD; obtain rfl : lD = uO := (by injection pV); replace jC := eT jC; replace jD := eT jD
          go_wp2
          repeat (go_quiet (fail); try go_wp2)
          go_ret
          exact dW
         ·
          rw [iN c12] at H; have tH := beq_eq_false_iff_ne.mpr c12; have OA := bne_iff_ne.mpr c12; have H' := aA H; clear H; have j6 : 0 ≤ (jZ : Int) := aK; have kC : jZ < (l0.length : Int) := aK; obtain ⟨uN, rY, uI, IE⟩ := AR fF.out jZ j6 kC; obtain rfl : lD = uN := (by injection rY); replace j6 := eT j6; replace kC := eT kC; have jC : 0 ≤ (eG : Int) := aK; have jD : eG < (l0.length : Int) := aK; obtain ⟨uO, pV, uJ, EZ⟩ := AR fF.out eG jC jD; obtain rfl : lD = uO := (by injection pV); replace jC := eT jC; replace jD := eT jD
          go_wp2
          repeat (go_quiet (fail); try go_wp2)
          go_roundg k2
          case measure => have := bD.out; have := nO.out; omega
          case rel => exact ⟨(wrap64 (jZ + 1)), aZ, H', ⟨by have := bD.out; have := nO.out; omega⟩, dr⟩
        ·
         rw [iN c7] at H; have nA := dF c7; clear c7; have H' := aA H; clear H
         go_wp2
         repeat (go_quiet (fail); try go_wp2)
         go_roundg k2
         case measure => have := bD.out; have := nO.out; omega
         case rel => exact ⟨(wrap64 (eG + 1)), aZ, H', ⟨by have := bD.out; have := nO.out; omega⟩, dr⟩
     ·
      replace c6 := Bool.eq_false_iff.mpr c6; subst c6; have H1 : (some 9) = some r := by rw [iN (show ¬ (false = true) by decide)] at H; exact H
      clear H; have H := H1; clear H1; obtain rfl := Option.some.inj H; have dL : 0 ≤ (eG : Int) := aK; have dM : eG < (l0.length : Int) := aK; obtain ⟨lD, iM, gD, kR⟩ := AR fF.out eG dL dM; cases iM; replace dL := eT dL; replace dM := eT dM
      go_wp2_with (first | (go_at_call 42; (with_reducible refine (kY.calls k1 ((qN l0 eG).f0) false _ A5.out).mono ?_); rintro e w' ⟨rfl, ⟨nd, rfl⟩⟩; (try first | exact ⟨rfl, _, World.drewN_drewN _ _ _⟩ | exact ⟨rfl, _, Eq.trans (World.drewN_drewN _ _ _) (congrArg (World.drewN _) (Nat.add_assoc _ _ _))⟩)))
      repeat (go_quiet (first | (go_at_call 42; (with_reducible refine (kY.calls k1 ((qN l0 eG).f0) false _ A5.out).mono ?_); rintro e w' ⟨rfl, ⟨nd, rfl⟩⟩; (try first | exact ⟨rfl, _, World.drewN_drewN _ _ _⟩ | exact ⟨rfl, _, Eq.trans (World.drewN_drewN _ _ _) (congrArg (World.drewN _) (Nat.add_assoc _ _ _))⟩))); try go_wp2_with (first | (go_at_call 42; (with_reducible refine (kY.calls k1 ((qN l0 eG).f0) false _ A5.out).mono ?_); rintro e w' ⟨rfl, ⟨nd, rfl⟩⟩; (try first | exact ⟨rfl, _, World.drewN_drewN _ _ _⟩ | exact ⟨rfl, _, Eq.trans (World.drewN_drewN _ _ _) (congrArg (World.drewN _) (Nat.add_assoc _ _ _))⟩))))
      go_ret
      exact dW
    ·
     rw [iN c3] at H; have gL := dF c3; clear c3; obtain rfl := Option.some.inj H
     go_wp2
     repeat (go_quiet (fail); try go_wp2)
     go_ret
     exact dW
end
section
mutual
def oH.j0 : Nat → List (mR) → ByteArray → Int → Int → Bool → Option (ByteArray × Int)
 | 0, _, _, _, _, _ => none
 | k + 1, x0, x1, x2, x3, x20 => if x20 = true then (some ((⟨#[]⟩ : ByteArray), 17)) else (oH.l0 k x0 x1 x2 x3 0)
def oH.l0 : Nat → List (mR) → ByteArray → Int → Int → Int → Option (ByteArray × Int)
 | 0, _, _, _, _, _ => none
 | k + 1, x0, x1, x2, x3, jJ => if jJ < (x0.length : Int) then (if 0 ≤ jJ then (if ((qN x0 jJ).f0).toList = x1.toList then (if x2 > (((qN x0 jJ).f1).size : Int) then (some ((⟨#[]⟩ : ByteArray), 1)) else (if x3 > (wrap64 ((((qN x0 jJ).f1).size : Int) - x2)) then (some ((⟨#[]⟩ : ByteArray), 1)) else (if 0 ≤ x2 then (if x2 ≤ (wrap64 (x2 + x3)) then (if (wrap64 (x2 + x3)) ≤ (((qN x0 jJ).f1).size : Int) then (some (((qN x0 jJ).f1).extract (x2 : Int).toNat ((wrap64 (x2 + x3)) : Int).toNat, 0)) else (none)) else (none)) else (none)))) else (oH.l0 k x0 x1 x2 x3 (wrap64 (jJ + 1)))) else (none)) else (some ((⟨#[]⟩ : ByteArray), 18))
end
def oH.f (k : Nat) (l0 : List (mR)) (a1 : ByteArray) (a2 : Int) (a3 : Int) : Option (ByteArray × Int) := (kY.f k a1).bind fun t101 => (if t101 = true then (if a2 < 0 then (oH.j0 k l0 a1 a2 a3 true) else (oH.j0 k l0 a1 a2 a3 (decide (a3 < 0)))) else (some ((⟨#[]⟩ : ByteArray), 9)))
theorem oH.calls (k : Nat) (A0 : Option Addr) (c0 : Nat) (l0 : List (mR)) (a1 : ByteArray) (a2 : Int) (a3 : Int) (r1 : ByteArray) (r2 : Int) (w : World) (hr0 : Kd.C zX w A0 l0.length l0) (hc0 : l0.length ≤ c0) (h : oH.f k l0 a1 a2 a3 = some (r1, r2)) :
 Calls Tryz.prog 66 #[.slice A0 l0.length c0, .string a1, .int .i64 a2, .int .i64 a3] w fun e w' => e = .returned (.tuple #[.string r1, .int .i64 r2]) ∧ fG w w' := by
 have fF := aA hr0; have oO := aA hc0; clear hr0 hc0; have H : ((kY.f k a1).bind fun t101 => (if t101 = true then (if a2 < 0 then (oH.j0 k l0 a1 a2 a3 true) else (oH.j0 k l0 a1 a2 a3 (decide (a3 < 0)))) else (some ((⟨#[]⟩ : ByteArray), 9)))) = some (r1, r2) := h; clear h; replace H := bnd H; obtain ⟨t101, A5, H⟩ := H
 by_cases c6 : t101 = true
 ·
  subst c6; have H1 : (if a2 < 0 then (oH.j0 k l0 a1 a2 a3 true) else (oH.j0 k l0 a1 a2 a3 (decide (a3 < 0)))) = some (r1, r2) := by rw [ip rfl] at H; exact H
  clear H; have H := H1; clear H1; have xu := aA H; clear H
  go_enter Tryz.func66, Tryz.ntmps66
  go_upto_region 3 with (first | ((with_reducible refine dJ (f := 42) rfl ?_); refine dV (some 13) rfl rfl Tryz.func42 (by kernel_rfl) rfl #[.string a1] rfl ?_; (with_reducible refine (kY.calls k a1 true _ A5.out).mono ?_); rintro e w' ⟨rfl, ⟨nd, rfl⟩⟩; refine ⟨_, rfl, ?_⟩))
  (try simp only [Act.put, List.setIfInBounds_toArray, List.set_cons_zero, List.set_cons_succ])
  go_cut [20] (fun v20 wc => ∃ (kq : Nat) (ZN : Bool), v20 = .bool ZN ∧ aC (oH.j0 kq l0 a1 a2 a3 ZN = some (r1, r2)) ∧ aC (kq ≤ k) ∧ fG w wc)
  case first =>
   have H := xu.out; clear xu
   by_cases c8 : a2 < 0
   ·
    rw [ip c8] at H; have mG := dT c8; clear c8
    (first | rw [mG] | (simp only [dC, iC]; rw [mG]) | skip)
    have H' := aA H; clear H
    go_wp2
    go_meet
    case rel => exact ⟨_, (true), aZ, H', qX, dr⟩
   ·
    rw [iN c8] at H; have mG := dF c8; clear c8
    (first | rw [mG] | (simp only [dC, iC]; rw [mG]) | skip)
    have H' := aA H; clear H
    go_wp2
    go_meet
    case rel => exact ⟨_, (decide (a3 < 0)), aZ, H', qX, dr⟩
  case rest =>
   clear xu; try clear c6
   obtain ⟨kq, ZN, rfl, HA, Py, ⟨mc6, rfl⟩⟩ := hcut
   cases kq with
   | zero => exact absurd HA.out (by simp [oH.j0])
   | succ Ba =>
    have H := HA.out; clear HA
    simp only [oH.j0] at H
    by_cases c9 : ZN = true
    ·
     subst c9; have H1 : (some ((⟨#[]⟩ : ByteArray), 17)) = some (r1, r2) := by rw [ip rfl] at H; exact H
     clear H; have H := H1; clear H1
     simp only [Option.some.injEq, Prod.mk.injEq] at H
     obtain ⟨rfl, rfl⟩ := H
     go_wp2
     go_ret2
     exact dW
    ·
     replace c9 := Bool.eq_false_iff.mpr c9; subst c9; have H1 : (oH.l0 Ba l0 a1 a2 a3 0) = some (r1, r2) := by rw [iN (show ¬ (false = true) by decide)] at H; exact H
     clear H; have H := H1; clear H1; have H' := aA H; clear H
     go_wp2
     go_loopg [10] Ba (fun kq v10 w' => ∃ (nK : Int), v10 = .int .i64 nK ∧ aC (oH.l0 kq l0 a1 a2 a3 nK = some (r1, r2)) ∧ aC (kq ≤ Ba) ∧ fG w w')
     case atStart => exact ⟨(0), aZ, H', ⟨Nat.le_refl _⟩, dr⟩
     case round =>
      clear H'; try clear c6; try clear c9
      obtain ⟨nK, rfl, HA, nO, ⟨m2, rfl⟩⟩ := hrel
      cases gk with
      | zero => exact absurd HA.out (by simp [oH.l0])
      | succ k2 =>
       have H := HA.out; clear HA
       simp only [oH.l0] at H
       by_cases c10 : nK < (l0.length : Int)
       ·
        rw [ip c10] at H; have qO := dT c10; clear c10; replace H := dU H; obtain ⟨c11, H⟩ := H; have nJ := dT c11; clear c11
        by_cases c12 : ((qN l0 nK).f0).toList = a1.toList
        ·
         rw [ip c12] at H; obtain ⟨tH, OA⟩ := dH c12; clear c12
         by_cases c13 : a2 > (((qN l0 nK).f1).size : Int)
         ·
          rw [ip c13] at H; have vU := dT c13; clear c13
          simp only [Option.some.injEq, Prod.mk.injEq] at H
          obtain ⟨rfl, rfl⟩ := H; have jO : 0 ≤ (nK : Int) := aK; have jP : nK < (l0.length : Int) := aK; obtain ⟨vT, qU, rQ, JR⟩ := AR fF.out nK jO jP; cases qU; replace jO := eT jO; replace jP := eT jP; have j6 : 0 ≤ (nK : Int) := aK; have kC : nK < (l0.length : Int) := aK; obtain ⟨uN, rY, uI, IE⟩ := AR fF.out nK j6 kC; obtain rfl : vT = uN := (by injection rY); replace j6 := eT j6; replace kC := eT kC
          go_wp2
          go_ret2
          exact dW
         ·
          rw [iN c13] at H; have vU := dF c13; clear c13
          by_cases c14 : a3 > (wrap64 ((((qN l0 nK).f1).size : Int) - a2))
          ·
           rw [ip c14] at H; have yB := dT c14; clear c14
           simp only [Option.some.injEq, Prod.mk.injEq] at H
           obtain ⟨rfl, rfl⟩ := H; have jO : 0 ≤ (nK : Int) := aK; have jP : nK < (l0.length : Int) := aK; obtain ⟨vT, qU, rQ, JR⟩ := AR fF.out nK jO jP; cases qU; replace jO := eT jO; replace jP := eT jP; have j6 : 0 ≤ (nK : Int) := aK; have kC : nK < (l0.length : Int) := aK; obtain ⟨uN, rY, uI, IE⟩ := AR fF.out nK j6 kC; obtain rfl : vT = uN := (by injection rY); replace j6 := eT j6; replace kC := eT kC
           go_wp2
           go_ret2
           exact dW
          ·
           rw [iN c14] at H; have yB := dF c14; clear c14; replace H := dU H; obtain ⟨c15, H⟩ := H; have qP := eT c15; have FD := dT c15; clear c15; replace H := dU H; obtain ⟨c16, H⟩ := H; have FE := eT c16; have QI := dT c16; replace H := dU H; obtain ⟨c17, H⟩ := H; have J2 := eT c17; have QJ := dT c17
           simp only [Option.some.injEq, Prod.mk.injEq] at H
           obtain ⟨rfl, rfl⟩ := H; have jO : 0 ≤ (nK : Int) := aK; have jP : nK < (l0.length : Int) := aK; obtain ⟨vT, qU, rQ, JR⟩ := AR fF.out nK jO jP; cases qU; replace jO := eT jO; replace jP := eT jP; have j6 : 0 ≤ (nK : Int) := aK; have kC : nK < (l0.length : Int) := aK; obtain ⟨uN, rY, uI, IE⟩ := AR fF.out nK j6 kC; obtain rfl : vT = uN := (by injection rY); replace j6 := eT j6; replace kC := eT kC
           go_wp2
           go_ret2
           exact dW
        ·
         rw [iN c12] at H; have tH := beq_eq_false_iff_ne.mpr c12; have OA := bne_iff_ne.mpr c12; have H' := aA H; clear H; have jO : 0 ≤ (nK : Int) := aK; have jP : nK < (l0.length : Int) := aK; obtain ⟨vT, qU, rQ, JR⟩ := AR fF.out nK jO jP; cases qU; replace jO := eT jO; replace jP := eT jP
         go_wp2
         go_roundg k2
         case measure => have := Py.out; have := nO.out; omega
         case rel => exact ⟨(wrap64 (nK + 1)), aZ, H', ⟨by have := Py.out; have := nO.out; omega⟩, dr⟩
       ·
        rw [iN c10] at H; have qO := dF c10; clear c10
        simp only [Option.some.injEq, Prod.mk.injEq] at H
        obtain ⟨rfl, rfl⟩ := H
        go_wp2
        go_ret2
        exact dW
 ·
  replace c6 := Bool.eq_false_iff.mpr c6; subst c6; have H1 : (some ((⟨#[]⟩ : ByteArray), 9)) = some (r1, r2) := by rw [iN (show ¬ (false = true) by decide)] at H; exact H
  clear H; have H := H1; clear H1
  simp only [Option.some.injEq, Prod.mk.injEq] at H
  obtain ⟨rfl, rfl⟩ := H
  go_enter Tryz.func66, Tryz.ntmps66
  go_wp2_with (first | ((with_reducible refine dJ (f := 42) rfl ?_); refine dV (some 13) rfl rfl Tryz.func42 (by kernel_rfl) rfl #[.string a1] rfl ?_; (with_reducible refine (kY.calls k a1 false _ A5.out).mono ?_); rintro e w' ⟨rfl, ⟨nd, rfl⟩⟩; refine ⟨_, rfl, ?_⟩))
  go_ret2
  exact dW
end
theorem rz (b : ByteArray) (i j : Nat) (m : Nat) (h : m < j - i) (hj : j ≤ b.size) : bt (b.extract i j) (m : Int) = bt b ((i + m : Nat) : Int) := by
 have h1 : m < (b.extract i j).size := by rw [ByteArray.size_extract, Nat.min_eq_left hj]; exact h
 rw [BA _ _ h1, BA _ _ (show i + m < b.size by omega)]
 have := QB (b.extract i j) m h1
 have e2 := QB b (i + m) (by omega)
 rw [← this, ← e2]
 have e3 : ns (b.extract i j) = ((ns b).drop i).take (j - i) := XG b i j
 have : (((ns (b.extract i j))[m]'(by rw [vG]; exact h1) : Nat) : Int) = ((((ns b).drop i).take (j - i))[m]'(by rw [← e3, vG]; exact h1) : Nat) := by
  congr 1
  exact getElem_congr_coll e3
 rw [this, List.getElem_take, List.getElem_drop]
theorem RX (s : ByteArray) (a m : Nat) (h : a + m < s.size) : bt (s.extract a s.size) (m : Int) = bt s ((a + m : Nat) : Int) := rz s a s.size m (by omega) (Nat.le_refl _)
theorem aCR (s : ByteArray) (m : Nat) (h : m < s.size) : s.data.toList[m]? = some (s[m]'h) := by
 rw [List.getElem?_eq_getElem (by rw [Array.length_toList]; exact h)]; rfl
theorem U3 (s : ByteArray) (m : Nat) (h : m < s.size) : bt s (m : Int) = 47 ↔ s.data.toList[m]? = some 47 := by
 rw [aCR s m h, BA s m h]
 constructor
 · intro e
   have : (s[m]'h).toNat = (47 : UInt8).toNat := by have e' : ((s[m]'h).toNat : Int) = 47 := e; have h2 : (47 : UInt8).toNat = 47 := rfl; omega
   rw [UInt8.toNat_inj.1 this]
 · intro e
   rw [Option.some.inj e]; rfl
theorem Zp {t : ByteArray} {q : Nat} (hq : q < t.size) (h1 : bt t (q : Int) = 47) (h2 : ∀ j, j < q → bt t (j : Int) ≠ 47) : lI t = q := by
 have hge := Lib.indexByte_ge t.data.toList 47
 have hlt := LA t
 by_cases hn : lI t = -1
 · exact absurd ((U3 t q hq).1 h1) (Lib.indexByte_none hn q)
 · have hge' : -1 ≤ lI t := hge
   obtain ⟨o, ho⟩ : ∃ o : Nat, lI t = o := ⟨(lI t).toNat, by omega⟩
   obtain ⟨e1, e2⟩ := Lib.indexByte_some ho
   rw [ho]
   have ho' : o < t.size := by omega
   rcases Nat.lt_trichotomy o q with h | h | h
   · exact absurd ((U3 t o ho').2 e1) (h2 o h)
   · rw [h]
   · exact absurd ((U3 t q hq).1 h1) (e2 q h)
theorem Zq {t : ByteArray} (h2 : ∀ j, j < t.size → bt t (j : Int) ≠ 47) : lI t < 0 := by
 have hge : -1 ≤ lI t := Lib.indexByte_ge t.data.toList 47
 have hlt := LA t
 by_cases hn : lI t = -1
 · omega
 · obtain ⟨o, ho⟩ : ∃ o : Nat, lI t = o := ⟨(lI t).toNat, by omega⟩
   exact absurd ((U3 t o (by omega)).2 (Lib.indexByte_some ho).1) (h2 o (by omega))
theorem Xg {t : ByteArray} {q : Nat} (h2 : ∀ j, j ≤ q → bt t (j : Int) ≠ 47) (h0 : 0 ≤ lI t) : (q : Int) < lI t := by
 have hlt := LA t
 obtain ⟨o, ho⟩ : ∃ o : Nat, lI t = o := ⟨(lI t).toNat, by omega⟩
 rw [ho]
 by_cases h : o ≤ q
 · exact absurd ((U3 t o (by omega)).2 (Lib.indexByte_some ho).1) (h2 o h)
 · omega
theorem Cw {s : ByteArray} {q : Nat} (hq : yQ (bt s (q : Int)) = false) : ∀ (d i : Nat), i ≤ q → q < i + d → IL d s (i : Int) = false
 | 0, i, h1, h2 => by omega
 | d + 1, i, h1, h2 => by
  rw [IL]
  by_cases e : i = q
  · subst e; rw [hq]; rfl
  · have := Cw hq d (i + 1) (by omega) (by omega)
    rw [show ((i : Int) + 1) = ((i + 1 : Nat) : Int) from rfl, this, Bool.and_false]
theorem Dl {s : ByteArray} : ∀ (d i : Nat), (∀ j, i ≤ j → j < i + d → yQ (bt s (j : Int)) = true) → IL d s (i : Int) = true
 | 0, i, h => rfl
 | d + 1, i, h => by
  rw [IL, h i (Nat.le_refl _) (by omega), Bool.true_and]
  exact Dl d (i + 1) (fun j h1 h2 => h j (by omega) (by omega))
theorem Df {p : ByteArray} {q : Nat} (hq : q < p.size) (h : yQ (bt p (q : Int)) = false) : xG p = false := by
 unfold xG
 rw [show (0 : Int) = ((0 : Nat) : Int) from rfl, Cw h p.size 0 (Nat.zero_le _) (by omega)]; rfl
theorem Ex {p : ByteArray} (h : ∀ j, j < p.size → yQ (bt p (j : Int)) = true) : xG p = FM p := by
 unfold xG
 rw [show (0 : Int) = ((0 : Nat) : Int) from rfl, Dl p.size 0 (fun j _ h2 => h j (by omega)), Bool.true_and]
theorem Cb (s : ByteArray) (a q : Nat) (h : a + q ≤ s.size) : (s.extract a s.size).extract 0 q = s.extract a (a + q) := by
 rw [ByteArray.extract_extract]
 congr 1
 omega
theorem Xx {s : ByteArray} {a i : Nat} (hai : a ≤ i) (hi : i < s.size) (hn : ∀ j, a ≤ j → j ≤ i → bt s (j : Int) ≠ 47) (hb : yQ (bt s (i : Int)) = false) : (pieces (s.extract a s.size)).all xG = false := by
 have hsz : (s.extract a s.size).size = s.size - a := by rw [ByteArray.size_extract]; omega
 have hb' : yQ (bt (s.extract a s.size) ((i - a : Nat) : Int)) = false := by rw [RX s a (i - a) (by omega), show a + (i - a) = i from by omega]; exact hb
 by_cases h : lI (s.extract a s.size) < 0
 · rw [_R h]
   simp only [List.all_cons, List.all_nil, Bool.and_true]
   exact Df (by omega) hb'
 · have hp := Xg (t := s.extract a s.size) (q := i - a) (fun j hj => by rw [RX s a j (by omega)]; exact hn (a + j) (by omega) (by omega)) (by omega)
   have hl := LA (s.extract a s.size)
   rw [_1 (by omega), List.all_cons]
   obtain ⟨o, ho⟩ : ∃ o : Nat, lI (s.extract a s.size) = o := ⟨(lI (s.extract a s.size)).toNat, by omega⟩
   rw [ho, Int.toNat_natCast, Cb s a o (by omega)]
   have hb2 : yQ (bt (s.extract a (a + o)) ((i - a : Nat) : Int)) = false := by rw [rz s a (a + o) (i - a) (by omega) (by omega), show a + (i - a) = i from by omega]; exact hb
   rw [Df (q := i - a) (by rw [ByteArray.size_extract]; omega) hb2, Bool.false_and]
theorem Vr {s : ByteArray} {a i : Nat} (hai : a ≤ i) (hi : i < s.size) (hn : ∀ j, a ≤ j → j < i → yQ (bt s (j : Int)) = true) (hs : bt s (i : Int) = 47) : (pieces (s.extract a s.size)).all xG = (FM (s.extract a i) && (pieces (s.extract (i + 1) s.size)).all xG) := by
 have hsz : (s.extract a s.size).size = s.size - a := by rw [ByteArray.size_extract]; omega
 have hq : lI (s.extract a s.size) = ((i - a : Nat) : Int) := Zp (by omega) (by rw [RX s a (i - a) (by omega), show a + (i - a) = i from by omega]; exact hs) (fun j hj => by
  rw [RX s a j (by omega)]
  intro e
  have := hn (a + j) (by omega) (by omega)
  rw [e] at this; cases this)
 rw [_1 (by rw [hq]; omega), List.all_cons, hq, Int.toNat_natCast, Cb s a (i - a) (by omega), show a + (i - a) = i from by omega]
 have e2 : (s.extract a s.size).extract (i - a + 1) (s.extract a s.size).size = s.extract (i + 1) s.size := by
  rw [ByteArray.extract_extract, hsz]
  congr 1 <;> omega
 rw [e2, Ex]
 intro j hj
 rw [ByteArray.size_extract] at hj
 rw [rz s a i j (by omega) (by omega)]
 exact hn (a + j) (by omega) (by omega)
theorem Xy {s : ByteArray} {a : Nat} (ha : a ≤ s.size) (hn : ∀ j, a ≤ j → j < s.size → yQ (bt s (j : Int)) = true) : (pieces (s.extract a s.size)).all xG = FM (s.extract a s.size) := by
 have hsz : (s.extract a s.size).size = s.size - a := by rw [ByteArray.size_extract]; omega
 have hl : lI (s.extract a s.size) < 0 := Zq (fun j hj => by
  rw [RX s a j (by omega)]
  intro e
  have := hn (a + j) (by omega) (by omega)
  rw [e] at this; cases this)
 rw [_R hl]
 simp only [List.all_cons, List.all_nil, Bool.and_true]
 exact Ex (fun j hj => by rw [RX s a j (by omega)]; exact hn (a + j) (by omega) (by omega))
theorem aAr (c : Int) : KY.f c = some (yQ c) := by
 unfold KY.f
 cases h : yQ c with
 | true =>
  have h' := of_decide_eq_true h
  repeat' first | rfl | (refine YM (fun _ => ?_) (fun _ => ?_))
  all_goals first | (exfalso; omega) | (congr 1; exact beq_iff_eq.2 (by omega))
 | false =>
  have h' := of_decide_eq_false h
  repeat' first | rfl | (refine YM (fun _ => ?_) (fun _ => ?_))
  all_goals first | (exfalso; omega) | (congr 1; exact beq_eq_false_iff_ne.2 (by omega))
theorem Gd {α : Type} (p : ByteArray) (x y : α) : (if p.toList = ([] : List UInt8) then x else if p.toList = ([46] : List UInt8) then x else if p.toList = ([46, 46] : List UInt8) then x else y) = if FM p = true then y else x := by
 unfold FM
 by_cases h1 : p.toList = []
 · rw [ip h1, ip h1]; rfl
 · rw [iN h1, iN h1]
   by_cases h2 : p.toList = [46]
   · rw [ip h2, ip h2]; rfl
   · rw [iN h2, iN h2]
     by_cases h3 : p.toList = [46, 46]
     · rw [ip h3, h3]; rfl
     · rw [iN h3, ip (by simpa using h3)]
theorem aAE (s : ByteArray) (hs : s.size ≤ 140737488351232) (d : Nat) : ∀ (k a i : Nat), a ≤ i → i + d = s.size → 2 * d + 4 ≤ k → (∀ j, a ≤ j → j < i → yQ (bt s (j : Int)) = true) →
 kY.l0 k s (a : Int) (i : Int) = some ((pieces (s.extract a s.size)).all xG && decide (s.size ≤ 255)) := by
 induction d with
 | zero =>
  intro k a i hai hi hk hn
  obtain ⟨k, rfl⟩ : ∃ m, k = m + 3 := ⟨k - 3, by omega⟩
  obtain rfl : i = s.size := by omega
  have hw : wrap64 ((s.size : Int) + 1) = (s.size : Int) + 1 := by unfold wrap64; omega
  rw [kY.l0, ip (by omega), iN (by omega), kY.j1, iN (by simp), ip (by omega), ip (by omega), ip (by omega), Gd, hw, Int.toNat_natCast, Int.toNat_natCast, Xy (by omega) hn]
  cases he : FM (s.extract a s.size) with
  | false => rfl
  | true =>
   rw [ip rfl, kY.l0, iN (by omega), Bool.true_and]
   congr 1
   exact decide_eq_decide.2 (by omega)
 | succ d ih =>
  intro k a i hai hi hk hn
  obtain ⟨k, rfl⟩ : ∃ m, k = m + 2 := ⟨k - 2, by omega⟩
  have hw : wrap64 ((i : Int) + 1) = ((i + 1 : Nat) : Int) := by unfold wrap64; omega
  rw [kY.l0, ip (by omega), ip (by omega), ip (by omega), kY.j1]
  by_cases h47 : bt s (i : Int) = 47
  · rw [iN (by rw [h47]; decide), ip (by omega), ip (by omega), ip (by omega), Gd, hw, Int.toNat_natCast, Int.toNat_natCast, Vr hai (by omega) hn h47]
    cases he : FM (s.extract a i) with
    | false => rfl
    | true =>
     rw [ip rfl, Bool.true_and]
     exact ih k (i + 1) (i + 1) (Nat.le_refl _) (by omega) (by omega) (fun j h1 h2 => by omega)
  · rw [ip (by simpa using h47), ip (by omega), ip (by omega), aAr, Option.bind_some]
    cases ho : yQ (bt s (i : Int)) with
    | false =>
     rw [iN (by simp), Xx hai (by omega) (fun j h1 h2 => ?_) ho]
     · rfl
     · by_cases e : j = i
       · rw [e]; exact h47
       · intro e2
         have := hn j h1 (by omega)
         rw [e2] at this; cases this
    | true =>
     rw [ip rfl, hw]
     exact ih k a (i + 1) (by omega) (by omega) (by omega) (fun j h1 h2 => by
      by_cases e : j = i
      · rw [e]; exact ho
      · exact hn j h1 (by omega))
theorem Gs (s : ByteArray) (hs : s.size ≤ 140737488351232) (k : Nat) (hk : 2 * s.size + 4 ≤ k) : kY.f k s = some (yF s) := by
 have h := aAE s hs s.size k 0 0 (Nat.le_refl _) (by omega) hk (fun j h1 h2 => by omega)
 rw [ByteArray.extract_zero_size] at h
 exact h
def iL (l : List jK) : List mR := l.map (fun f => ⟨f.f0, f.f1⟩)
theorem XJ (a b : ByteArray) : a.toList = b.toList ↔ a = b := by
 constructor
 · intro h
   rw [ByteArray.toList_eq, ByteArray.toList_eq] at h
   cases a; cases b
   congr 1
   exact Array.toList_inj.1 h
 · rintro rfl; rfl
theorem YY (l : List jK) (i : Nat) (h : i < l.length) : qN (iL l) (i : Int) = ⟨l[i].f0, l[i].f1⟩ := by
 unfold qN iL
 rw [Int.toNat_natCast, List.getD_eq_getElem?_getD, List.getElem?_map, List.getElem?_eq_getElem h]; rfl
theorem JV (l : List jK) : (iL l).length = l.length := List.length_map ..
theorem aFs (l : List jK) (hl : l.length ≤ 4398046510976) (d : Nat) : ∀ (k i : Nat), i + d = l.length → d < k → vC.l0 k (iL (l.take i)) l (l.length : Int) (i : Int) = some (iL l) := by
 induction d with
 | zero =>
  intro k i hi hk
  obtain ⟨k, rfl⟩ : ∃ m, k = m + 1 := ⟨k - 1, by omega⟩
  rw [vC.l0, iN (by omega), List.take_of_length_le (by omega)]
 | succ d ih =>
  intro k i hi hk
  obtain ⟨k, rfl⟩ : ∃ m, k = m + 1 := ⟨k - 1, by omega⟩
  have hw : wrap64 ((i : Int) + 1) = ((i + 1 : Nat) : Int) := by unfold wrap64; omega
  have hr : rC l (i : Int) = l[i] := by
   unfold rC
   rw [Int.toNat_natCast, List.getD_eq_getElem?_getD, List.getElem?_eq_getElem (by omega)]; rfl
  have hlen : (iL (l.take i)).length < 4398046511104 := by rw [JV, List.length_take]; omega
  have hn : iL (l.take i) ++ [(⟨l[i].f0, l[i].f1⟩ : mR)] = iL (l.take (i + 1)) := by
   unfold iL
   rw [List.take_succ_eq_append_getElem (by omega), List.map_append]; rfl
  rw [vC.l0, ip (by omega), ip (by omega), ip (by omega), ip hlen, hr, hw, hn]
  exact ih k (i + 1) (by omega) (by omega)
theorem Nr (l : List jK) (hl : l.length ≤ 4398046510976) : vC.f (l.length + 1) l = some (iL l) := aFs l hl l.length (l.length + 1) 0 (by omega) (by omega)
theorem aCv (l : List jK) (hl : l.length ≤ 1000) (i : Nat) (hi : i < l.length) (e : Nat) : ∀ (k j : Nat), j + e = i → e + 1 ≤ k →
 oI.l1 k (iL l) (i : Int) (j : Int) = if (fB (fV ((l.take i).drop j)) l[i].f0).isSome = true then some 14 else oI.l0 (k - e - 1) (iL l) ((i + 1 : Nat) : Int) := by
 induction e with
 | zero =>
  intro k j hj hk
  obtain ⟨k, rfl⟩ : ∃ m, k = m + 1 := ⟨k - 1, by omega⟩
  obtain rfl : j = i := by omega
  have hw : wrap64 ((j : Int) + 1) = ((j + 1 : Nat) : Int) := by unfold wrap64; omega
  rw [oI.l1, iN (by omega), hw, List.drop_of_length_le (by rw [List.length_take]; omega)]
  rfl
 | succ e ih =>
  intro k j hj hk
  obtain ⟨k, rfl⟩ : ∃ m, k = m + 1 := ⟨k - 1, by omega⟩
  have hw : wrap64 ((j : Int) + 1) = ((j + 1 : Nat) : Int) := by unfold wrap64; omega
  have hd : (l.take i).drop j = l[j] :: (l.take i).drop (j + 1) := by
   rw [List.drop_eq_getElem_cons (by rw [List.length_take]; omega)]
   congr 1
   exact List.getElem_take
  rw [oI.l1, ip (by omega), ip (by omega), ip (by rw [JV]; omega), ip (by omega), ip (by rw [JV]; omega), YY l j (by omega), YY l i hi, hw, hd]
  show (if l[j].f0.toList = l[i].f0.toList then _ else _) = (if (fB ((l[j].f0, l[j].f1) :: fV ((l.take i).drop (j + 1))) l[i].f0).isSome = true then _ else _)
  rw [fB]
  by_cases hx : l[j].f0 = l[i].f0
  · have hb : (l[i].f0 == l[j].f0) = true := (MapKept.bytes_beq _ _).2 hx.symm
    rw [ip ((XJ _ _).2 hx), ip hb]; rfl
  · have hb : ¬ (l[i].f0 == l[j].f0) = true := fun h => hx ((MapKept.bytes_beq _ _).1 h).symm
    rw [iN (fun h => hx ((XJ _ _).1 h)), iN hb, ih k (j + 1) (by omega) (by omega), show k + 1 - (e + 1) - 1 = k - e - 1 from by omega]
theorem aAw (l : List jK) (hl : l.length ≤ 1000) (c : Nat) (hc : 1 ≤ c) (hs : ∀ f ∈ l, 2 * f.f0.size + 4 ≤ c ∧ f.f0.size ≤ 140737488351232) (d : Nat) : ∀ (k i : Nat), i + d = l.length → d * 1002 + c ≤ k →
 oI.l0 k (iL l) (i : Int) = some (I5 (fV (l.take i)) (l.drop i)) := by
 induction d with
 | zero =>
  intro k i hi hk
  obtain ⟨k, rfl⟩ : ∃ m, k = m + 1 := ⟨k - 1, by omega⟩
  rw [oI.l0, iN (by rw [JV]; omega), List.drop_of_length_le (by omega)]
  rfl
 | succ d ih =>
  intro k i hi hk
  obtain ⟨k, rfl⟩ : ∃ m, k = m + 1 := ⟨k - 1, by omega⟩
  have hil : i < l.length := by omega
  have hd : l.drop i = l[i] :: l.drop (i + 1) := List.drop_eq_getElem_cons hil
  have hk1 := hs l[i] (List.getElem_mem hil)
  have hk0 : d * 1002 + 1002 + c ≤ k + 1 := by rw [← Nat.succ_mul]; exact hk
  have hk2 : d * 1002 + c ≤ k - i - 1 := by
   have aEh : i + 2 ≤ 1002 := by clear ih hd hk1 hs hk hk0; omega
   clear ih hd hk1 hs hk hi hl hil
   generalize d * 1002 = D at hk0 ⊢
   generalize 1002 = E at hk0 aEh
   omega
  have hi2 : i + 1 + d = l.length := by omega
  have hk3 : 2 * l[i].f0.size + 4 ≤ k := by have := hk1.1; clear ih hd hs hk hk2; omega
  have hk4 : i + 1 ≤ k := by clear ih hd hs hk hk2 hk3; omega
  clear hk hk0
  rw [oI.l0, ip (by rw [JV]; omega), ip (by omega), YY l i hil, Gs _ hk1.2 k hk3, Option.bind_some, hd, I5]
  cases hb : yF l[i].f0 with
  | false =>
   rw [iN (by simp), iN (by simp)]
  | true =>
   rw [ip rfl, ip rfl]
   have h := aCv l hl i hil i k 0 (Nat.zero_add _) hk4
   rw [List.drop_zero] at h
   rw [show (0 : Int) = ((0 : Nat) : Int) from rfl, h]
   cases hg : (fB (fV (l.take i)) l[i].f0).isSome with
   | true => rfl
   | false =>
    rw [iN (by simp), iN (by simp), ih (k - i - 1) (i + 1) hi2 hk2, Gq l i hil]
theorem aAF (l : List jK) (hl : l.length ≤ 1000) (hs : ∀ f ∈ l, f.f0.size ≤ 10000) (k : Nat) (hk : 1100000 ≤ k) : oI.f k (iL l) = some (BJ l) := by
 unfold oI.f BJ
 by_cases h : l.length > 64
 · rw [ip h, ip (by rw [JV]; omega)]
 · rw [iN h, iN (by rw [JV]; omega)]
   have h3 : l.length * 1002 + 20004 ≤ k := by omega
   have h4 := aAw l hl 20004 (by omega) (fun f hf => by have := hs f hf; omega) l.length k 0 (Nat.zero_add _) h3
   rw [List.drop_zero] at h4
   exact h4
theorem Zk (l : List jK) (key : ByteArray) (hl : l.length ≤ 1000) (off len : Int) (ho : 0 ≤ off ∧ off < 9223372036854775808) (hle : 0 ≤ len ∧ len < 9223372036854775808) (hs : ∀ f ∈ l, f.f1.size ≤ 140737488351232) (d : Nat) : ∀ (k i : Nat), i + d = l.length → d + 1 ≤ k →
 oH.l0 k (iL l) key off len (i : Int) = some (match fB (fV (l.drop i)) key with
  | none => ((⟨#[]⟩ : ByteArray), (18 : Int))
  | some b => if off > b.size ∨ len > b.size - off then (⟨#[]⟩, 1) else (b.extract off.toNat (off + len).toNat, 0)) := by
 induction d with
 | zero =>
  intro k i hi hk
  obtain ⟨k, rfl⟩ : ∃ m, k = m + 1 := ⟨k - 1, by omega⟩
  rw [oH.l0, iN (by rw [JV]; omega), List.drop_of_length_le (by omega)]
  rfl
 | succ d ih =>
  intro k i hi hk
  obtain ⟨k, rfl⟩ : ∃ m, k = m + 1 := ⟨k - 1, by omega⟩
  have hil : i < l.length := by omega
  have hd : l.drop i = l[i] :: l.drop (i + 1) := List.drop_eq_getElem_cons hil
  have hw : wrap64 ((i : Int) + 1) = ((i + 1 : Nat) : Int) := by unfold wrap64; omega
  have hb := hs l[i] (List.getElem_mem hil)
  rw [oH.l0, ip (by rw [JV]; omega), ip (by omega), YY l i hil, hd, hw]
  show (if l[i].f0.toList = key.toList then _ else _) = some (match fB ((l[i].f0, l[i].f1) :: fV (l.drop (i + 1))) key with
   | none => ((⟨#[]⟩ : ByteArray), (18 : Int))
   | some b => if off > b.size ∨ len > b.size - off then (⟨#[]⟩, 1) else (b.extract off.toNat (off + len).toNat, 0))
  rw [fB]
  by_cases hx : l[i].f0 = key
  · have hbq : (key == l[i].f0) = true := (MapKept.bytes_beq _ _).2 hx.symm
    rw [ip ((XJ _ _).2 hx), ip hbq]
    have hw1 : wrap64 ((l[i].f1.size : Int) - off) = (l[i].f1.size : Int) - off := by unfold wrap64; omega
    show (if off > (l[i].f1.size : Int) then _ else if len > wrap64 ((l[i].f1.size : Int) - off) then _ else _) = some (if off > (l[i].f1.size : Int) ∨ len > (l[i].f1.size : Int) - off then _ else _)
    rw [hw1]
    by_cases h1 : off > (l[i].f1.size : Int)
    · rw [ip h1, ip (.inl h1)]
    · rw [iN h1]
      by_cases h2 : len > (l[i].f1.size : Int) - off
      · rw [ip h2, ip (.inr h2)]
      · have hw2 : wrap64 (off + len) = off + len := by unfold wrap64; omega
        rw [iN h2, iN (show ¬ (off > (l[i].f1.size : Int) ∨ len > (l[i].f1.size : Int) - off) from fun h => h.elim h1 h2), hw2, ip ho.1, ip (by omega), ip (by show off + len ≤ (l[i].f1.size : Int); omega)]
  · have hbq : ¬ (key == l[i].f0) = true := fun h => hx ((MapKept.bytes_beq _ _).1 h).symm
    rw [iN (fun h => hx ((XJ _ _).1 h)), iN hbq]
    exact ih k (i + 1) (by omega) (by omega)
theorem Fb (l : List jK) (key : ByteArray) (hl : l.length ≤ 1000) (hkey : key.size ≤ 10000) (off len : Int) (ho : -9223372036854775808 ≤ off ∧ off < 9223372036854775808) (hle : -9223372036854775808 ≤ len ∧ len < 9223372036854775808) (hs : ∀ f ∈ l, f.f1.size ≤ 140737488351232) (k : Nat) (hk : 30000 ≤ k) :
 oH.f k (iL l) key off len = some (sJ (fV l) key off len) := by
 unfold oH.f sJ
 rw [Gs key (by omega) k (by omega), Option.bind_some]
 cases hb : yF key with
 | false => rfl
 | true =>
  rw [ip rfl, ip rfl]
  by_cases h1 : off < 0
  · obtain ⟨k, rfl⟩ : ∃ m, k = m + 1 := ⟨k - 1, by omega⟩
    rw [ip h1, ip (.inl h1)]; rfl
  · rw [iN h1]
    by_cases h2 : len < 0
    · obtain ⟨k, rfl⟩ : ∃ m, k = m + 1 := ⟨k - 1, by omega⟩
      rw [dT h2, ip (.inr h2)]; rfl
    · rw [dF h2, iN (fun h => h.elim h1 h2)]
      obtain ⟨k, rfl⟩ : ∃ m, k = m + 1 := ⟨k - 1, by omega⟩
      have h := Zk l key hl off len (by omega) (by omega) hs l.length k 0 (by omega) (by omega)
      rw [List.drop_zero] at h
      rw [oH.j0, iN (by simp)]
      exact h
def aAc (l : List jK) (w : World) (e : Ending) (w' : World) : Prop :=
 ∃ (m : Option Nat) (A : Option Addr) (n c : Nat) (ok : Bool), e = .returned (.tuple #[.agg #[.map m], .slice A n c, .bool ok]) ∧ Below w.heap.size w w' ∧
  (ok = true → BJ l = 0 ∧ KA l ≤ 10000 ∧ l.length ≤ 64 ∧ oZ w' m (fV l) ∧ n = (iL l).length ∧ n ≤ c ∧ Kd.C zX w' A (iL l).length (iL l))
structure EH (w w' : World) (gr gs : Nat) (m : Option Nat) (A : Option Addr) (l : List jK) (L : List (ByteArray × ByteArray)) : Prop where
 b : Below w.heap.size w w'
 s : w'.heap[gs]? = some (.cells #[.map m] 25 (0, 0))
 ne : gs ≠ gr
 g : w.heap.size ≤ gr
 gl : gr < w'.heap.size
 sm : oZ w' m L
 l0 : Kd.C JB w A l.length l
theorem EH.l {w w' : World} {gr gs : Nat} {m : Option Nat} {A : Option Addr} {l : List jK} {L : List (ByteArray × ByteArray)} (h : EH w w' gr gs m A l L) : Kd.C JB w' A l.length l := Kd.gN h.l0 h.b
theorem EH.step {w w' V : World} {gr gs : Nat} {m : Option Nat} {A : Option Addr} {l : List jK} {L : List (ByteArray × ByteArray)} (h : EH w w' gr gs m A l L) (hB : Below w'.heap.size w' V) : EH w V gr gs m A l L :=
 ⟨jV h.b hB, oK h.s hB, h.ne, h.g, Nat.lt_of_lt_of_le h.gl hB.size, h.sm.kept hB, h.l0⟩
theorem aAv {l : List jK} (h : BJ l = 0) : l.length ≤ 64 := by
 unfold BJ at h
 by_cases c : l.length > 64
 · rw [ip c] at h; exact absurd h (by decide)
 · omega
theorem EH.put {w w' : World} {gr gs : Nat} {m : Option Nat} {A : Option Addr} {l : List jK} {L : List (ByteArray × ByteArray)} (h : EH w w' gr gs m A l L) {cs : Array Value} {t : Nat} (hg : w'.heap[gr]? = some (.cells cs t (0, 0))) : EH w (w'.setCell ⟨gr, 0, none⟩ (.map m)) gr gs m A l L :=
 ⟨fD h.b h.g, PV h.s h.ne _, h.ne, h.g, jB (jT hg 0 (.map m)), h.sm.set hg _, h.l0⟩
def IQ.VY : Bool × List (List Nat × List Nat) := (true, [([], []), ([], []), ([1], [1]), ([], []), ([3], [3]), ([4, 2], [4]), ([5], [5]), ([6, 5, 5], [5, 6]), ([7, 7, 5], [5, 7]), ([8, 5], [5, 8]), ([5, 9], [5, 9]), ([0, 8, 0], [0]), ([2, 11, 0, 1, 2, 11], [2]), ([10, 12, 0, 1, 2, 3, 4, 5, 6, 7, 8, 9, 10, 11, 12], [10])])
def IQ.B10 : List Nat := [0, 0, 2, 0, 8, 30, 62, 126, 254, 510, 1022, 511, 2559, 8191]
theorem IQ.qa : jU .any (opsOf Tryz.f5 10) = IQ.VY := by kernel_rfl
theorem IQ.jo : uK IQ.VY.2 IQ.B10 = true := by kernel_rfl
theorem aAd (A : Option Addr) (c : Nat) (l : List jK) (w : World) (hr : Kd.C JB w A l.length l) (hc : l.length ≤ c) (hl : l.length ≤ 4398046510976) (hs : ∀ f ∈ l, f.f0.size ≤ 140737488351232 ∧ f.f1.size ≤ 140737488351232) :
 Calls Tryz.prog 5 #[.slice A l.length c] w (aAc l w) := by
 have hu := Tryz.underlying25
 have hu2 := Tryz.underlying50
 have HR := aC.mk hr
 have mQ := aC.mk hc
 have HL := aC.mk hl
 have uV := aC.mk hs
 have HB := aC.mk (Below.refl w.heap.size w)
 clear hr hc hs hl
 go_enter Tryz.func5, Tryz.ntmps5
 go_wp2_with (first | ((with_reducible refine cK (N := 2) rfl ?_); refine dB (N := 2) (cs := #[.map none]) (t := 25) ?_; intro gr hg w1 aG hb; have BR := aA aG; have GR := bB HB hg; replace HB := hbS HB hb; clear hb aG hg))
 go_loopg [5, 7, 12] l.length (fun kq v5 v7 v12 w' => ∃ i : Nat, v12 = .int .i64 i ∧ v5 = .int .i64 ((KA (l.take i) : Nat) : Int) ∧ aC (i + kq = l.length) ∧ aC (KA (l.take i) ≤ 10000) ∧ aC (Below w.heap.size w w') ∧ aC (w'.heap[gr]? = some (.cells #[.map none] 25 (0, 0))))
 case atStart => exact ⟨0, rfl, rfl, ⟨by omega⟩, ⟨Nat.zero_le _⟩, HB, BR⟩
 case round =>
 clear HB BR
 obtain ⟨i, rfl, rfl, HN, HS, HB, BR⟩ := hrel
 by_cases hlt : i < l.length
 · have hlt' : decide ((i : Int) < (l.length : Int)) = true := dT (by omega)
   obtain ⟨kk, rfl⟩ : ∃ m, gk = m + 1 := ⟨gk - 1, by have := HN.out; omega⟩
   have dL : 0 ≤ (i : Int) := Int.natCast_nonneg i
   have dM : (i : Int) < (l.length : Int) := by omega
   obtain ⟨lD, iM, gD, kR⟩ := jm (Kd.gN HR.out HB.out) (i : Int) dL dM
   cases iM
   rw [Int.toNat_natCast] at gD kR
   have hrd : rC l (i : Int) = l[i] := by simp [rC, hlt]
   rw [hrd] at gD kR
   have G_ := aC.mk (Zt l i hlt)
   have HZ := aC.mk (uV.out l[i] (List.getElem_mem hlt))
   clear hrd
   generalize l[i] = x at gD kR G_ HZ
   obtain ⟨x0, x1⟩ := x
   have hz0 : x0.size ≤ 9223372036854775807 := by have := HZ.out.1; dsimp only at this; omega
   have hz1 : x1.size ≤ 9223372036854775807 := by have := HZ.out.2; dsimp only at this; omega
   have HI := aC.mk hlt
   have Hw : aC (wrap64 ((i : Int) + 1) = (i : Int) + 1) := ⟨by have := HL.out; exact fC (by omega) (by omega)⟩
   obtain ⟨S, hS⟩ : ∃ S : Nat, KA (l.take i) = S := ⟨_, rfl⟩
   rw [hS] at G_ HS ⊢
   have hw1 : IntKind.i64.wrap ((x0.size : Int) + (x1.size : Int)) = (x0.size : Int) + (x1.size : Int) := by rw [dC]; have := HZ.out; dsimp only at this; exact fC (by omega) (by omega)
   have hw2 : IntKind.i64.wrap ((S : Int) + ((x0.size : Int) + (x1.size : Int))) = (S : Int) + ((x0.size : Int) + (x1.size : Int)) := by rw [dC]; have h1 := HZ.out; have := HS.out; dsimp only at h1; exact fC (by omega) (by omega)
   clear hlt hS
   replace dL := eT dL
   replace dM := eT dM
   by_cases hg : S + (x0.size + x1.size) > 10000
   · have hg' : decide (10000 < (S : Int) + ((x0.size : Int) + (x1.size : Int))) = true := dT (by omega)
     clear hg
     have NB : True := trivial
     go_wp2_with (first | ((with_reducible refine cK (N := 7) rfl ?_); refine dB (N := 7) (cs := #[.string ⟨#[]⟩, .string ⟨#[]⟩]) (t := 50) ?_; intro gb hg w6 aG hb; have BK := aA aG; have GW := bB HB hg; have RU := cO BR hg; replace BR := aI BR hb; replace HB := hbS HB hb; clear hb aG hg; obtain ⟨d_, f_⟩ := yN BK; have uh := fz BK 0; have ui := fz BK 1; have hr0 := iA BR; have fJ := fz BR 0; have n1 := RU.out; have n2 := Ne.symm RU.out))
     refine bodyPost_ret (wX rfl _ _ gr 25 #[.map none] (0, 0) _ rfl (aU BR) hu rfl (by kernel_rfl)) rfl ?_
     exact ⟨none, none, 0, 0, false, rfl, fD (fD (fD HB.out GW.out) GW.out) GR.out, fun h => by cases h⟩
   · have hg' : decide (10000 < (S : Int) + ((x0.size : Int) + (x1.size : Int))) = false := dF (by omega)
     have HG := aC.mk hg
     clear hg
     go_wp2_with (first | ((with_reducible refine cK (N := 7) rfl ?_); refine dB (N := 7) (cs := #[.string ⟨#[]⟩, .string ⟨#[]⟩]) (t := 50) ?_; intro gb hg w6 aG hb; have BK := aA aG; have GW := bB HB hg; have RU := cO BR hg; replace BR := aI BR hb; replace HB := hbS HB hb; clear hb aG hg; obtain ⟨d_, f_⟩ := yN BK; have uh := fz BK 0; have ui := fz BK 1))
     go_roundg kk
     case measure => omega
     case rel => exact ⟨i + 1, by rw [Hw.out]; rfl, by rw [G_.out]; rfl, ⟨by have := HN.out; omega⟩, ⟨by rw [G_.out]; have := HG.out; omega⟩, ⟨fD (fD HB.out GW.out) GW.out⟩, ⟨aU BR⟩⟩
 · have hge : decide ((i : Int) < (l.length : Int)) = false := dF (by omega)
   have hi : i = l.length := by
    have := HN.out
    omega
   subst hi
   rw [List.take_length] at HS ⊢
   clear hlt HN
   go_wp2_with (first | fail)
   refine (aAZ A c l _ (Kd.gN HR.out HB.out) mQ.out (fun f hf => by have := (uV.out f hf).1; omega)).mono ?_
   rintro e w2 ⟨m, rfl, hM, hb⟩
   replace BR := aI BR hb
   replace HB := hbS HB hb
   have HM := aA hM
   clear hb hM
   obtain ⟨C, hC⟩ : ∃ C, BJ l = C := ⟨_, rfl⟩
   have xx := aC.mk hC
   rw [hC] at HM ⊢
   clear hC
   by_cases hC0 : C = 0
   · subst hC0
     have HF := aC.mk (aAv xx.out)
     have HNf := aC.mk (show oI.f 1100000 (iL l) = some 0 from by rw [aAF l (by have := HF.out; omega) (fun f hf => by have h1 := Gv hf; have h2 := HS.out; omega) 1100000 (Nat.le_refl _), xx.out])
     rw [ip rfl] at HM
     go_wp2_with (first | ((with_reducible refine cK (N := 8) rfl ?_); refine dB (N := 8) (cs := #[.map none]) (t := 25) ?_; intro gs hg Bn aG hb; have BS := aA aG; have GS := bB HB hg; have zo := cO BR hg; have KM := dD BR hg; replace BR := aI BR hb; replace HM := aA (HM.out.kept hb); replace HB := hbS HB hb; clear hb aG hg; have hs0 := iA BS; have OY := fz BS 0))
     obtain ⟨w3, hw⟩ : ∃ wb, wb = Bn.setCell ⟨gs, 0, none⟩ (.map m) := ⟨_, rfl⟩
     rw [← hw]
     replace BR := aA (show w3.drew.heap[gr]? = some _ from by rw [hw]; exact kU (aU BR))
     have hrl := jB BR.out
     rw [hw] at hrl
     have CB := aA (show EH w w3.drew gr gs m A l (fV l) from by rw [hw]; exact ⟨iO (fD HB.out GS.out), kU (aU BS), KM.out, GR.out, hrl, HM.out.set BS.out _, HR.out⟩)
     have F_ := aC.mk (Nr l (by have := HL.out; omega))
     clear hw HM HB hs0 OY BS GS zo KM
     refine vQ (n := 14) (S := fun w' => True) (ds := []) #[false, false, false, false, false, false, false, false, false, false, false, false, false, false] (by kernel_rfl) rfl rfl trivial (fun hHeld => ?_)
     refine G6 IQ.qa IQ.jo (fun gP pX => ?_)
     generalize w3.drew = wd at CB BR hHeld ⊢
     refine QA [0, 1, 2, 3, 4, 5, 6, 7, 8, 9, 10, 11, 12, 13] (fun F7 b a w' => ∃ (p1 : Option Addr) (q1 : Nat) (p7 : Option Addr) (q7 : Nat) (gQ : Value) (eY : Value) (iB : Value), a = kV F7 b [(0, 34, .agg #[.map m]), (1, 35, .slice A l.length c), (2, 36, gQ), (3, 37, .int .i64 0), (4, 38, .bool true), (5, 39, .bool true), (6, 40, .slice A l.length c), (7, 41, eY), (8, 42, .int .i64 0), (9, 43, .bool true), (10, 44, .bool true), (12, 3, iB), (13, 4, .bool true)] ∧ (EH w w' gr gs m A l (fV l)) ∧ (b 11 = false → w'.heap[gr]? = some (.cells #[.map none] 25 (0, 0))) ∧ (b 11 = true → w'.heap[gr]? = some (.cells #[.map m] 25 (0, 0))) ∧ (b 2 = true → (iL l).length ≤ q1 ∧ Kd.F zX w' (fun k => k ≠ gr) p1 (iL l).length (iL l)) ∧ (b 7 = true → (iL l).length ≤ q7 ∧ Kd.F zX w' (fun k => k ≠ gr) p7 (iL l).length (iL l)) ∧ (b 2 = true → (gQ : Value) = .slice p1 (iL l).length q1) ∧ (b 7 = true → (eY : Value) = .slice p7 (iL l).length q7) ∧ (b 12 = true → (iB : Value) = .slice p1 (iL l).length q1)) gP.out pX.out (by kernel_rfl) (by kernel_rfl) ?_ ?_ ?_
     · exact ⟨none, 0, none, 0, .bool false, .bool false, .bool false, by simp only [kV, Bool.false_eq_true, if_false], CB.out, fun _ => BR.out, fun h_ => absurd h_ (by decide), fun h_ => absurd h_ (by decide), fun h_ => absurd h_ (by decide), fun h_ => absurd h_ (by decide), fun h_ => absurd h_ (by decide), fun h_ => absurd h_ (by decide)⟩
     · skip
       skip
       refine gG ?_ ?_
       · rintro b a w' ⟨p1, q1, p7, q7, gQ, eY, iB, ha, aW, bW, fA, dA, oP, iG, gV, lC⟩ bZ hon hoff
         refine ⟨_, rfl, fun K hK => ?_⟩
         have e8 : a.tmps[8]? = some (.pointer (some ⟨gs, 0, none⟩)) := by rw [ha]; exact (nT rfl).trans rfl
         replace ha := aC.mk ha
         have R := aC.mk aW
         have G0 := aC.mk (bW (hoff 11 (by kernel_rfl)))
         have s0_ : w'.cell? ⟨gs, 0, none⟩ = some (.map m) := aM R.out.s 0
         refine iF (w1 := w') (v := .agg #[.map m]) (by rfl) rfl ?_ ?_
         · go_simp
           (try simp only [dC])
           try rfl
         refine hK.out _ _ ⟨p1, q1, p7, q7, gQ, eY, iB, (by rw [ha.out]; exact gM 0 bZ rfl rfl rfl), aW, bW, fun aQ => absurd ((hoff 11 (by kernel_rfl)).symm.trans aQ) (by decide), dA, oP, iG, gV, fun aQ => absurd ((hoff 12 (by kernel_rfl)).symm.trans aQ) (by decide)⟩
       refine gG ?_ ?_
       · rintro b a w' ⟨p1, q1, p7, q7, gQ, eY, iB, ha, aW, bW, fA, dA, oP, iG, gV, lC⟩ bZ hon hoff
         refine ⟨_, rfl, fun K hK => ?_⟩
         have e0 : a.tmps[0]? = some (.slice A l.length c) := by rw [ha]; exact (nT rfl).trans rfl
         replace ha := aC.mk ha
         have R := aC.mk aW
         have G0 := aC.mk (bW (hoff 11 (by kernel_rfl)))
         refine iF (w1 := w') (v := .slice A l.length c) (by rfl) rfl ?_ ?_
         · go_simp
           (try simp only [dC])
           try rfl
         refine hK.out _ _ ⟨p1, q1, p7, q7, gQ, eY, iB, (by rw [ha.out]; exact gM 1 bZ rfl rfl rfl), aW, bW, fun aQ => absurd ((hoff 11 (by kernel_rfl)).symm.trans aQ) (by decide), fun aQ => absurd ((hoff 2 (by kernel_rfl)).symm.trans aQ) (by decide), fun aQ => absurd ((hoff 7 (by kernel_rfl)).symm.trans aQ) (by decide), fun aQ => absurd ((hoff 2 (by kernel_rfl)).symm.trans aQ) (by decide), fun aQ => absurd ((hoff 7 (by kernel_rfl)).symm.trans aQ) (by decide), fun aQ => absurd ((hoff 12 (by kernel_rfl)).symm.trans aQ) (by decide)⟩
       refine gG ?_ ?_
       · rintro b a w' ⟨p1, q1, p7, q7, gQ, eY, iB, ha, aW, bW, fA, dA, oP, iG, gV, lC⟩ bZ hon hoff
         refine ⟨_, rfl, fun K hK => ?_⟩
         have e35 : a.tmps[35]? = some (.slice A l.length c) := by rw [ha]; exact fK (e := (1, 35, .slice A l.length c)) 1 rfl rfl (hon 1 (by kernel_rfl)) rfl
         replace ha := aC.mk ha
         have R := aC.mk aW
         have G0 := aC.mk (bW (hoff 11 (by kernel_rfl)))
         refine call_ 15 #[.slice A l.length c] (by rfl) rfl (by go_simp; try rfl) ?_
         refine (vC.calls (l.length + 1) A c l (iL l) w' R.out.l mQ.out F_.out).mono ?_
         rintro e w1 ⟨v0, rfl, hO, hB⟩
         obtain ⟨r1, s1, rfl⟩ := Kd.jF hO
         refine ⟨_, rfl, ?_⟩
         refine hK.out _ _ ⟨r1, s1, p7, q7, (.slice r1 (iL l).length s1), eY, iB, (by rw [ha.out]; exact gM 2 bZ rfl rfl rfl), R.out.step hB, fun _ => oK G0.out hB, fun aQ => absurd ((hoff 11 (by kernel_rfl)).symm.trans aQ) (by decide), fun _ => ⟨(Kd.jA hO).2.1, Kd.KN (Kd.eO (Kd.nU hO) (fun k hk => by have := R.out.gl; have := hk.2.1; omega))⟩, fun aQ => absurd ((hoff 7 (by kernel_rfl)).symm.trans aQ) (by decide), fun _ => rfl, fun aQ => absurd ((hoff 7 (by kernel_rfl)).symm.trans aQ) (by decide), fun aQ => absurd ((hoff 12 (by kernel_rfl)).symm.trans aQ) (by decide)⟩
       refine gG ?_ ?_
       · rintro b a w' ⟨p1, q1, p7, q7, gQ, eY, iB, ha, aW, bW, fA, dA, oP, iG, gV, lC⟩ bZ hon hoff
         refine ⟨_, rfl, fun K hK => ?_⟩
         have e9 : a.tmps[9]? = some (.int .i64 0) := by rw [ha]; exact (nT rfl).trans rfl
         replace ha := aC.mk ha
         have R := aC.mk aW
         have G0 := aC.mk (bW (hoff 11 (by kernel_rfl)))
         refine iF (w1 := w') (v := .int .i64 0) (by rfl) rfl ?_ ?_
         · go_simp
           (try simp only [dC])
           try rfl
         refine hK.out _ _ ⟨p1, q1, p7, q7, gQ, eY, iB, (by rw [ha.out]; exact gM 3 bZ rfl rfl rfl), aW, bW, fun aQ => absurd ((hoff 11 (by kernel_rfl)).symm.trans aQ) (by decide), dA, fun aQ => absurd ((hoff 7 (by kernel_rfl)).symm.trans aQ) (by decide), iG, fun aQ => absurd ((hoff 7 (by kernel_rfl)).symm.trans aQ) (by decide), fun aQ => absurd ((hoff 12 (by kernel_rfl)).symm.trans aQ) (by decide)⟩
       refine gG ?_ ?_
       · rintro b a w' ⟨p1, q1, p7, q7, gQ, eY, iB, ha, aW, bW, fA, dA, oP, iG, gV, lC⟩ bZ hon hoff
         refine ⟨_, rfl, fun K hK => ?_⟩
         have e37 : a.tmps[37]? = some (.int .i64 0) := by rw [ha]; exact fK (e := (3, 37, .int .i64 0)) 3 rfl rfl (hon 3 (by kernel_rfl)) rfl
         replace ha := aC.mk ha
         have R := aC.mk aW
         have G0 := aC.mk (bW (hoff 11 (by kernel_rfl)))
         refine iF (w1 := w') (v := .bool true) (by rfl) rfl ?_ ?_
         · go_simp
           (try simp only [dC])
           try rfl
         refine hK.out _ _ ⟨p1, q1, p7, q7, gQ, eY, iB, (by rw [ha.out]; exact gM 4 bZ rfl rfl rfl), aW, bW, fun aQ => absurd ((hoff 11 (by kernel_rfl)).symm.trans aQ) (by decide), dA, fun aQ => absurd ((hoff 7 (by kernel_rfl)).symm.trans aQ) (by decide), iG, fun aQ => absurd ((hoff 7 (by kernel_rfl)).symm.trans aQ) (by decide), fun aQ => absurd ((hoff 12 (by kernel_rfl)).symm.trans aQ) (by decide)⟩
       refine gG ?_ ?_
       · rintro b a w' ⟨p1, q1, p7, q7, gQ, eY, iB, ha, aW, bW, fA, dA, oP, iG, gV, lC⟩ bZ hon hoff
         refine ⟨_, rfl, fun K hK => ?_⟩
         have e38 : a.tmps[38]? = some (.bool true) := by rw [ha]; exact fK (e := (4, 38, .bool true)) 4 rfl rfl (hon 4 (by kernel_rfl)) rfl
         replace ha := aC.mk ha
         have R := aC.mk aW
         have G0 := aC.mk (bW (hoff 11 (by kernel_rfl)))
         have O := aC.mk (dA (hon 2 (by kernel_rfl)))
         refine iF (w1 := w') (v := .bool true) (by rfl) rfl ?_ ?_
         · go_simp
           (try simp only [dC])
           try rfl
         refine hK.out _ _ ⟨p1, q1, p7, q7, gQ, eY, iB, (by rw [ha.out]; exact gM 5 bZ rfl rfl rfl), aW, bW, fun aQ => absurd ((hoff 11 (by kernel_rfl)).symm.trans aQ) (by decide), dA, fun aQ => absurd ((hoff 7 (by kernel_rfl)).symm.trans aQ) (by decide), iG, fun aQ => absurd ((hoff 7 (by kernel_rfl)).symm.trans aQ) (by decide), fun aQ => absurd ((hoff 12 (by kernel_rfl)).symm.trans aQ) (by decide)⟩
       refine gG ?_ ?_
       · rintro b a w' ⟨p1, q1, p7, q7, gQ, eY, iB, ha, aW, bW, fA, dA, oP, iG, gV, lC⟩ bZ hon hoff
         refine ⟨_, rfl, fun K hK => ?_⟩
         have e0 : a.tmps[0]? = some (.slice A l.length c) := by rw [ha]; exact (nT rfl).trans rfl
         have e39 : a.tmps[39]? = some (.bool true) := by rw [ha]; exact fK (e := (5, 39, .bool true)) 5 rfl rfl (hon 5 (by kernel_rfl)) rfl
         replace ha := aC.mk ha
         have R := aC.mk aW
         have G0 := aC.mk (bW (hoff 11 (by kernel_rfl)))
         have O := aC.mk (dA (hon 2 (by kernel_rfl)))
         refine iF (w1 := w') (v := .slice A l.length c) (ER rfl rfl rfl (e39.trans (by first | rfl | (simp [*]; done)))) rfl ?_ ?_
         · go_simp
           (try simp only [dC])
           try rfl
         refine hK.out _ _ ⟨p1, q1, p7, q7, gQ, eY, iB, (by rw [ha.out]; exact gM 6 bZ rfl rfl rfl), aW, bW, fun aQ => absurd ((hoff 11 (by kernel_rfl)).symm.trans aQ) (by decide), dA, fun aQ => absurd ((hoff 7 (by kernel_rfl)).symm.trans aQ) (by decide), iG, fun aQ => absurd ((hoff 7 (by kernel_rfl)).symm.trans aQ) (by decide), fun aQ => absurd ((hoff 12 (by kernel_rfl)).symm.trans aQ) (by decide)⟩
       refine gG ?_ ?_
       · rintro b a w' ⟨p1, q1, p7, q7, gQ, eY, iB, ha, aW, bW, fA, dA, oP, iG, gV, lC⟩ bZ hon hoff
         refine ⟨_, rfl, fun K hK => ?_⟩
         have e40 : a.tmps[40]? = some (.slice A l.length c) := by rw [ha]; exact fK (e := (6, 40, .slice A l.length c)) 6 rfl rfl (hon 6 (by kernel_rfl)) rfl
         have e39 : a.tmps[39]? = some (.bool true) := by rw [ha]; exact fK (e := (5, 39, .bool true)) 5 rfl rfl (hon 5 (by kernel_rfl)) rfl
         replace ha := aC.mk ha
         have R := aC.mk aW
         have G0 := aC.mk (bW (hoff 11 (by kernel_rfl)))
         have O := aC.mk (dA (hon 2 (by kernel_rfl)))
         refine call_ 15 #[.slice A l.length c] (ER rfl rfl rfl (e39.trans rfl)) rfl (by go_simp; try rfl) ?_
         refine (vC.calls (l.length + 1) A c l (iL l) w' R.out.l mQ.out F_.out).mono ?_
         rintro e w1 ⟨v0, rfl, hO, hB⟩
         obtain ⟨r1, s1, rfl⟩ := Kd.jF hO
         refine ⟨_, rfl, ?_⟩
         refine hK.out _ _ ⟨p1, q1, r1, s1, gQ, (.slice r1 (iL l).length s1), iB, (by rw [ha.out]; exact gM 7 bZ rfl rfl rfl), R.out.step hB, fun _ => oK G0.out hB, fun aQ => absurd ((hoff 11 (by kernel_rfl)).symm.trans aQ) (by decide), fun _ => ⟨O.out.1, kZ O.out.2 hB⟩, fun _ => ⟨(Kd.jA hO).2.1, Kd.KN (Kd.eO (Kd.nU hO) (fun k hk => by have := R.out.gl; have := hk.2.1; omega))⟩, iG, fun _ => rfl, fun aQ => absurd ((hoff 12 (by kernel_rfl)).symm.trans aQ) (by decide)⟩
       refine gG ?_ ?_
       · rintro b a w' ⟨p1, q1, p7, q7, gQ, eY, iB, ha, aW, bW, fA, dA, oP, iG, gV, lC⟩ bZ hon hoff
         refine ⟨_, rfl, fun K hK => ?_⟩
         have e41 : a.tmps[41]? = some (eY) := by rw [ha]; exact fK (e := (7, 41, eY)) 7 rfl rfl (hon 7 (by kernel_rfl)) rfl
         rw [gV (hon 7 (by kernel_rfl))] at e41
         have e39 : a.tmps[39]? = some (.bool true) := by rw [ha]; exact fK (e := (5, 39, .bool true)) 5 rfl rfl (hon 5 (by kernel_rfl)) rfl
         replace ha := aC.mk ha
         have R := aC.mk aW
         have G0 := aC.mk (bW (hoff 11 (by kernel_rfl)))
         have O := aC.mk (dA (hon 2 (by kernel_rfl)))
         have P := aC.mk (oP (hon 7 (by kernel_rfl)))
         refine call_ 16 #[.slice p7 (iL l).length q7] (ER rfl rfl rfl (e39.trans rfl)) rfl (by go_simp; try rfl) ?_
         refine (oI.calls 1100000 p7 q7 (iL l) 0 w' (Kd.mK P.out.2) P.out.1 HNf.out).mono ?_
         rintro e w1 ⟨rfl, ⟨nd, rfl⟩⟩
         have hB := nS (Below.refl w'.heap.size w') nd
         refine ⟨_, rfl, ?_⟩
         refine hK.out _ _ ⟨p1, q1, p7, q7, gQ, eY, iB, (by rw [ha.out]; exact gM 8 bZ rfl rfl rfl), R.out.step hB, fun _ => oK G0.out hB, fun aQ => absurd ((hoff 11 (by kernel_rfl)).symm.trans aQ) (by decide), fun _ => ⟨O.out.1, kZ O.out.2 hB⟩, fun _ => ⟨P.out.1, kZ P.out.2 hB⟩, iG, gV, fun aQ => absurd ((hoff 12 (by kernel_rfl)).symm.trans aQ) (by decide)⟩
       refine gG ?_ ?_
       · rintro b a w' ⟨p1, q1, p7, q7, gQ, eY, iB, ha, aW, bW, fA, dA, oP, iG, gV, lC⟩ bZ hon hoff
         refine ⟨_, rfl, fun K hK => ?_⟩
         have e42 : a.tmps[42]? = some (.int .i64 0) := by rw [ha]; exact fK (e := (8, 42, .int .i64 0)) 8 rfl rfl (hon 8 (by kernel_rfl)) rfl
         have e39 : a.tmps[39]? = some (.bool true) := by rw [ha]; exact fK (e := (5, 39, .bool true)) 5 rfl rfl (hon 5 (by kernel_rfl)) rfl
         replace ha := aC.mk ha
         have R := aC.mk aW
         have O := aC.mk (dA (hon 2 (by kernel_rfl)))
         have P := aC.mk (oP (hon 7 (by kernel_rfl)))
         refine iF (w1 := w') (v := .bool true) (ER rfl rfl rfl (e39.trans (by first | rfl | (simp [*]; done)))) rfl ?_ ?_
         · go_simp
           (try simp only [dC])
           try rfl
         refine hK.out _ _ ⟨p1, q1, p7, q7, gQ, eY, iB, (by rw [ha.out]; exact gM 9 bZ rfl rfl rfl), aW, bW, fA, dA, oP, iG, gV, lC⟩
       refine gG ?_ ?_
       · rintro b a w' ⟨p1, q1, p7, q7, gQ, eY, iB, ha, aW, bW, fA, dA, oP, iG, gV, lC⟩ bZ hon hoff
         refine ⟨_, rfl, fun K hK => ?_⟩
         have e39 : a.tmps[39]? = some (.bool true) := by rw [ha]; exact fK (e := (5, 39, .bool true)) 5 rfl rfl (hon 5 (by kernel_rfl)) rfl
         have e43 : a.tmps[43]? = some (.bool true) := by rw [ha]; exact fK (e := (9, 43, .bool true)) 9 rfl rfl (hon 9 (by kernel_rfl)) rfl
         replace ha := aC.mk ha
         have R := aC.mk aW
         have O := aC.mk (dA (hon 2 (by kernel_rfl)))
         have P := aC.mk (oP (hon 7 (by kernel_rfl)))
         refine iF (w1 := w') (v := .bool true) (by rfl) rfl ?_ ?_
         · go_simp
           (try simp only [dC])
           try rfl
         refine hK.out _ _ ⟨p1, q1, p7, q7, gQ, eY, iB, (by rw [ha.out]; exact gM 10 bZ rfl rfl rfl), aW, bW, fA, dA, oP, iG, gV, lC⟩
       refine gG ?_ ?_
       · rintro b a w' ⟨p1, q1, p7, q7, gQ, eY, iB, ha, aW, bW, fA, dA, oP, iG, gV, lC⟩ bZ hon hoff
         refine ⟨_, rfl, fun K hK => ?_⟩
         have e2 : a.tmps[2]? = some (.pointer (some ⟨gr, 0, none⟩)) := by rw [ha]; exact (nT rfl).trans rfl
         have e34 : a.tmps[34]? = some (.agg #[.map m]) := by rw [ha]; exact fK (e := (0, 34, .agg #[.map m])) 0 rfl rfl (hon 0 (by kernel_rfl)) rfl
         replace ha := aC.mk ha
         have R := aC.mk aW
         have G0 := aC.mk (bW bZ)
         have O := aC.mk (dA (hon 2 (by kernel_rfl)))
         have P := aC.mk (oP (hon 7 (by kernel_rfl)))
         have aQ := aM G0.out 0
         have f0_ := eZ G0.out 0
         refine J6 (w1 := w'.setCell ⟨gr, 0, none⟩ (.map m)) (by rfl) rfl ?_ ?_
         · go_simp
           try rfl
         refine hK.out _ _ ⟨p1, q1, p7, q7, gQ, eY, iB, (by rw [ha.out]; exact SI (v := undef) rfl), R.out.put G0.out, fun aQ => absurd ((zH b 11).symm.trans aQ) (by decide), fun _ => lH (cs := #[.map none]) G0.out 0 _ rfl, fun _ => ⟨O.out.1, Kd.FC O.out.2 (p := ⟨gr, 0, none⟩) (fun _ hk => hk) _⟩, fun _ => ⟨P.out.1, Kd.FC P.out.2 (p := ⟨gr, 0, none⟩) (fun _ hk => hk) _⟩, iG, gV, fun aQ => absurd ((hoff 12 (by kernel_rfl)).symm.trans aQ) (by decide)⟩
       refine gG ?_ ?_
       · rintro b a w' ⟨p1, q1, p7, q7, gQ, eY, iB, ha, aW, bW, fA, dA, oP, iG, gV, lC⟩ bZ hon hoff
         refine ⟨_, rfl, fun K hK => ?_⟩
         have e36 : a.tmps[36]? = some (gQ) := by rw [ha]; exact fK (e := (2, 36, gQ)) 2 rfl rfl (hon 2 (by kernel_rfl)) rfl
         rw [iG (hon 2 (by kernel_rfl))] at e36
         replace ha := aC.mk ha
         have R := aC.mk aW
         have G1 := aC.mk (fA (hon 11 (by kernel_rfl)))
         have O := aC.mk (dA (hon 2 (by kernel_rfl)))
         have P := aC.mk (oP (hon 7 (by kernel_rfl)))
         refine iF (w1 := w') (v := .slice p1 (iL l).length q1) (by rfl) rfl ?_ ?_
         · go_simp
           (try simp only [dC])
           try rfl
         refine hK.out _ _ ⟨p1, q1, p7, q7, gQ, eY, (.slice p1 (iL l).length q1), (by rw [ha.out]; exact gM 11 bZ rfl rfl rfl), aW, fun aQ => absurd ((hon 11 (by kernel_rfl)).symm.trans aQ) (by decide), fA, dA, oP, iG, gV, fun _ => rfl⟩
       refine gG ?_ ?_
       · rintro b a w' ⟨p1, q1, p7, q7, gQ, eY, iB, ha, aW, bW, fA, dA, oP, iG, gV, lC⟩ bZ hon hoff
         refine ⟨_, rfl, fun K hK => ?_⟩
         have e44 : a.tmps[44]? = some (.bool true) := by rw [ha]; exact fK (e := (10, 44, .bool true)) 10 rfl rfl (hon 10 (by kernel_rfl)) rfl
         replace ha := aC.mk ha
         have R := aC.mk aW
         have G1 := aC.mk (fA (hon 11 (by kernel_rfl)))
         have O := aC.mk (dA (hon 2 (by kernel_rfl)))
         have P := aC.mk (oP (hon 7 (by kernel_rfl)))
         refine iF (w1 := w') (v := .bool true) (by rfl) rfl ?_ ?_
         · go_simp
           (try simp only [dC])
           try rfl
         refine hK.out _ _ ⟨p1, q1, p7, q7, gQ, eY, iB, (by rw [ha.out]; exact gM 12 bZ rfl rfl rfl), aW, fun aQ => absurd ((hon 11 (by kernel_rfl)).symm.trans aQ) (by decide), fA, dA, oP, iG, gV, lC⟩
       exact PL
     · rintro b a w' hall ⟨p1, q1, p7, q7, gQ, eY, iB, ha, aW, bW, fA, dA, oP, iG, gV, lC⟩
       skip
       have wE := hall 0 (by kernel_rfl)
       have wF := hall 1 (by kernel_rfl)
       have r9 := hall 2 (by kernel_rfl)
       have wG := hall 3 (by kernel_rfl)
       have wH := hall 4 (by kernel_rfl)
       have wI := hall 5 (by kernel_rfl)
       have wJ := hall 6 (by kernel_rfl)
       have sD := hall 7 (by kernel_rfl)
       have tL := hall 8 (by kernel_rfl)
       have uS := hall 9 (by kernel_rfl)
       have zO := hall 10 (by kernel_rfl)
       have uP := hall 11 (by kernel_rfl)
       have IP := hall 12 (by kernel_rfl)
       have UQ := hall 13 (by kernel_rfl)
       subst ha
       obtain rfl := iG r9
       obtain rfl := gV sD
       obtain rfl := lC IP
       simp only [kV, wE, wF, r9, wG, wH, wI, wJ, sD, tL, uS, zO, uP, IP, UQ, if_true, Act.put, List.setIfInBounds_toArray, List.set_cons_zero, List.set_cons_succ]
       have R := aC.mk aW
       clear aW
       clear bW
       have G1 := aC.mk (fA uP)
       clear fA
       have O := aC.mk (dA r9)
       clear dA
       have P := aC.mk (oP sD)
       clear oP
       clear hall wE wF r9 wG wH wI wJ sD tL uS zO uP IP UQ
       go_wp2
       refine bodyPost_ret (wX rfl _ _ gr 25 #[.map m] (0, 0) _ rfl G1.out hu rfl (by kernel_rfl)) rfl ?_
       exact ⟨m, p1, _, q1, true, rfl, R.out.b, fun _ => ⟨xx.out, HS.out, HF.out, R.out.sm, rfl, O.out.1, Kd.mK O.out.2⟩⟩
   · have b0 : (C == 0) = false := beq_eq_false_iff_ne.2 hC0
     rw [iN hC0] at HM
     go_wp2_with (first | ((with_reducible refine cK (N := 8) rfl ?_); refine dB (N := 8) (cs := #[.map none]) (t := 25) ?_; intro gs hg Bn aG hb; have BS := aA aG; have GS := bB HB hg; have zo := cO BR hg; have KM := dD BR hg; replace BR := aI BR hb; replace HM := aA (HM.out.kept hb); replace HB := hbS HB hb; clear hb aG hg; have hs0 := iA BS; have OY := fz BS 0))
     obtain ⟨w3, hw⟩ : ∃ wb, wb = Bn.setCell ⟨gs, 0, none⟩ (.map m) := ⟨_, rfl⟩
     rw [← hw]
     replace BR := aA (show w3.drew.heap[gr]? = some _ from by rw [hw]; exact kU (aU BR))
     have hrl := jB BR.out
     rw [hw] at hrl
     have CB := aA (show EH w w3.drew gr gs m A l [] from by rw [hw]; exact ⟨iO (fD HB.out GS.out), kU (aU BS), KM.out, GR.out, hrl, HM.out.set BS.out _, HR.out⟩)
     have F_ := aC.mk (Nr l (by have := HL.out; omega))
     clear hw HM HB hs0 OY BS GS zo KM
     refine vQ (n := 14) (S := fun w' => True) (ds := []) #[false, false, false, false, false, false, false, false, false, false, false, false, false, false] (by kernel_rfl) rfl rfl trivial (fun hHeld => ?_)
     refine G6 IQ.qa IQ.jo (fun gP pX => ?_)
     generalize w3.drew = wd at CB BR hHeld ⊢
     refine QA [0, 1, 2, 3, 4, 5, 6, 7, 8, 9, 10, 11, 12, 13] (fun F7 b a w' => ∃ (p1 : Option Addr) (q1 : Nat) (gQ : Value) (iB : Value), a = kV F7 b [(0, 34, .agg #[.map m]), (1, 35, .slice A l.length c), (2, 36, gQ), (3, 37, .int .i64 C), (4, 38, .bool false), (5, 39, .bool false), (6, 40, undef), (7, 41, undef), (8, 42, undef), (9, 43, undef), (10, 44, .bool false), (12, 3, iB), (13, 4, .bool false)] ∧ (EH w w' gr gs m A l []) ∧ (b 11 = false → w'.heap[gr]? = some (.cells #[.map none] 25 (0, 0))) ∧ (b 11 = true → w'.heap[gr]? = some (.cells #[.map m] 25 (0, 0))) ∧ (b 2 = true → (iL l).length ≤ q1 ∧ Kd.F zX w' (fun k => k ≠ gr) p1 (iL l).length (iL l)) ∧ (b 2 = true → (gQ : Value) = .slice p1 (iL l).length q1) ∧ (b 12 = true → (iB : Value) = .slice p1 (iL l).length q1)) gP.out pX.out (by kernel_rfl) (by kernel_rfl) ?_ ?_ ?_
     · exact ⟨none, 0, .bool false, .bool false, by simp only [kV, Bool.false_eq_true, if_false], CB.out, fun _ => BR.out, fun h_ => absurd h_ (by decide), fun h_ => absurd h_ (by decide), fun h_ => absurd h_ (by decide), fun h_ => absurd h_ (by decide)⟩
     · skip
       skip
       refine gG ?_ ?_
       · rintro b a w' ⟨p1, q1, gQ, iB, ha, aW, bW, fA, dA, iG, lC⟩ bZ hon hoff
         refine ⟨_, rfl, fun K hK => ?_⟩
         have e8 : a.tmps[8]? = some (.pointer (some ⟨gs, 0, none⟩)) := by rw [ha]; exact (nT rfl).trans rfl
         replace ha := aC.mk ha
         have R := aC.mk aW
         have G0 := aC.mk (bW (hoff 11 (by kernel_rfl)))
         have s0_ : w'.cell? ⟨gs, 0, none⟩ = some (.map m) := aM R.out.s 0
         refine iF (w1 := w') (v := .agg #[.map m]) (by rfl) rfl ?_ ?_
         · go_simp
           (try simp only [dC])
           try rfl
         refine hK.out _ _ ⟨p1, q1, gQ, iB, (by rw [ha.out]; exact gM 0 bZ rfl rfl rfl), aW, bW, fun aQ => absurd ((hoff 11 (by kernel_rfl)).symm.trans aQ) (by decide), dA, iG, fun aQ => absurd ((hoff 12 (by kernel_rfl)).symm.trans aQ) (by decide)⟩
       refine gG ?_ ?_
       · rintro b a w' ⟨p1, q1, gQ, iB, ha, aW, bW, fA, dA, iG, lC⟩ bZ hon hoff
         refine ⟨_, rfl, fun K hK => ?_⟩
         have e0 : a.tmps[0]? = some (.slice A l.length c) := by rw [ha]; exact (nT rfl).trans rfl
         replace ha := aC.mk ha
         have R := aC.mk aW
         have G0 := aC.mk (bW (hoff 11 (by kernel_rfl)))
         refine iF (w1 := w') (v := .slice A l.length c) (by rfl) rfl ?_ ?_
         · go_simp
           (try simp only [dC])
           try rfl
         refine hK.out _ _ ⟨p1, q1, gQ, iB, (by rw [ha.out]; exact gM 1 bZ rfl rfl rfl), aW, bW, fun aQ => absurd ((hoff 11 (by kernel_rfl)).symm.trans aQ) (by decide), fun aQ => absurd ((hoff 2 (by kernel_rfl)).symm.trans aQ) (by decide), fun aQ => absurd ((hoff 2 (by kernel_rfl)).symm.trans aQ) (by decide), fun aQ => absurd ((hoff 12 (by kernel_rfl)).symm.trans aQ) (by decide)⟩
       refine gG ?_ ?_
       · rintro b a w' ⟨p1, q1, gQ, iB, ha, aW, bW, fA, dA, iG, lC⟩ bZ hon hoff
         refine ⟨_, rfl, fun K hK => ?_⟩
         have e35 : a.tmps[35]? = some (.slice A l.length c) := by rw [ha]; exact fK (e := (1, 35, .slice A l.length c)) 1 rfl rfl (hon 1 (by kernel_rfl)) rfl
         replace ha := aC.mk ha
         have R := aC.mk aW
         have G0 := aC.mk (bW (hoff 11 (by kernel_rfl)))
         refine call_ 15 #[.slice A l.length c] (by rfl) rfl (by go_simp; try rfl) ?_
         refine (vC.calls (l.length + 1) A c l (iL l) w' R.out.l mQ.out F_.out).mono ?_
         rintro e w1 ⟨v0, rfl, hO, hB⟩
         obtain ⟨r1, s1, rfl⟩ := Kd.jF hO
         refine ⟨_, rfl, ?_⟩
         refine hK.out _ _ ⟨r1, s1, (.slice r1 (iL l).length s1), iB, (by rw [ha.out]; exact gM 2 bZ rfl rfl rfl), R.out.step hB, fun _ => oK G0.out hB, fun aQ => absurd ((hoff 11 (by kernel_rfl)).symm.trans aQ) (by decide), fun _ => ⟨(Kd.jA hO).2.1, Kd.KN (Kd.eO (Kd.nU hO) (fun k hk => by have := R.out.gl; have := hk.2.1; omega))⟩, fun _ => rfl, fun aQ => absurd ((hoff 12 (by kernel_rfl)).symm.trans aQ) (by decide)⟩
       refine gG ?_ ?_
       · rintro b a w' ⟨p1, q1, gQ, iB, ha, aW, bW, fA, dA, iG, lC⟩ bZ hon hoff
         refine ⟨_, rfl, fun K hK => ?_⟩
         have e9 : a.tmps[9]? = some (.int .i64 C) := by rw [ha]; exact (nT rfl).trans rfl
         replace ha := aC.mk ha
         have R := aC.mk aW
         have G0 := aC.mk (bW (hoff 11 (by kernel_rfl)))
         refine iF (w1 := w') (v := .int .i64 C) (by rfl) rfl ?_ ?_
         · go_simp
           (try simp only [dC])
           try rfl
         refine hK.out _ _ ⟨p1, q1, gQ, iB, (by rw [ha.out]; exact gM 3 bZ rfl rfl rfl), aW, bW, fun aQ => absurd ((hoff 11 (by kernel_rfl)).symm.trans aQ) (by decide), dA, iG, fun aQ => absurd ((hoff 12 (by kernel_rfl)).symm.trans aQ) (by decide)⟩
       refine gG ?_ ?_
       · rintro b a w' ⟨p1, q1, gQ, iB, ha, aW, bW, fA, dA, iG, lC⟩ bZ hon hoff
         refine ⟨_, rfl, fun K hK => ?_⟩
         have e37 : a.tmps[37]? = some (.int .i64 C) := by rw [ha]; exact fK (e := (3, 37, .int .i64 C)) 3 rfl rfl (hon 3 (by kernel_rfl)) rfl
         replace ha := aC.mk ha
         have R := aC.mk aW
         have G0 := aC.mk (bW (hoff 11 (by kernel_rfl)))
         refine iF (w1 := w') (v := .bool false) (by rfl) rfl ?_ ?_
         · go_simp
           (try simp only [dC])
           try rfl
         refine hK.out _ _ ⟨p1, q1, gQ, iB, (by rw [ha.out]; exact gM 4 bZ rfl rfl rfl), aW, bW, fun aQ => absurd ((hoff 11 (by kernel_rfl)).symm.trans aQ) (by decide), dA, iG, fun aQ => absurd ((hoff 12 (by kernel_rfl)).symm.trans aQ) (by decide)⟩
       refine gG ?_ ?_
       · rintro b a w' ⟨p1, q1, gQ, iB, ha, aW, bW, fA, dA, iG, lC⟩ bZ hon hoff
         refine ⟨_, rfl, fun K hK => ?_⟩
         have e38 : a.tmps[38]? = some (.bool false) := by rw [ha]; exact fK (e := (4, 38, .bool false)) 4 rfl rfl (hon 4 (by kernel_rfl)) rfl
         replace ha := aC.mk ha
         have R := aC.mk aW
         have G0 := aC.mk (bW (hoff 11 (by kernel_rfl)))
         have O := aC.mk (dA (hon 2 (by kernel_rfl)))
         refine iF (w1 := w') (v := .bool false) (by rfl) rfl ?_ ?_
         · go_simp
           (try simp only [dC])
           try rfl
         refine hK.out _ _ ⟨p1, q1, gQ, iB, (by rw [ha.out]; exact gM 5 bZ rfl rfl rfl), aW, bW, fun aQ => absurd ((hoff 11 (by kernel_rfl)).symm.trans aQ) (by decide), dA, iG, fun aQ => absurd ((hoff 12 (by kernel_rfl)).symm.trans aQ) (by decide)⟩
       refine gG ?_ ?_
       · rintro b a w' ⟨p1, q1, gQ, iB, ha, aW, bW, fA, dA, iG, lC⟩ bZ hon hoff
         refine ⟨_, rfl, fun K hK => ?_⟩
         have e39 : a.tmps[39]? = some (.bool false) := by rw [ha]; exact fK (e := (5, 39, .bool false)) 5 rfl rfl (hon 5 (by kernel_rfl)) rfl
         replace ha := aC.mk ha
         have R := aC.mk aW
         have G0 := aC.mk (bW (hoff 11 (by kernel_rfl)))
         have O := aC.mk (dA (hon 2 (by kernel_rfl)))
         refine l_ (XK rfl rfl rfl (e39.trans (by first | rfl | (simp [*]; done)))) ?_
         refine hK.out _ _ ⟨p1, q1, gQ, iB, (by rw [ha.out]; exact gM 6 bZ rfl rfl rfl), aW, bW, fun aQ => absurd ((hoff 11 (by kernel_rfl)).symm.trans aQ) (by decide), dA, iG, fun aQ => absurd ((hoff 12 (by kernel_rfl)).symm.trans aQ) (by decide)⟩
       refine gG ?_ ?_
       · rintro b a w' ⟨p1, q1, gQ, iB, ha, aW, bW, fA, dA, iG, lC⟩ bZ hon hoff
         refine ⟨_, rfl, fun K hK => ?_⟩
         have e39 : a.tmps[39]? = some (.bool false) := by rw [ha]; exact fK (e := (5, 39, .bool false)) 5 rfl rfl (hon 5 (by kernel_rfl)) rfl
         replace ha := aC.mk ha
         have R := aC.mk aW
         have G0 := aC.mk (bW (hoff 11 (by kernel_rfl)))
         have O := aC.mk (dA (hon 2 (by kernel_rfl)))
         refine l_ (XK rfl rfl rfl (e39.trans (by first | rfl | (simp [*]; done)))) ?_
         refine hK.out _ _ ⟨p1, q1, gQ, iB, (by rw [ha.out]; exact gM 7 bZ rfl rfl rfl), aW, bW, fun aQ => absurd ((hoff 11 (by kernel_rfl)).symm.trans aQ) (by decide), dA, iG, fun aQ => absurd ((hoff 12 (by kernel_rfl)).symm.trans aQ) (by decide)⟩
       refine gG ?_ ?_
       · rintro b a w' ⟨p1, q1, gQ, iB, ha, aW, bW, fA, dA, iG, lC⟩ bZ hon hoff
         refine ⟨_, rfl, fun K hK => ?_⟩
         have e39 : a.tmps[39]? = some (.bool false) := by rw [ha]; exact fK (e := (5, 39, .bool false)) 5 rfl rfl (hon 5 (by kernel_rfl)) rfl
         replace ha := aC.mk ha
         have R := aC.mk aW
         have G0 := aC.mk (bW (hoff 11 (by kernel_rfl)))
         have O := aC.mk (dA (hon 2 (by kernel_rfl)))
         refine l_ (XK rfl rfl rfl (e39.trans (by first | rfl | (simp [*]; done)))) ?_
         refine hK.out _ _ ⟨p1, q1, gQ, iB, (by rw [ha.out]; exact gM 8 bZ rfl rfl rfl), aW, bW, fun aQ => absurd ((hoff 11 (by kernel_rfl)).symm.trans aQ) (by decide), dA, iG, fun aQ => absurd ((hoff 12 (by kernel_rfl)).symm.trans aQ) (by decide)⟩
       refine gG ?_ ?_
       · rintro b a w' ⟨p1, q1, gQ, iB, ha, aW, bW, fA, dA, iG, lC⟩ bZ hon hoff
         refine ⟨_, rfl, fun K hK => ?_⟩
         have e39 : a.tmps[39]? = some (.bool false) := by rw [ha]; exact fK (e := (5, 39, .bool false)) 5 rfl rfl (hon 5 (by kernel_rfl)) rfl
         replace ha := aC.mk ha
         have R := aC.mk aW
         have O := aC.mk (dA (hon 2 (by kernel_rfl)))
         refine l_ (XK rfl rfl rfl (e39.trans (by first | rfl | (simp [*]; done)))) ?_
         refine hK.out _ _ ⟨p1, q1, gQ, iB, (by rw [ha.out]; exact gM 9 bZ rfl rfl rfl), aW, bW, fA, dA, iG, lC⟩
       refine gG ?_ ?_
       · rintro b a w' ⟨p1, q1, gQ, iB, ha, aW, bW, fA, dA, iG, lC⟩ bZ hon hoff
         refine ⟨_, rfl, fun K hK => ?_⟩
         have e39 : a.tmps[39]? = some (.bool false) := by rw [ha]; exact fK (e := (5, 39, .bool false)) 5 rfl rfl (hon 5 (by kernel_rfl)) rfl
         have e43 : a.tmps[43]? = some (undef) := by rw [ha]; exact fK (e := (9, 43, undef)) 9 rfl rfl (hon 9 (by kernel_rfl)) rfl
         replace ha := aC.mk ha
         have R := aC.mk aW
         have O := aC.mk (dA (hon 2 (by kernel_rfl)))
         refine iF (w1 := w') (v := .bool false) (by rfl) rfl ?_ ?_
         · go_simp
           (try simp only [dC])
           try rfl
         refine hK.out _ _ ⟨p1, q1, gQ, iB, (by rw [ha.out]; exact gM 10 bZ rfl rfl rfl), aW, bW, fA, dA, iG, lC⟩
       refine gG ?_ ?_
       · rintro b a w' ⟨p1, q1, gQ, iB, ha, aW, bW, fA, dA, iG, lC⟩ bZ hon hoff
         refine ⟨_, rfl, fun K hK => ?_⟩
         have e2 : a.tmps[2]? = some (.pointer (some ⟨gr, 0, none⟩)) := by rw [ha]; exact (nT rfl).trans rfl
         have e34 : a.tmps[34]? = some (.agg #[.map m]) := by rw [ha]; exact fK (e := (0, 34, .agg #[.map m])) 0 rfl rfl (hon 0 (by kernel_rfl)) rfl
         replace ha := aC.mk ha
         have R := aC.mk aW
         have G0 := aC.mk (bW bZ)
         have O := aC.mk (dA (hon 2 (by kernel_rfl)))
         have aQ := aM G0.out 0
         have f0_ := eZ G0.out 0
         refine J6 (w1 := w'.setCell ⟨gr, 0, none⟩ (.map m)) (by rfl) rfl ?_ ?_
         · go_simp
           try rfl
         refine hK.out _ _ ⟨p1, q1, gQ, iB, (by rw [ha.out]; exact SI (v := undef) rfl), R.out.put G0.out, fun aQ => absurd ((zH b 11).symm.trans aQ) (by decide), fun _ => lH (cs := #[.map none]) G0.out 0 _ rfl, fun _ => ⟨O.out.1, Kd.FC O.out.2 (p := ⟨gr, 0, none⟩) (fun _ hk => hk) _⟩, iG, fun aQ => absurd ((hoff 12 (by kernel_rfl)).symm.trans aQ) (by decide)⟩
       refine gG ?_ ?_
       · rintro b a w' ⟨p1, q1, gQ, iB, ha, aW, bW, fA, dA, iG, lC⟩ bZ hon hoff
         refine ⟨_, rfl, fun K hK => ?_⟩
         have e36 : a.tmps[36]? = some (gQ) := by rw [ha]; exact fK (e := (2, 36, gQ)) 2 rfl rfl (hon 2 (by kernel_rfl)) rfl
         rw [iG (hon 2 (by kernel_rfl))] at e36
         replace ha := aC.mk ha
         have R := aC.mk aW
         have G1 := aC.mk (fA (hon 11 (by kernel_rfl)))
         have O := aC.mk (dA (hon 2 (by kernel_rfl)))
         refine iF (w1 := w') (v := .slice p1 (iL l).length q1) (by rfl) rfl ?_ ?_
         · go_simp
           (try simp only [dC])
           try rfl
         refine hK.out _ _ ⟨p1, q1, gQ, (.slice p1 (iL l).length q1), (by rw [ha.out]; exact gM 11 bZ rfl rfl rfl), aW, fun aQ => absurd ((hon 11 (by kernel_rfl)).symm.trans aQ) (by decide), fA, dA, iG, fun _ => rfl⟩
       refine gG ?_ ?_
       · rintro b a w' ⟨p1, q1, gQ, iB, ha, aW, bW, fA, dA, iG, lC⟩ bZ hon hoff
         refine ⟨_, rfl, fun K hK => ?_⟩
         have e44 : a.tmps[44]? = some (.bool false) := by rw [ha]; exact fK (e := (10, 44, .bool false)) 10 rfl rfl (hon 10 (by kernel_rfl)) rfl
         replace ha := aC.mk ha
         have R := aC.mk aW
         have G1 := aC.mk (fA (hon 11 (by kernel_rfl)))
         have O := aC.mk (dA (hon 2 (by kernel_rfl)))
         refine iF (w1 := w') (v := .bool false) (by rfl) rfl ?_ ?_
         · go_simp
           (try simp only [dC])
           try rfl
         refine hK.out _ _ ⟨p1, q1, gQ, iB, (by rw [ha.out]; exact gM 12 bZ rfl rfl rfl), aW, fun aQ => absurd ((hon 11 (by kernel_rfl)).symm.trans aQ) (by decide), fA, dA, iG, lC⟩
       exact PL
     · rintro b a w' hall ⟨p1, q1, gQ, iB, ha, aW, bW, fA, dA, iG, lC⟩
       skip
       have wE := hall 0 (by kernel_rfl)
       have wF := hall 1 (by kernel_rfl)
       have r9 := hall 2 (by kernel_rfl)
       have wG := hall 3 (by kernel_rfl)
       have wH := hall 4 (by kernel_rfl)
       have wI := hall 5 (by kernel_rfl)
       have wJ := hall 6 (by kernel_rfl)
       have sD := hall 7 (by kernel_rfl)
       have tL := hall 8 (by kernel_rfl)
       have uS := hall 9 (by kernel_rfl)
       have zO := hall 10 (by kernel_rfl)
       have uP := hall 11 (by kernel_rfl)
       have IP := hall 12 (by kernel_rfl)
       have UQ := hall 13 (by kernel_rfl)
       subst ha
       obtain rfl := iG r9
       obtain rfl := lC IP
       simp only [kV, wE, wF, r9, wG, wH, wI, wJ, sD, tL, uS, zO, uP, IP, UQ, if_true, Act.put, List.setIfInBounds_toArray, List.set_cons_zero, List.set_cons_succ]
       have R := aC.mk aW
       clear aW
       clear bW
       have G1 := aC.mk (fA uP)
       clear fA
       have O := aC.mk (dA r9)
       clear dA
       clear hall wE wF r9 wG wH wI wJ sD tL uS zO uP IP UQ
       go_wp2
       refine bodyPost_ret (wX rfl _ _ gr 25 #[.map m] (0, 0) _ rfl G1.out hu rfl (by kernel_rfl)) rfl ?_
       exact ⟨m, p1, _, q1, false, rfl, R.out.b, fun h => by cases h⟩
end Go.Proofs.YtgmggompdidcoaaGreatDoor.X
