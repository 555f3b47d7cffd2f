import Derived.Test.YtgmggompdidcoaaGreatDoorMPbtensorReads10
import Derived.Test.YtgmggompdidcoaaGreatDoorMPbtensorReads7
namespace Go.Proofs.YtgmggompdidcoaaGreatDoor.X
open Go.RowKit Go.Proofs.YtgmggompdidcoaaGreatDoorW.aX Go.Proofs.YtgmggompdidcoaaGreatDoorW.bJ Go.Proofs.YtgmggompdidcoaaGreatDoorW.bK
attribute [local go_sem] bO bQ bS bU bM bN bP bR
set_option linter.unusedVariables false
set_option linter.unusedSimpArgs false
set_option maxHeartbeats 8000000
set_option maxRecDepth 100000
def SH.f (a0 : ByteArray) (l1 : List Int) (l2 : List Int) : Option (ByteArray × Int × List Int × ByteArray) := (NH.f a0 7 l1 l2).bind fun kJ => (some (kJ.1, kJ.2.1, kJ.2.2.1, kJ.2.2.2))
theorem SH.calls (a0 : ByteArray) (A1 : Option Addr) (c1 : Nat) (l1 : List Int) (A2 : Option Addr) (c2 : Nat) (l2 : List Int) (r1 : ByteArray) (r2 : Int) (r3 : List Int) (r4 : ByteArray) (w : World) (hr1 : Kd.C (Kd.int .i64) w A1 l1.length l1) (hc1 : l1.length ≤ c1) (hr2 : Kd.C (Kd.int .i64) w A2 l2.length l2) (hc2 : l2.length ≤ c2) (h : SH.f a0 l1 l2 = some (r1, r2, r3, r4)) :
 Calls Tryz.prog 17 #[.string a0, .slice A1 l1.length c1, .slice A2 l2.length c2] w fun e w' => ∃ z8 : Value, e = .returned (.agg #[.string r1, .int .i64 r2, z8, .string r4]) ∧ Kd.R (Kd.int .i64) 2 w' w.heap.size (fun _ => True) z8 r3 ∧ Below w.heap.size w w' := by
 have lZ := Tryz.underlying33; have HR1 := aA hr1; have VO := aA hc1; clear hr1 hc1; have HR2 := aA hr2; have BZ := aA hc2; clear hr2 hc2; have HB := aA (Below.refl w.heap.size w); have H : ((NH.f a0 7 l1 l2).bind fun kJ => (some (kJ.1, kJ.2.1, kJ.2.2.1, kJ.2.2.2))) = some (r1, r2, r3, r4) := h; clear h; replace H := Option.bind_eq_some_iff.mp H; obtain ⟨⟨t102, t103, t104, t107⟩, MH, H⟩ := H; replace H : (some (t102, t103, t104, t107)) = some (r1, r2, r3, r4) := H; have A4 := aA MH; clear MH
 simp only [Option.some.injEq, Prod.mk.injEq] at H
 obtain ⟨rfl, rfl, rfl, rfl⟩ := H
 go_enter Tryz.func17, Tryz.ntmps17
 go_wp2_with (first | ((with_reducible refine cK (N := 6) rfl ?_); refine dB (N := 6) (cs := #[.string ⟨#[]⟩, .int .i64 0, .slice none 0 0, .string ⟨#[]⟩]) (t := 33) ?_; intro dG hg w5 aG hb; have aD := aA aG; have lV := aA ((by rw [hg]; exact (iI (aJ HB)) : w.heap.size ≤ dG)); have lU := aA ((by rw [hg]; exact (iI (aJ HB)) : w.heap.size ≤ dG)); replace HB := aA (jV (aJ HB) hb); clear hb aG hg) | ((with_reducible refine dJ (f := 43) rfl ?_); refine dV (some 10) rfl rfl Tryz.func43 (by kernel_rfl) rfl #[.string a0, .int .i64 7, .slice A1 l1.length c1, .slice A2 l2.length c2, .func (Fn.func 44) #[] #[]] rfl ?_; (with_reducible refine (NH.calls a0 7 _ _ l1 _ _ l2 t102 t103 t104 t107 _ ?iU ?iV ?pq ?pz A4.out).mono ?_); (case iU => exact uY HR1 HB); (case iV => exact VO.out); (case pq => exact uY HR2 HB); (case pz => exact BZ.out); rintro e w6 ⟨v105, rfl, ho0, hb⟩; refine ⟨_, rfl, ?_⟩; have QE := aA (Kd.nV ho0 (iI (aJ HB))); replace aD := aA (oK (g := dG) (o := .cells #[.string ⟨#[]⟩, .int .i64 0, .slice none 0 0, .string ⟨#[]⟩] 33 (0, 0)) (by (with_reducible repeat (first | refine NM ?_ _ | refine kU ?_ | refine DV ?_ _)); exact aD.out) hb); replace HB := aA (jV (aJ HB) hb); (try clear hb); (try clear ho0); have UD : w6.cell? ⟨dG, 0, none⟩ = some (.string ⟨#[]⟩) := (aM aD.out 0).trans rfl; have UE : w6.cell? ⟨dG, 1, none⟩ = some (.int .i64 0) := (aM aD.out 1).trans rfl; have jr : w6.cell? ⟨dG, 2, none⟩ = some (.slice none 0 0) := (aM aD.out 2).trans rfl; have jv : w6.cell? ⟨dG, 3, none⟩ = some (.string ⟨#[]⟩) := (aM aD.out 3).trans rfl; have ku := fz aD 0; have kv := fz aD 1; have aC6 := fz aD 2; have aC7 := fz aD 3; obtain ⟨VF, V3, V4⟩ := Kd.jF QE.out; subst V4))
 refine bodyPost_ret (results_cell_row rfl _ _ dG 33 #[.string t102, .int .i64 t103, .slice VF t104.length V3, .string t107] (0, 0) _ rfl (aU aD) Tryz.underlying33 rfl (by kernel_rfl)) rfl ?_
 exact ⟨_, eH, by (with_reducible repeat (first | apply Kd.kI | apply Kd.kD | apply Kd.jX)); exact Kd.eO (Kd.dE (p := ⟨dG, 3, none⟩) (Kd.dE (p := ⟨dG, 2, none⟩) (Kd.dE (p := ⟨dG, 1, none⟩) (Kd.dE (p := ⟨dG, 0, none⟩) (Kd.ET QE.out aD.out (by decide)) (fun _ hk => hk.2) (.string t102)) (fun _ hk => hk.2) (.int .i64 t103)) (fun _ hk => hk.2) (.slice VF t104.length V3)) (fun _ hk => hk.2) (.string t107)) (fun _ hk => trivial), aJ HB⟩
def NC.f (aY : ByteArray) (aT : Int) (aV : List Int) (bC : ByteArray) (a1 : Int) : Option (ByteArray) := (oV.f aT).bind fun t102 => (if t102 = 0 then (some (⟨#[]⟩ : ByteArray)) else (if a1 < 0 then (some (⟨#[]⟩ : ByteArray)) else (if a1 ≥ (wrap64 ((bC.size : Int) / t102)) then (some (⟨#[]⟩ : ByteArray)) else (if 0 ≤ (wrap64 (a1 * t102)) then (if (wrap64 (a1 * t102)) ≤ (wrap64 ((wrap64 (a1 * t102)) + t102)) then (if (wrap64 ((wrap64 (a1 * t102)) + t102)) ≤ (bC.size : Int) then (some (bC.extract ((wrap64 (a1 * t102)) : Int).toNat ((wrap64 ((wrap64 (a1 * t102)) + t102)) : Int).toNat)) else (none)) else (none)) else (none)))))
theorem NC.calls (aY : ByteArray) (aT : Int) (fM : Option Addr) (fO : Nat) (aV : List Int) (bC : ByteArray) (a1 : Int) (r : ByteArray) (w : World) (rF : Kd.C (Kd.int .i64) w fM aV.length aV) (rE : aV.length ≤ fO) (h : NC.f aY aT aV bC a1 = some r) :
 Calls Tryz.prog 70 #[.agg #[.string aY, .int .i64 aT, .slice fM aV.length fO, .string bC], .int .i64 a1] w fun e w' => e = .returned (.string r) ∧ Below w.heap.size w w' := by
 have lZ := Tryz.underlying33; have tC := aA rF; have vS := aA rE; clear rF rE; have HB := aA (Below.refl w.heap.size w); have H : ((oV.f aT).bind fun t102 => (if t102 = 0 then (some (⟨#[]⟩ : ByteArray)) else (if a1 < 0 then (some (⟨#[]⟩ : ByteArray)) else (if a1 ≥ (wrap64 ((bC.size : Int) / t102)) then (some (⟨#[]⟩ : ByteArray)) else (if 0 ≤ (wrap64 (a1 * t102)) then (if (wrap64 (a1 * t102)) ≤ (wrap64 ((wrap64 (a1 * t102)) + t102)) then (if (wrap64 ((wrap64 (a1 * t102)) + t102)) ≤ (bC.size : Int) then (some (bC.extract ((wrap64 (a1 * t102)) : Int).toNat ((wrap64 ((wrap64 (a1 * t102)) + t102)) : Int).toNat)) else (none)) else (none)) else (none)))))) = some r := h; clear h; replace H := bnd H; obtain ⟨t102, A3, H⟩ := H
 by_cases c4 : t102 = 0
 ·
  rw [ip c4] at H; obtain ⟨fP, oN⟩ := dH c4; clear c4; obtain rfl := Option.some.inj H
  go_enter Tryz.func70, Tryz.ntmps70
  go_wp2_with (first | ((with_reducible refine cK (N := 2) rfl ?_); (try (refine uG (by rfl) ?_; dsimp only)); refine dB (N := 2) (cs := #[.string aY, .int .i64 aT, .slice fM aV.length fO, .string bC]) (t := 33) ?_; intro dG hg w5 aG hb; have aD := aA aG; have lV := bB HB hg; have lU := bB HB hg; replace HB := hbS HB hb; clear hb aG hg; obtain ⟨aC2, aC3, aC4, aC5⟩ := aN aD) | ((with_reducible refine dJ (f := 56) rfl ?_); refine dV (some 8) rfl rfl Tryz.func56 (by kernel_rfl) rfl #[.int .i64 aT] rfl ?_; (with_reducible refine (oV.calls aT t102 _ A3.out).mono ?_); rintro e w7 ⟨rfl, hb⟩; refine ⟨_, rfl, ?_⟩; replace aD := aI aD hb; replace HB := hbS HB hb; (try clear hb)))
  go_ret
  exact ⟨eH, aJ HB⟩
 ·
  rw [iN c4] at H; have fP := beq_eq_false_iff_ne.mpr c4; have oN := bne_iff_ne.mpr c4
  by_cases c8 : a1 < 0
  ·
   rw [ip c8] at H; have mG := dT c8; clear c8; obtain rfl := Option.some.inj H
   go_enter Tryz.func70, Tryz.ntmps70
   go_wp2_with (first | ((with_reducible refine cK (N := 2) rfl ?_); (try (refine uG (by rfl) ?_; dsimp only)); refine dB (N := 2) (cs := #[.string aY, .int .i64 aT, .slice fM aV.length fO, .string bC]) (t := 33) ?_; intro dG hg w9 aG hb; have aD := aA aG; have lV := bB HB hg; have lU := bB HB hg; replace HB := hbS HB hb; clear hb aG hg; obtain ⟨G8, G9, H6, H7⟩ := aN aD) | ((with_reducible refine dJ (f := 56) rfl ?_); refine dV (some 8) rfl rfl Tryz.func56 (by kernel_rfl) rfl #[.int .i64 aT] rfl ?_; (with_reducible refine (oV.calls aT t102 _ A3.out).mono ?_); rintro e JE ⟨rfl, hb⟩; refine ⟨_, rfl, ?_⟩; replace aD := aI aD hb; replace HB := hbS HB hb; (try clear hb)))
   go_ret
   exact ⟨eH, aJ HB⟩
  ·
   rw [iN c8] at H; have mG := dF c8; clear c8
   by_cases c12 : a1 ≥ (wrap64 ((bC.size : Int) / t102))
   ·
    rw [ip c12] at H; have tH := dT c12; clear c12; obtain rfl := Option.some.inj H
    go_enter Tryz.func70, Tryz.ntmps70
    go_wp2_with (first | ((with_reducible refine cK (N := 2) rfl ?_); (try (refine uG (by rfl) ?_; dsimp only)); refine dB (N := 2) (cs := #[.string aY, .int .i64 aT, .slice fM aV.length fO, .string bC]) (t := 33) ?_; intro dG hg JF aG hb; have aD := aA aG; have lV := bB HB hg; have lU := bB HB hg; replace HB := hbS HB hb; clear hb aG hg; obtain ⟨cu, cz, df, dh⟩ := aN aD) | ((with_reducible refine dJ (f := 56) rfl ?_); refine dV (some 8) rfl rfl Tryz.func56 (by kernel_rfl) rfl #[.int .i64 aT] rfl ?_; (with_reducible refine (oV.calls aT t102 _ A3.out).mono ?_); rintro e O5 ⟨rfl, hb⟩; refine ⟨_, rfl, ?_⟩; replace aD := aI aD hb; replace HB := hbS HB hb; (try clear hb); obtain ⟨X6, X8, X9, YA⟩ := aN aD; have ib := eZ aD.out 3))
    go_ret
    exact ⟨eH, aJ HB⟩
   ·
    rw [iN c12] at H; have tH := dF c12; clear c12; obtain ⟨OJ, UR⟩ : ∃ j_ : Int, (wrap64 (a1 * t102)) = j_ := ⟨_, rfl⟩; replace H : (if 0 ≤ (OJ) then (if (OJ) ≤ (wrap64 ((OJ) + t102)) then (if (wrap64 ((OJ) + t102)) ≤ (bC.size : Int) then (some (bC.extract ((OJ) : Int).toNat ((wrap64 ((OJ) + t102)) : Int).toNat)) else (none)) else (none)) else (none)) = some r := by first | (rw [UR] at H; exact H) | (simp only [UR] at H ⊢; exact H)
    (try rw [UR] at A3)
    have aHq : (IntKind.i64.wrap (a1 * t102)) = OJ := (dC _).trans UR; replace H := dU H; obtain ⟨c18, H⟩ := H; have LW := eT c18; have QK := dT c18; clear c18; replace H := dU H; obtain ⟨c19, H⟩ := H; have LX := eT c19; have QL := dT c19; replace H := dU H; obtain ⟨c20, H⟩ := H; have QM := eT c20; have Ml := dT c20; obtain rfl := Option.some.inj H
    go_enter Tryz.func70, Tryz.ntmps70
    go_wp2_with (first | ((with_reducible refine cK (N := 2) rfl ?_); (try (refine uG (by rfl) ?_; dsimp only)); refine dB (N := 2) (cs := #[.string aY, .int .i64 aT, .slice fM aV.length fO, .string bC]) (t := 33) ?_; intro dG hg oG aG hb; have aD := aA aG; have lV := bB HB hg; have lU := bB HB hg; replace HB := hbS HB hb; clear hb aG hg; obtain ⟨Ic, Ie, aA9, aA'⟩ := aN aD) | ((with_reducible refine dJ (f := 56) rfl ?_); refine dV (some 8) rfl rfl Tryz.func56 (by kernel_rfl) rfl #[.int .i64 aT] rfl ?_; (with_reducible refine (oV.calls aT t102 _ A3.out).mono ?_); rintro e Bj ⟨rfl, hb⟩; refine ⟨_, rfl, ?_⟩; replace aD := aI aD hb; replace HB := hbS HB hb; (try clear hb); obtain ⟨aBa, aBb, aBc, aBd⟩ := aN aD; have aBR := eZ aD.out 3))
    go_ret
    exact ⟨by first | rfl | (simp [nG, nH] <;> rfl) | (simp only [← UR]; first | rfl | (simp [nG, nH] <;> rfl)) | (simp [*, nG, nH] <;> rfl), aJ HB⟩
def KX.f (aY : ByteArray) (aT : Int) (aV : List Int) (bC a1 : ByteArray) : Option Bool := if aT = 9 then (if 0 < a1.size then some (decide (bt a1 0 ≤ 1)) else none) else if aT = 14 then some ((vY a1).2.2 == 0) else some true
theorem KX.calls (aY : ByteArray) (aT : Int) (fM : Option Addr) (fO : Nat) (aV : List Int) (bC : ByteArray) (a1 : ByteArray) (r : Bool) (w : World) (rF : Kd.C (Kd.int .i64) w fM aV.length aV) (rE : aV.length ≤ fO) (h : KX.f aY aT aV bC a1 = some r) :
 Calls Tryz.prog 69 #[.agg #[.string aY, .int .i64 aT, .slice fM aV.length fO, .string bC], .string a1] w fun e w' => e = .returned (.bool r) ∧ Below w.heap.size w w' := by
 have hu := Tryz.underlying33
 clear rF rE
 unfold KX.f at h
 by_cases h9 : aT = 9
 · subst h9
   rw [ip rfl] at h
   by_cases hs : 0 < a1.size
   · rw [ip hs] at h
     obtain rfl := Option.some.inj h
     have hb := fE a1 0 (by simpa using hs)
     have q1 : (0 < (a1.size : Int)) = True := eT (by omega)
     clear h
     go_enter Tryz.func69, Tryz.ntmps69
     go_wp2
     go_ret
     exact ⟨by rw [← hb]; rfl, iD (Below.refl _ _) _⟩
   · rw [iN hs] at h; cases h
 · rw [iN h9] at h
   have h9b : (aT == 9) = false := beq_eq_false_iff_ne.2 h9
   by_cases sO : aT = 14
   · subst sO
     rw [ip rfl] at h
     obtain rfl := Option.some.inj h
     clear h h9 h9b
     go_enter Tryz.func69, Tryz.ntmps69
     go_wp2_with (first | (fail))
     refine (Xo.calls a1 _).mono ?_
     rintro e w1 ⟨rfl, hb⟩
     have HB := aC.mk (jV (iD (Below.refl w.heap.size w) _) hb)
     rw [show (D8 a1).2.2 = (vY a1).2.2 from rfl]
     clear hb
     go_wp2_with (first | (fail))
     go_ret
     exact ⟨rfl, HB.out⟩
   · rw [iN sO] at h
     obtain rfl := Option.some.inj h
     have aIS : (aT == 14) = false := beq_eq_false_iff_ne.2 sO
     clear h h9 sO
     go_enter Tryz.func69, Tryz.ntmps69
     go_wp2
     go_ret
     exact ⟨rfl, iD (Below.refl _ _) _⟩
def mI.l0 : Nat → Int → Int → ByteArray → Int → List Int → ByteArray → Option (Int)
 | 0, _, _, _, _, _, _ => none
 | k + 1, x34, Bv, vM, pO, pQ, pR => if Bv < x34 then ((NC.f vM pO pQ pR Bv).bind fun t107 => ((KX.f vM pO pQ pR t107).bind fun t108 => (if t108 = true then (mI.l0 k x34 (wrap64 (Bv + 1)) vM pO pQ pR) else (some 17)))) else (some 0)
def mI.f (k : Nat) (aY : ByteArray) (aT : Int) (aV : List Int) (bC : ByteArray) : Option (Int) := (wR.f aY).bind fun t102 => (if t102 = true then ((oV.f aT).bind fun t103 => (if t103 = 0 then (some 5) else ((uF.f aV).bind fun kW => (if kW.2 = 0 then ((oV.f aT).bind fun t106 => (if (bC.size : Int) = (wrap64 (kW.1 * t106)) then (mI.l0 k kW.1 0 aY aT aV bC) else (some 19))) else (some kW.2))))) else (some 8))
def mI.T8 : Bool × List (List Nat × List Nat) := (true, [([], []), ([0], [0]), ([1], [1]), ([], []), ([], []), ([4], [4]), ([5], [5]), ([3, 6], [3, 6]), ([2, 7], [2, 7]), ([8, 6], [8])])
def mI.B8 : List Nat := [0, 1, 3, 0, 0, 16, 48, 120, 255, 511]
theorem mI.m_ : jU .any (opsOf Tryz.f34 8) = mI.T8 := by kernel_rfl
theorem mI.Y9 : uK mI.T8.2 mI.B8 = true := by kernel_rfl
theorem mI.calls (k : Nat) (aY : ByteArray) (aT : Int) (fM : Option Addr) (fO : Nat) (aV : List Int) (bC : ByteArray) (r : Int) (w : World) (rF : Kd.C (Kd.int .i64) w fM aV.length aV) (rE : aV.length ≤ fO) (h : mI.f k aY aT aV bC = some r) :
 Calls Tryz.prog 34 #[.agg #[.string aY, .int .i64 aT, .slice fM aV.length fO, .string bC]] w fun e w' => e = .returned (.int .i64 r) ∧ Below w.heap.size w w' := by
 have lZ := Tryz.underlying33; have tC := aA rF; have vS := aA rE; clear rF rE; have HB := aA (Below.refl w.heap.size w); have H : ((wR.f aY).bind fun t102 => (if t102 = true then ((oV.f aT).bind fun t103 => (if t103 = 0 then (some 5) else ((uF.f aV).bind fun kW => (if kW.2 = 0 then ((oV.f aT).bind fun t106 => (if (bC.size : Int) = (wrap64 (kW.1 * t106)) then (mI.l0 k kW.1 0 aY aT aV bC) else (some 19))) else (some kW.2))))) else (some 8))) = some r := h; clear h; replace H := bnd H; obtain ⟨t102, A2, H⟩ := H
 by_cases c3 : t102 = true
 ·
  subst c3; have H1 : ((oV.f aT).bind fun t103 => (if t103 = 0 then (some 5) else ((uF.f aV).bind fun kW => (if kW.2 = 0 then ((oV.f aT).bind fun t106 => (if (bC.size : Int) = (wrap64 (kW.1 * t106)) then (mI.l0 k kW.1 0 aY aT aV bC) else (some 19))) else (some kW.2))))) = some r := by rw [ip rfl] at H; exact H
  clear H; have H := H1; clear H1; replace H := bnd H; obtain ⟨t103, A4, H⟩ := H
  by_cases c5 : t103 = 0
  ·
   rw [ip c5] at H; obtain ⟨iH, lF⟩ := dH c5; clear c5; obtain rfl := Option.some.inj H
   go_enter Tryz.func34, Tryz.ntmps34
   go_wp2_with (first | ((with_reducible refine cK (N := 1) rfl ?_); refine dB (N := 1) (cs := #[.string aY, .int .i64 aT, .slice fM aV.length fO, .string bC]) (t := 33) ?_; intro dG hg w6 aG hb; have aD := aA aG; have lV := bB HB hg; have lU := bB HB hg; replace HB := hbS HB hb; clear hb aG hg; obtain ⟨UD, UE, jr, jv⟩ := aN aD) | ((with_reducible refine dJ (f := 55) rfl ?_); refine dV (some 8) rfl rfl Tryz.func55 (by kernel_rfl) rfl #[.string aY] rfl ?_; (with_reducible refine (wR.calls aY true _ A2.out).mono ?_); rintro e w' ⟨rfl, ⟨nd, rfl⟩⟩; refine ⟨_, rfl, ?_⟩) | ((with_reducible refine dJ (f := 56) rfl ?_); refine dV (some 12) rfl rfl Tryz.func56 (by kernel_rfl) rfl #[.int .i64 aT] rfl ?_; (with_reducible refine (oV.calls aT t103 _ A4.out).mono ?_); rintro e w8 ⟨rfl, hb⟩; refine ⟨_, rfl, ?_⟩; replace aD := aI aD hb; replace HB := hbS HB hb; (try clear hb)))
   go_ret
   exact ⟨eH, aJ HB⟩
  ·
   rw [iN c5] at H; have iH := beq_eq_false_iff_ne.mpr c5; have lF := bne_iff_ne.mpr c5; replace H := Option.bind_eq_some_iff.mp H; obtain ⟨⟨t104, t105⟩, Pk, H⟩ := H; replace H : (if t105 = 0 then ((oV.f aT).bind fun t106 => (if (bC.size : Int) = (wrap64 (t104 * t106)) then (mI.l0 k t104 0 aY aT aV bC) else (some 19))) else (some t105)) = some r := H; have A9 := aA Pk; clear Pk
   by_cases c10 : t105 = 0
   ·
    rw [ip c10] at H; obtain ⟨qO, zN⟩ := dH c10; clear c10; replace H := bnd H; obtain ⟨t106, yG, H⟩ := H
    by_cases c12 : (bC.size : Int) = (wrap64 (t104 * t106))
    ·
     rw [ip c12] at H; obtain ⟨tH, OA⟩ := dH c12; clear c12; have H' := aA H; clear H
     go_enter Tryz.func34, Tryz.ntmps34
     try go_wp2_with (first | ((with_reducible refine cK (N := 1) rfl ?_); refine dB (N := 1) (cs := #[.string aY, .int .i64 aT, .slice fM aV.length fO, .string bC]) (t := 33) ?_; intro dG hg JF aG hb; have aD := aA aG; have lV := bB HB hg; have lU := bB HB hg; replace HB := hbS HB hb; clear hb aG hg; obtain ⟨cu, cz, df, dh⟩ := aN aD) | ((with_reducible refine dJ (f := 55) rfl ?_); refine dV (some 8) rfl rfl Tryz.func55 (by kernel_rfl) rfl #[.string aY] rfl ?_; (with_reducible refine (wR.calls aY true _ A2.out).mono ?_); rintro e w' ⟨rfl, ⟨nd, rfl⟩⟩; refine ⟨_, rfl, ?_⟩) | ((with_reducible refine dJ (f := 56) rfl ?_); refine dV (some 12) rfl rfl Tryz.func56 (by kernel_rfl) rfl #[.int .i64 aT] rfl ?_; (with_reducible refine (oV.calls aT t103 _ A4.out).mono ?_); rintro e O5 ⟨rfl, hb⟩; refine ⟨_, rfl, ?_⟩; replace aD := aI aD hb; replace HB := hbS HB hb; (try clear hb); obtain ⟨X6, X8, X9, YA⟩ := aN aD) | ((with_reducible refine dJ (f := 57) rfl ?_); refine dV (some 17) rfl rfl Tryz.func57 (by kernel_rfl) rfl #[.slice fM aV.length fO] rfl ?_; (with_reducible refine (uF.calls _ _ aV t104 t105 _ ?iU ?iV A9.out).mono ?_); (case iU => exact uY tC HB); (case iV => exact vS.out); rintro e qI ⟨rfl, hb⟩; refine ⟨_, rfl, ?_⟩; replace aD := aI aD hb; replace HB := hbS HB hb; (try clear hb))); replace aD := aA (kU aD.out); replace HB := aA (iO HB.out)
     refine vQ (n := 10) (S := fun w' => w'.cell? ⟨dG, 0, none⟩ = some (.string aY) ∧ w'.cell? ⟨dG, 1, none⟩ = some (.int .i64 aT) ∧ w'.cell? ⟨dG, 2, none⟩ = some (.slice fM aV.length fO) ∧ w'.cell? ⟨dG, 3, none⟩ = some (.string bC)) (ds := []) (bA 10 0) (by kernel_rfl) rfl rfl ⟨gK aD 0, gK aD 1, gK aD 2, gK aD 3⟩ (fun hHeld => ?_); refine G6 mI.m_ mI.Y9 (fun gP pX => ?_)
     generalize qI.drew = _t at aD HB hHeld ⊢
     refine mH (i := 0) (N := some 25) (bA 10 1) gP ?_
     refine mH (i := 3) (N := some 28) (bA 10 9) gP ?_
     refine mH (i := 4) (N := some 29) (bA 10 25) gP ?_
     refine JD (i := 1) (N := some 26) (bA 10 27) gP pX hHeld ?_
     refine mH (i := 2) (N := some 27) (bA 10 31) gP ?_
     refine JD (i := 5) (N := some 30) (bA 10 63) gP pX hHeld ?_
     refine sN (i := 6) (N := some 31) (bA 10 127) rfl rfl (NY gP.out (by kernel_rfl)) (by decide) (fun K hK => ?_)
     refine xO Tryz.func56 (by kernel_rfl) rfl #[.int .i64 aT] (by rfl) rfl rfl ?_
     with_reducible refine (oV.calls aT t106 _ yG.out).mono ?_
     rintro e qY ⟨rfl, hb⟩
     refine ⟨_, rfl, ?_⟩
     replace aD := aI aD hb; replace HB := hbS HB hb; try clear hb
     refine hK.out _ _ ⟨gK aD 0, gK aD 1, gK aD 2, gK aD 3⟩ (fun hHeld => ?_)
     clear hK K
     refine xP 31 ?_
     refine mH (i := 7) (N := some 32) (bA 10 255) gP ?_
     refine mH (i := 8) (N := some 33) (bA 10 511) gP ?_
     refine mH (i := 9) (N := some 24) (bA 10 1023) gP ?_
     refine FL (X3 gP.out (by kernel_rfl)) ?_
     try go_wp2
     go_loopg [35] k (fun kq v35 w' => ∃ (IY : Int), v35 = .int .i64 IY ∧ aC (mI.l0 kq t104 IY aY aT aV bC = some r) ∧ aC (kq ≤ k) ∧ aC (w'.heap[dG]? = some (.cells #[.string aY, .int .i64 aT, (.slice fM aV.length fO), .string bC] 33 (0, 0))) ∧ aC (Below w.heap.size w w'))
     case atStart => exact ⟨(0), aZ, H', ⟨Nat.le_refl _⟩, ⟨fZ aD⟩, ⟨aJ HB⟩⟩
     case round =>
      clear H'; obtain ⟨IY, rfl, HA, bD, aD, HB⟩ := hrel
      cases gk with
      | zero => exact absurd HA.out (by simp [mI.l0])
      | succ k1 =>
       have H := HA.out; clear HA
       simp only [mI.l0] at H
       by_cases c20 : IY < t104
       ·
        rw [ip c20] at H; have QM := dT c20; clear c20; replace H := bnd H; obtain ⟨t107, Pd, H⟩ := H; replace H := bnd H; obtain ⟨t108, Pe, H⟩ := H
        by_cases c23 : t108 = true
        ·
         subst c23; have H1 : (mI.l0 k1 t104 (wrap64 (IY + 1)) aY aT aV bC) = some r := by rw [ip rfl] at H; exact H
         clear H; have H := H1; clear H1; have H' := aA H; clear H
         try go_wp2
         replace aD := aA (kU aD.out); replace HB := aA (iO HB.out)
         refine vQ (n := 6) (S := fun w' => w'.cell? ⟨dG, 0, none⟩ = some (.string aY) ∧ w'.cell? ⟨dG, 1, none⟩ = some (.int .i64 aT) ∧ w'.cell? ⟨dG, 2, none⟩ = some (.slice fM aV.length fO) ∧ w'.cell? ⟨dG, 3, none⟩ = some (.string bC)) (ds := []) (bA 6 0) (by kernel_rfl) rfl rfl ⟨gK aD 0, gK aD 1, gK aD 2, gK aD 3⟩ (fun hHeld => ?_)
         generalize wr.drew = yS at aD HB hHeld ⊢
         refine JC (i := 2) (N := some 40) (bA 6 4) ?_
         refine _q (i := 0) (N := some 38) (bA 6 5) hHeld ?_
         refine _q (i := 1) (N := some 39) (bA 6 7) hHeld ?_
         refine sN (i := 3) (N := some 41) (bA 6 15) rfl rfl (by kernel_rfl) (by decide) (fun K hK => ?_)
         refine xO Tryz.func70 (by kernel_rfl) rfl #[.agg #[.string aY, .int .i64 aT, .slice fM aV.length fO, .string bC], .int .i64 IY] (by rfl) rfl rfl ?_
         with_reducible refine (NC.calls aY aT _ _ aV bC IY t107 _ ?iU ?iV Pd.out).mono ?_
         (case iU => exact uY tC HB)
         (case iV => exact vS.out)
         rintro e sP ⟨rfl, hb⟩
         refine ⟨_, rfl, ?_⟩
         replace aD := aI aD hb; replace HB := hbS HB hb; try clear hb
         refine hK.out _ _ ⟨gK aD 0, gK aD 1, gK aD 2, gK aD 3⟩ (fun hHeld => ?_)
         clear hK K
         refine xP 41 ?_
         refine sN (i := 4) (N := some 42) (bA 6 31) rfl rfl (by kernel_rfl) (by decide) (fun K hK => ?_)
         refine xO Tryz.func69 (by kernel_rfl) rfl #[.agg #[.string aY, .int .i64 aT, .slice fM aV.length fO, .string bC], .string t107] (by rfl) rfl rfl ?_
         with_reducible refine (KX.calls aY aT _ _ aV bC t107 true _ ?iU ?iV Pe.out).mono ?_
         (case iU => exact uY tC HB)
         (case iV => exact vS.out)
         rintro e WU ⟨rfl, hb⟩
         refine ⟨_, rfl, ?_⟩
         replace aD := aI aD hb; replace HB := hbS HB hb; try clear hb
         refine hK.out _ _ ⟨gK aD 0, gK aD 1, gK aD 2, gK aD 3⟩ (fun hHeld => ?_)
         clear hK K
         refine xP 42 ?_
         refine JC (i := 5) (N := some 43) (bA 6 63) ?_
         refine FL (by kernel_rfl) ?_
         try go_wp2
         go_roundg k1
         case measure => have := bD.out; omega
         case rel => exact ⟨(wrap64 (IY + 1)), aZ, H', iK bD, ⟨fZ aD⟩, ⟨aJ HB⟩⟩
        ·
         replace c23 := Bool.eq_false_iff.mpr c23; subst c23; have H1 : (some 17) = some r := by rw [iN (show ¬ (false = true) by decide)] at H; exact H
         clear H; have H := H1; clear H1; obtain rfl := Option.some.inj H
         try go_wp2
         replace aD := aA (kU aD.out); replace HB := aA (iO HB.out)
         refine vQ (n := 6) (S := fun w' => w'.cell? ⟨dG, 0, none⟩ = some (.string aY) ∧ w'.cell? ⟨dG, 1, none⟩ = some (.int .i64 aT) ∧ w'.cell? ⟨dG, 2, none⟩ = some (.slice fM aV.length fO) ∧ w'.cell? ⟨dG, 3, none⟩ = some (.string bC)) (ds := []) (bA 6 0) (by kernel_rfl) rfl rfl ⟨gK aD 0, gK aD 1, gK aD 2, gK aD 3⟩ (fun hHeld => ?_)
         generalize wr.drew = sQ at aD HB hHeld ⊢
         refine JC (i := 2) (N := some 40) (bA 6 4) ?_
         refine _q (i := 0) (N := some 38) (bA 6 5) hHeld ?_
         refine _q (i := 1) (N := some 39) (bA 6 7) hHeld ?_
         refine sN (i := 3) (N := some 41) (bA 6 15) rfl rfl (by kernel_rfl) (by decide) (fun K hK => ?_)
         refine xO Tryz.func70 (by kernel_rfl) rfl #[.agg #[.string aY, .int .i64 aT, .slice fM aV.length fO, .string bC], .int .i64 IY] (by rfl) rfl rfl ?_
         with_reducible refine (NC.calls aY aT _ _ aV bC IY t107 _ ?iU ?iV Pd.out).mono ?_
         (case iU => exact uY tC HB)
         (case iV => exact vS.out)
         rintro e _u ⟨rfl, hb⟩
         refine ⟨_, rfl, ?_⟩
         replace aD := aI aD hb; replace HB := hbS HB hb; try clear hb
         refine hK.out _ _ ⟨gK aD 0, gK aD 1, gK aD 2, gK aD 3⟩ (fun hHeld => ?_)
         clear hK K
         refine xP 41 ?_
         refine sN (i := 4) (N := some 42) (bA 6 31) rfl rfl (by kernel_rfl) (by decide) (fun K hK => ?_)
         refine xO Tryz.func69 (by kernel_rfl) rfl #[.agg #[.string aY, .int .i64 aT, .slice fM aV.length fO, .string bC], .string t107] (by rfl) rfl rfl ?_
         with_reducible refine (KX.calls aY aT _ _ aV bC t107 false _ ?iU ?iV Pe.out).mono ?_
         (case iU => exact uY tC HB)
         (case iV => exact vS.out)
         rintro e _v ⟨rfl, hb⟩
         refine ⟨_, rfl, ?_⟩
         replace aD := aI aD hb; replace HB := hbS HB hb; try clear hb
         refine hK.out _ _ ⟨gK aD 0, gK aD 1, gK aD 2, gK aD 3⟩ (fun hHeld => ?_)
         clear hK K
         refine xP 42 ?_
         refine JC (i := 5) (N := some 43) (bA 6 63) ?_
         refine FL (by kernel_rfl) ?_
         try go_wp2
         go_ret
         exact ⟨eH, aJ HB⟩
       ·
        rw [iN c20] at H; have QM := dF c20; clear c20; obtain rfl := Option.some.inj H
        go_wp2
        go_ret
        exact ⟨eH, aJ HB⟩
    ·
     rw [iN c12] at H; have tH := beq_eq_false_iff_ne.mpr c12; have OA := bne_iff_ne.mpr c12; obtain rfl := Option.some.inj H
     go_enter Tryz.func34, Tryz.ntmps34
     try go_wp2_with (first | ((with_reducible refine cK (N := 1) rfl ?_); refine dB (N := 1) (cs := #[.string aY, .int .i64 aT, .slice fM aV.length fO, .string bC]) (t := 33) ?_; intro dG hg sS aG hb; have aD := aA aG; have lV := bB HB hg; have lU := bB HB hg; replace HB := hbS HB hb; clear hb aG hg; obtain ⟨TE, TF, TG, TH⟩ := aN aD) | ((with_reducible refine dJ (f := 55) rfl ?_); refine dV (some 8) rfl rfl Tryz.func55 (by kernel_rfl) rfl #[.string aY] rfl ?_; (with_reducible refine (wR.calls aY true _ A2.out).mono ?_); rintro e w' ⟨rfl, ⟨nd, rfl⟩⟩; refine ⟨_, rfl, ?_⟩) | ((with_reducible refine dJ (f := 56) rfl ?_); refine dV (some 12) rfl rfl Tryz.func56 (by kernel_rfl) rfl #[.int .i64 aT] rfl ?_; (with_reducible refine (oV.calls aT t103 _ A4.out).mono ?_); rintro e w32 ⟨rfl, hb⟩; refine ⟨_, rfl, ?_⟩; replace aD := aI aD hb; replace HB := hbS HB hb; (try clear hb); obtain ⟨YF, YG, fo, fq⟩ := aN aD) | ((with_reducible refine dJ (f := 57) rfl ?_); refine dV (some 17) rfl rfl Tryz.func57 (by kernel_rfl) rfl #[.slice fM aV.length fO] rfl ?_; (with_reducible refine (uF.calls _ _ aV t104 t105 _ ?iU ?iV A9.out).mono ?_); (case iU => exact uY tC HB); (case iV => exact vS.out); rintro e Bl ⟨rfl, hb⟩; refine ⟨_, rfl, ?_⟩; replace aD := aI aD hb; replace HB := hbS HB hb; (try clear hb))); replace aD := aA (kU aD.out); replace HB := aA (iO HB.out)
     refine vQ (n := 10) (S := fun w' => w'.cell? ⟨dG, 0, none⟩ = some (.string aY) ∧ w'.cell? ⟨dG, 1, none⟩ = some (.int .i64 aT) ∧ w'.cell? ⟨dG, 2, none⟩ = some (.slice fM aV.length fO) ∧ w'.cell? ⟨dG, 3, none⟩ = some (.string bC)) (ds := []) (bA 10 0) (by kernel_rfl) rfl rfl ⟨gK aD 0, gK aD 1, gK aD 2, gK aD 3⟩ (fun hHeld => ?_); refine G6 mI.m_ mI.Y9 (fun gP pX => ?_)
     generalize Bl.drew = w35 at aD HB hHeld ⊢
     refine mH (i := 0) (N := some 25) (bA 10 1) gP ?_
     refine mH (i := 3) (N := some 28) (bA 10 9) gP ?_
     refine mH (i := 4) (N := some 29) (bA 10 25) gP ?_
     refine JD (i := 1) (N := some 26) (bA 10 27) gP pX hHeld ?_
     refine mH (i := 2) (N := some 27) (bA 10 31) gP ?_
     refine JD (i := 5) (N := some 30) (bA 10 63) gP pX hHeld ?_
     refine sN (i := 6) (N := some 31) (bA 10 127) rfl rfl (NY gP.out (by kernel_rfl)) (by decide) (fun K hK => ?_)
     refine xO Tryz.func56 (by kernel_rfl) rfl #[.int .i64 aT] (by rfl) rfl rfl ?_
     with_reducible refine (oV.calls aT t106 _ yG.out).mono ?_
     rintro e Rz ⟨rfl, hb⟩
     refine ⟨_, rfl, ?_⟩
     replace aD := aI aD hb; replace HB := hbS HB hb; try clear hb
     refine hK.out _ _ ⟨gK aD 0, gK aD 1, gK aD 2, gK aD 3⟩ (fun hHeld => ?_)
     clear hK K
     refine xP 31 ?_
     refine mH (i := 7) (N := some 32) (bA 10 255) gP ?_
     refine mH (i := 8) (N := some 33) (bA 10 511) gP ?_
     refine mH (i := 9) (N := some 24) (bA 10 1023) gP ?_
     refine FL (X3 gP.out (by kernel_rfl)) ?_
     try go_wp2
     go_ret
     exact ⟨eH, aJ HB⟩
   ·
    rw [iN c10] at H; have qO := beq_eq_false_iff_ne.mpr c10; have zN := bne_iff_ne.mpr c10; obtain rfl := Option.some.inj H
    go_enter Tryz.func34, Tryz.ntmps34
    go_wp2_with (first | ((with_reducible refine cK (N := 1) rfl ?_); refine dB (N := 1) (cs := #[.string aY, .int .i64 aT, .slice fM aV.length fO, .string bC]) (t := 33) ?_; intro dG hg w37 aG hb; have aD := aA aG; have lV := bB HB hg; have lU := bB HB hg; replace HB := hbS HB hb; clear hb aG hg; obtain ⟨fu, fw, Ip, Iq⟩ := aN aD) | ((with_reducible refine dJ (f := 55) rfl ?_); refine dV (some 8) rfl rfl Tryz.func55 (by kernel_rfl) rfl #[.string aY] rfl ?_; (with_reducible refine (wR.calls aY true _ A2.out).mono ?_); rintro e w' ⟨rfl, ⟨nd, rfl⟩⟩; refine ⟨_, rfl, ?_⟩) | ((with_reducible refine dJ (f := 56) rfl ?_); refine dV (some 12) rfl rfl Tryz.func56 (by kernel_rfl) rfl #[.int .i64 aT] rfl ?_; (with_reducible refine (oV.calls aT t103 _ A4.out).mono ?_); rintro e w39 ⟨rfl, hb⟩; refine ⟨_, rfl, ?_⟩; replace aD := aI aD hb; replace HB := hbS HB hb; (try clear hb); obtain ⟨aFL, aFM, aFN, aFO⟩ := aN aD) | ((with_reducible refine dJ (f := 57) rfl ?_); refine dV (some 17) rfl rfl Tryz.func57 (by kernel_rfl) rfl #[.slice fM aV.length fO] rfl ?_; (with_reducible refine (uF.calls _ _ aV t104 t105 _ ?iU ?iV A9.out).mono ?_); (case iU => exact uY tC HB); (case iV => exact vS.out); rintro e w41 ⟨rfl, hb⟩; refine ⟨_, rfl, ?_⟩; replace aD := aI aD hb; replace HB := hbS HB hb; (try clear hb)))
    go_ret
    exact ⟨eH, aJ HB⟩
 ·
  replace c3 := Bool.eq_false_iff.mpr c3; subst c3; have H1 : (some 8) = some r := by rw [iN (show ¬ (false = true) by decide)] at H; exact H
  clear H; have H := H1; clear H1; obtain rfl := Option.some.inj H
  go_enter Tryz.func34, Tryz.ntmps34
  go_wp2_with (first | ((with_reducible refine cK (N := 1) rfl ?_); refine dB (N := 1) (cs := #[.string aY, .int .i64 aT, .slice fM aV.length fO, .string bC]) (t := 33) ?_; intro dG hg Sa aG hb; have aD := aA aG; have lV := bB HB hg; have lU := bB HB hg; replace HB := hbS HB hb; clear hb aG hg; obtain ⟨gq, gu, gy, gz⟩ := aN aD) | ((with_reducible refine dJ (f := 55) rfl ?_); refine dV (some 8) rfl rfl Tryz.func55 (by kernel_rfl) rfl #[.string aY] rfl ?_; (with_reducible refine (wR.calls aY false _ A2.out).mono ?_); rintro e w' ⟨rfl, ⟨nd, rfl⟩⟩; refine ⟨_, rfl, ?_⟩))
  go_ret
  exact ⟨eH, aJ HB⟩
def xQ.f (aY : ByteArray) (aT : Int) (aV : List Int) (bC : ByteArray) : Option Int := if aY.size ≤ 140737488351232 ∧ bC.size ≤ 140737488351232 then some (qR aY aT aV bC) else none
theorem aA6 (name : ByteArray) (kind : Int) (bE : List Int) (data : ByteArray) (i q : Nat) (hq : gF kind = (q : Int)) (hq0 : 0 < q) (hd : data.size ≤ 140737488351232) (hi : (i + 1) * q ≤ data.size) :
 NC.f name kind bE data (i : Int) = some (data.extract (i * q) (i * q + q)) := by
 have hm : (i + 1) * q = i * q + q := Nat.succ_mul i q
 obtain ⟨m, Ay⟩ : ∃ m, m = data.size / q := ⟨_, rfl⟩
 have hml : m ≤ data.size := by rw [Ay]; exact Nat.div_le_self _ _
 have e1 : wrap64 ((data.size : Int) / (q : Int)) = (m : Int) := by
  rw [show ((data.size : Int) / (q : Int)) = (m : Int) by rw [Ay]; rfl]
  exact fC (by omega) (by omega)
 have e2 : wrap64 ((i : Int) * (q : Int)) = ((i * q : Nat) : Int) := by
  rw [show ((i : Int) * (q : Int)) = ((i * q : Nat) : Int) by simp]
  exact fC (by omega) (by omega)
 have e3 : wrap64 (((i * q : Nat) : Int) + (q : Int)) = ((i * q + q : Nat) : Int) := by
  rw [show (((i * q : Nat) : Int) + (q : Int)) = ((i * q + q : Nat) : Int) by omega]
  exact fC (by omega) (by omega)
 have hdiv : i < m := by rw [Ay]; exact (Nat.le_div_iff_mul_le hq0).2 hi
 unfold NC.f
 rw [show oV.f kind = some (gF kind) from rfl, Option.bind_some, hq, iN (by omega), iN (by omega), e1, iN (by omega), e2, e3, ip (by omega), ip (by omega), ip (by omega), Int.toNat_natCast, Int.toNat_natCast]
theorem Xv (name : ByteArray) (kind : Int) (bE : List Int) (data : ByteArray) (i q : Nat) (hq : gF kind = (q : Int)) (hq0 : 0 < q) (hi : (i + 1) * q ≤ data.size) :
 KX.f name kind bE data (data.extract (i * q) (i * q + q)) = some (ED kind data i) := by
 have hm : (i + 1) * q = i * q + q := Nat.succ_mul i q
 unfold KX.f ED
 by_cases h9 : kind = 9
 · subst h9
   obtain rfl : q = 1 := by have : gF 9 = 1 := rfl; omega
   rw [ip rfl, ip rfl, ip (by rw [ByteArray.size_extract]; omega)]
   have := Xm data (i * 1) (i * 1 + 1) 0 (by omega) (by omega)
   rw [Nat.add_zero, Nat.mul_one] at this
   rw [Nat.mul_one]
   rw [show ((0 : Nat) : Int) = 0 from rfl] at this
   rw [this]; rfl
 · rw [iN h9, iN h9]
   by_cases sO : kind = 14
   · subst sO
     obtain rfl : q = 8 := by have : gF 14 = 8 := rfl; omega
     rw [ip rfl, ip rfl, Nat.mul_comm]
   · rw [iN sO, iN sO]
theorem Tf (name : ByteArray) (kind : Int) (bE : List Int) (data : ByteArray) (n q : Nat) (hq : gF kind = (q : Int)) (hq0 : 0 < q) (hd : data.size ≤ 140737488351232) (hn : data.size = n * q) (d : Nat) : ∀ (k i : Nat), n - i = d → i ≤ n → d < k →
 mI.l0 k (n : Int) (i : Int) name kind bE data = some (if ((List.range n).drop i).all (ED kind data) = true then 0 else 17) := by
 have Ot : n ≤ data.size := by rw [hn]; exact Nat.le_mul_of_pos_right n hq0
 induction d with
 | zero =>
  intro k i hdd hi hk
  obtain ⟨k, rfl⟩ : ∃ m, k = m + 1 := ⟨k - 1, by omega⟩
  simp only [mI.l0]
  rw [iN (by omega), List.drop_of_length_le (by simp; omega)]; rfl
 | succ d ih =>
  intro k i hdd hi hk
  obtain ⟨k, rfl⟩ : ∃ m, k = m + 1 := ⟨k - 1, by omega⟩
  have hlt : i < n := by omega
  have hi2 : (i + 1) * q ≤ data.size := by rw [hn]; exact Nat.mul_le_mul_right q hlt
  simp only [mI.l0]
  rw [ip (by omega), aA6 name kind bE data i q hq hq0 hd hi2, Option.bind_some, Xv name kind bE data i q hq hq0 hi2, Option.bind_some, Fu _ n i hlt]
  cases ED kind data i with
  | false => rfl
  | true =>
   rw [ip rfl, Bool.true_and, fC (by omega) (by omega)]
   exact ih k (i + 1) (by omega) (by omega) (by omega)
theorem xQ.ev (aY : ByteArray) (aT : Int) (aV : List Int) (bC : ByteArray) (r) (h : xQ.f aY aT aV bC = some r) : ∃ k, mI.f k aY aT aV bC = some r := by
 unfold xQ.f at h
 split at h
 case isFalse => cases h
 rename_i hs
 rw [← Option.some.inj h]
 unfold qR mI.f wR.f
 rw [ip hs.1]
 simp only [Option.bind_some, show oV.f aT = some (gF aT) from rfl, show uF.f aV = some (kE aV) from rfl]
 by_cases hn : tK aY = true
 case neg => exact ⟨0, by rw [iN hn, iN hn]⟩
 rw [ip hn]
 by_cases hk : gF aT = 0
 · exact ⟨0, by rw [ip hn, ip hk, ip hk]⟩
 rw [iN hk]
 by_cases hz : (kE aV).2 = 0
 case neg => exact ⟨0, by rw [ip hn, iN hk, iN hz, iN hz]⟩
 rw [ip hz]
 have hb := _V hz
 obtain ⟨q, hq⟩ := Int.eq_ofNat_of_zero_le (show 0 ≤ gF aT by rcases XC aT with h | h | h | h <;> omega)
 have hq8 : 0 < q ∧ q ≤ 8 := by rcases XC aT with h | h | h | h <;> omega
 obtain ⟨n, hn2⟩ := Int.eq_ofNat_of_zero_le hb.1
 have hle : n * q ≤ 65536 * 8 := Nat.mul_le_mul (by omega) hq8.2
 have hw : wrap64 ((kE aV).1 * gF aT) = (kE aV).1 * gF aT := by
  rw [hq, hn2, show ((n : Int) * (q : Int)) = ((n * q : Nat) : Int) by simp]
  exact fC (by omega) (by omega)
 by_cases hd : (bC.size : Int) = (kE aV).1 * gF aT
 case neg => exact ⟨0, by rw [ip hn, iN hk, ip hz, hw, iN hd, iN hd]⟩
 have hd2 : bC.size = n * q := by rw [hq, hn2] at hd; exact_mod_cast hd
 have := Tf aY aT aV bC n q hq hq8.1 hs.2 hd2 n (n + 1) 0 (by omega) (by omega) (by omega)
 rw [List.drop_zero] at this
 refine ⟨n + 1, ?_⟩
 rw [ip hn, iN hk, ip hz, hw, ip hd, ip hd, hn2, Int.toNat_natCast]
 exact this
theorem xQ.calls (aY : ByteArray) (aT : Int) (fM : Option Addr) (fO : Nat) (aV : List Int) (bC : ByteArray) (r : Int) (w : World) (rF : Kd.C (Kd.int .i64) w fM aV.length aV) (rE : aV.length ≤ fO) (h : xQ.f aY aT aV bC = some r) :
 Calls Tryz.prog 34 #[.agg #[.string aY, .int .i64 aT, .slice fM aV.length fO, .string bC]] w fun e w' => e = .returned (.int .i64 r) ∧ Below w.heap.size w w' := by
 obtain ⟨k, hk⟩ := xQ.ev aY aT aV bC _ h
 exact mI.calls k aY aT fM fO aV bC r w rF rE hk
def sJ (l : List (ByteArray × ByteArray)) (key : ByteArray) (off len : Int) : ByteArray × Int :=
 if yF key = true then (if off < 0 ∨ len < 0 then (⟨#[]⟩, 17) else match fB l key with
  | none => (⟨#[]⟩, 18)
  | some b => if off > b.size ∨ len > b.size - off then (⟨#[]⟩, 1) else (b.extract off.toNat (off + len).toNat, 0)) else (⟨#[]⟩, 9)
def Fq (w : World) (r : ByteArray × Int) (e : Ending) (w' : World) : Prop := e = .returned (.tuple #[.string r.1, .int .i64 r.2]) ∧ Below w.heap.size w w'
theorem aAf (m : Option Nat) (l : List (ByteArray × ByteArray)) (key : ByteArray) (off len : Int) (w : World) (hm : oZ w m l) (hkey : key.size ≤ 140737488351232) (hd : ∀ b, fB l key = some b → b.size ≤ 140737488351232) (ho : -9223372036854775808 ≤ off ∧ off < 9223372036854775808) (hl : -9223372036854775808 ≤ len ∧ len < 9223372036854775808) :
 Calls Tryz.prog 61 #[.agg #[.map m], .string key, .int .i64 off, .int .i64 len] w (Fq w (sJ l key off len)) := by
 have hu := Tryz.underlying25
 have HM := aC.mk hm
 have HB := aC.mk (Below.refl w.heap.size w)
 have HC := aC.mk (ay key hkey)
 have HD := aC.mk hd
 have HO := aC.mk ho
 have HL := aC.mk hl
 obtain ⟨kb, hkb⟩ : ∃ kb, yF key = kb := ⟨_, rfl⟩
 rw [hkb] at HC
 have HR : aC (sJ l key off len = (if kb = true then (if off < 0 ∨ len < 0 then (⟨#[]⟩, 17) else match fB l key with
  | none => (⟨#[]⟩, 18)
  | some b => if off > b.size ∨ len > b.size - off then (⟨#[]⟩, 1) else (b.extract off.toNat (off + len).toNat, 0)) else (⟨#[]⟩, 9) : ByteArray × Int)) := ⟨by unfold sJ; rw [hkb]⟩
 generalize sJ l key off len = R at HR ⊢
 clear hm hkey hd ho hl hkb
 go_enter Tryz.func61, Tryz.ntmps61
 go_wp2_with (first | ((with_reducible refine cK (N := 4) rfl ?_); refine dB (N := 4) (cs := #[.map m]) (t := 25) ?_; intro V6 hg w4 aG hb; have uA := aA aG; replace HB := hbS HB hb; replace HM := aA (HM.out.kept hb); clear hb aG hg))
 refine (HC.out _).mono ?_
 rintro e w5 ⟨rfl, hb⟩
 replace uA := aI uA hb; replace HM := aA (HM.out.kept hb); replace HB := hbS HB hb
 clear hb HC
 have hc4 := iA uA
 cases kb with
 | false =>
  obtain rfl := HR.out
  go_wp2
  go_ret2
  exact ⟨rfl, HB.out⟩
 | true =>
  have HR1 := aC.mk (HR.out.trans (ip rfl))
  clear HR
  by_cases h0 : off < 0
  · obtain rfl := HR1.out.trans (ip (.inl h0))
    have b0 : decide (off < 0) = true := dT h0
    clear h0 HR1
    go_wp2
    go_ret2
    exact ⟨rfl, HB.out⟩
  have b0 : decide (off < 0) = false := dF h0
  by_cases h1 : len < 0
  · obtain rfl := HR1.out.trans (ip (.inr h1))
    have b1 : decide (len < 0) = true := dT h1
    clear h1 HR1 h0
    go_wp2
    go_ret2
    exact ⟨rfl, HB.out⟩
  have b1 : decide (len < 0) = false := dF h1
  have HR2 := aC.mk (HR1.out.trans (iN (fun h => h.elim h0 h1)))
  clear HR1
  have hlk := SQ HM.out key
  cases hg : fB l key with
  | none =>
   rw [hg] at hlk
   obtain rfl := HR2.out.trans (by rw [hg])
   clear hg h0 h1 HR2
   go_wp2
   go_ret2
   exact ⟨rfl, HB.out⟩
  | some b =>
   rw [hg] at hlk
   have HR3 := aC.mk (HR2.out.trans (by rw [hg]))
   have hbs := HD.out b hg
   clear hg HR2
   by_cases h2 : off > (b.size : Int)
   · obtain rfl := HR3.out.trans (ip (.inl h2))
     have b2 : decide ((b.size : Int) < off) = true := dT h2
     clear h0 h1 h2 HR3
     go_wp2
     go_ret2
     exact ⟨rfl, HB.out⟩
   have b2 : decide ((b.size : Int) < off) = false := dF h2
   have hw : IntKind.i64.wrap ((b.size : Int) - off) = (b.size : Int) - off := by rw [dC]; exact fC (by omega) (by omega)
   have hw' : wrap64 ((b.size : Int) - off) = (b.size : Int) - off := fC (by omega) (by omega)
   by_cases h3 : len > (b.size : Int) - off
   · obtain rfl := HR3.out.trans (ip (.inr h3))
     have b3 : decide ((b.size : Int) - off < len) = true := dT h3
     clear h0 h1 h2 h3 HR3
     go_wp2
     go_ret2
     exact ⟨rfl, HB.out⟩
   · obtain rfl := HR3.out.trans (iN (fun h => h.elim h2 h3))
     have b3 : decide ((b.size : Int) - off < len) = false := dF h3
     obtain ⟨on, rfl⟩ : ∃ n : Nat, off = n := ⟨off.toNat, by omega⟩
     obtain ⟨ln, rfl⟩ : ∃ n : Nat, len = n := ⟨len.toNat, by omega⟩
     have hs1 : on ≤ b.size := by omega
     have hs2 : on + ln ≤ b.size := by omega
     have hs3 : (0 : Int) ≤ (on : Int) + (ln : Int) := by omega
     have hw2 : IntKind.i64.wrap ((on : Int) + (ln : Int)) = (on : Int) + (ln : Int) := by rw [dC]; unfold wrap64; omega
     have hs4 : (on : Int) + (ln : Int) ≤ (b.size : Int) := by omega
     have hs5 : (on : Int) ≤ (on : Int) + (ln : Int) := by omega
     have hs6 : ((on : Int) + (ln : Int)).toNat = on + ln := by omega
     clear h0 h1 h2 h3 HR3
     go_wp2
     go_ret2
     exact ⟨by rw [hs6]; rfl, HB.out⟩
section
mutual
def kX.j0 : Nat → ByteArray → Bool → Option (Int)
 | 0, _, _ => none
 | k + 1, x0, JH => if JH = true then (some (-1)) else (kX.l0 k x0 0 0)
def kX.l0 : Nat → ByteArray → Int → Int → Option (Int)
 | 0, _, _, _ => none
 | k + 1, x0, x3, x4 => if x4 < (x0.size : Int) then (if 0 ≤ x4 then (if (bt x0 x4) < 48 then (some (-1)) else (if (bt x0 x4) > 57 then (some (-1)) else (kX.l0 k x0 (wrap64 ((wrap64 (x3 * 10)) + (((bt x0 x4) - 48) % 256))) (wrap64 (x4 + 1))))) else (none)) else (some x3)
end
def kX.f (k : Nat) (a0 : ByteArray) : Option (Int) := if (a0.size : Int) = 0 then (kX.j0 k a0 true) else (if (a0.size : Int) > 18 then (kX.j0 k a0 true) else (if (a0.size : Int) > 1 then (if 0 < (a0.size : Int) then (kX.j0 k a0 ((bt a0 0) == 48)) else (none)) else (kX.j0 k a0 false)))
theorem kX.calls (k : Nat) (a0 : ByteArray) (r : Int) (w : World) (h : kX.f k a0 = some r) :
 Calls Tryz.prog 65 #[.string a0] w fun e w' => e = .returned (.int .i64 r) ∧ fG w w' := by
 have H : (if (a0.size : Int) = 0 then (kX.j0 k a0 true) else (if (a0.size : Int) > 18 then (kX.j0 k a0 true) else (if (a0.size : Int) > 1 then (if 0 < (a0.size : Int) then (kX.j0 k a0 ((bt a0 0) == 48)) else (none)) else (kX.j0 k a0 false)))) = some r := h; clear h; have BZ := aA H; clear H
 go_enter Tryz.func65, Tryz.ntmps65
 go_upto_region 1 with (fail)
 go_cut [22] (fun v22 wc => ∃ (kq : Nat) (J7 : Bool), v22 = .bool J7 ∧ aC (kX.j0 kq a0 J7 = some r) ∧ aC (kq ≤ k) ∧ fG w wc)
 case first =>
  have H := BZ.out; clear BZ
  by_cases c3 : (a0.size : Int) = 0
  ·
   rw [ip c3] at H; obtain ⟨gL, rW⟩ := dH c3; clear c3
   (first | rw [gL] | (simp only [dC, iC]; rw [gL]) | skip)
   have H' := aA H; clear H
   go_wp2
   go_meet
   case rel => exact ⟨_, (true), aZ, H', qX, dr⟩
  ·
   rw [iN c3] at H; have gL := beq_eq_false_iff_ne.mpr c3; have rW := bne_iff_ne.mpr c3
   (first | rw [gL] | (simp only [dC, iC]; rw [gL]) | skip)
   by_cases c4 : (a0.size : Int) > 18
   ·
    rw [ip c4] at H; have fP := dT c4; have oN : decide (18 < a0.size) = true := dT (by omega); clear c4; have H' := aA H; clear H
    go_wp2
    go_meet
    case rel => exact ⟨_, (true), aZ, H', qX, dr⟩
   ·
    rw [iN c4] at H; have fP := dF c4; have oN : decide (18 < a0.size) = false := dF (by omega); clear c4
    by_cases c5 : (a0.size : Int) > 1
    ·
     rw [ip c5] at H; have iH := dT c5; have lF : decide (1 < a0.size) = true := dT (by omega); clear c5; replace H := dU H; obtain ⟨c6, H⟩ := H; have kP := dT c6; have wD : decide (0 < a0.size) = true := dT (by omega); clear c6; have H' := aA H; clear H; have p7 : 0 ≤ (0 : Int) := (by omega); have q7 : 0 < a0.size := (by have : (0 : Int) < (a0.size : Int) := aK; omega); have hx7 : ∀ h : 0 < a0.size, ((a0[0]'h).toNat : Int) = bt a0 0 := fE a0 0; clear p7; have Be : (0 < (a0.size : Int)) = True := eT (aK); replace q7 := eT q7
     go_wp2
     go_meet
     case rel => exact ⟨_, (((bt a0 0) == 48)), aZ, H', qX, dr⟩
    ·
     rw [iN c5] at H; have iH := dF c5; have lF : decide (1 < a0.size) = false := dF (by omega); clear c5; have H' := aA H; clear H
     go_wp2
     go_meet
     case rel => exact ⟨_, (false), aZ, H', qX, dr⟩
 case rest =>
  clear BZ; obtain ⟨kq, J7, rfl, HA, RI, ⟨mc1, rfl⟩⟩ := hcut
  cases kq with
  | zero => exact absurd HA.out (by simp [kX.j0])
  | succ M4 =>
   have H := HA.out; clear HA
   simp only [kX.j0] at H
   by_cases c8 : J7 = true
   ·
    subst c8; have H1 : (some (-1)) = some r := by rw [ip rfl] at H; exact H
    clear H; have H := H1; clear H1; obtain rfl := Option.some.inj H
    go_wp2
    go_ret
    exact dW
   ·
    replace c8 := Bool.eq_false_iff.mpr c8; subst c8; have H1 : (kX.l0 M4 a0 0 0) = some r := by rw [iN (show ¬ (false = true) by decide)] at H; exact H
    clear H; have H := H1; clear H1; have H' := aA H; clear H
    go_wp2
    go_loopg [3, 4] M4 (fun kq v3 v4 w' => ∃ (n_ : Int) (jZ : Int), v3 = .int .i64 n_ ∧ v4 = .int .i64 jZ ∧ aC (kX.l0 kq a0 n_ jZ = some r) ∧ aC (kq ≤ M4) ∧ fG w w')
    case atStart => exact ⟨(0), (0), aZ, aZ, H', ⟨Nat.le_refl _⟩, dr⟩
    case round =>
     clear H'; obtain ⟨n_, jZ, rfl, rfl, HA, nO, ⟨m2, rfl⟩⟩ := hrel
     cases gk with
     | zero => exact absurd HA.out (by simp [kX.l0])
     | succ k2 =>
      have H := HA.out; clear HA
      simp only [kX.l0] at H
      by_cases c9 : jZ < (a0.size : Int)
      ·
       rw [ip c9] at H; have mO := dT c9; clear c9; replace H := dU H; obtain ⟨c10, H⟩ := H; have qO := dT c10; clear c10
       by_cases c12 : (bt a0 jZ) < 48
       ·
        rw [ip c12] at H; have tH := dT c12; clear c12; obtain rfl := Option.some.inj H; have M6 : 0 ≤ (jZ : Int) := aK; have M7 : jZ < (a0.size : Int) := aK; have Ov := fE a0 jZ; replace M6 := eT M6; replace M7 := eT M7
        go_wp2
        go_ret
        exact dW
       ·
        rw [iN c12] at H; have tH := dF c12; clear c12
        by_cases c14 : (bt a0 jZ) > 57
        ·
         rw [ip c14] at H; have yB := dT c14; clear c14; obtain rfl := Option.some.inj H; have M6 : 0 ≤ (jZ : Int) := aK; have M7 : jZ < (a0.size : Int) := aK; have Ov := fE a0 jZ; replace M6 := eT M6; replace M7 := eT M7; have GG : 0 ≤ (jZ : Int) := aK; have GH : jZ < (a0.size : Int) := aK; have uk := fE a0 jZ; replace GG := eT GG; replace GH := eT GH
         go_wp2
         go_ret
         exact dW
        ·
         rw [iN c14] at H; have yB := dF c14; clear c14; have H' := aA H; clear H; have M6 : 0 ≤ (jZ : Int) := aK; have M7 : jZ < (a0.size : Int) := aK; have Ov := fE a0 jZ; replace M6 := eT M6; replace M7 := eT M7; have GG : 0 ≤ (jZ : Int) := aK; have GH : jZ < (a0.size : Int) := aK; have uk := fE a0 jZ; replace GG := eT GG; replace GH := eT GH; have Rv : 0 ≤ (jZ : Int) := aK; have Rx : jZ < (a0.size : Int) := aK; have aIZ := fE a0 jZ; replace Rv := eT Rv; replace Rx := eT Rx
         go_wp2
         go_roundg k2
         case measure => have := RI.out; have := nO.out; omega
         case rel => exact ⟨(wrap64 ((wrap64 (n_ * 10)) + (((bt a0 jZ) - 48) % 256))), (wrap64 (jZ + 1)), aZ, aZ, H', ⟨by have := RI.out; have := nO.out; omega⟩, dr⟩
      ·
       rw [iN c9] at H; have mO := dF c9; clear c9; obtain rfl := Option.some.inj H
       go_wp2
       go_ret
       exact dW
end
end Go.Proofs.YtgmggompdidcoaaGreatDoor.X
