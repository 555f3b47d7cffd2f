import Derived.Test.YtgmggompdidcoaaGreatDoorMPbtensorReads3
namespace Go.Proofs.YtgmggompdidcoaaGreatDoor.X
open Go.RowKit Go.Proofs.YtgmggompdidcoaaGreatDoorW.aX Go.Proofs.YtgmggompdidcoaaGreatDoorW.bJ Go.Proofs.YtgmggompdidcoaaGreatDoorW.bK
attribute [local go_sem] bO bQ bS bU bM bN bP bR
set_option linter.unusedVariables false
set_option linter.unusedSimpArgs false
set_option maxHeartbeats 8000000
set_option maxRecDepth 100000
section
mutual
def qK.l0 : Nat → ByteArray → Int → Int → Int → Option (Int × Int × Int)
 | 0, _, _, _, _ => none
 | k + 1, x0, x5, x6, x7 => if x7 < 10 then (if x7 = (x0.size : Int) then (some (0, 0, 1)) else (if x7 = 9 then (if 0 ≤ x7 then (if x7 < (x0.size : Int) then (qK.j1 k x0 x5 x6 x7 (decide ((bt x0 x7) > 1))) else (none)) else (none)) else (qK.j1 k x0 x5 x6 x7 false))) else (some (0, 0, 2))
def qK.j1 : Nat → ByteArray → Int → Int → Int → Bool → Option (Int × Int × Int)
 | 0, _, _, _, _, _ => none
 | k + 1, x0, x5, x6, x7, WX => if WX = true then (some (0, 0, 2)) else (if 0 ≤ x7 then (if x7 < (x0.size : Int) then (if (bt x0 x7) < 128 then (some (IntKind.u64.wrap (x5 + (IntKind.u64.wrap ((IntKind.u64.wrap (Int.tmod (bt x0 x7) 128)) * x6))), wrap64 (x7 + 1), 0)) else (qK.l0 k x0 (IntKind.u64.wrap (x5 + (IntKind.u64.wrap ((IntKind.u64.wrap (Int.tmod (bt x0 x7) 128)) * x6)))) (IntKind.u64.wrap (x6 * 128)) (wrap64 (x7 + 1)))) else (none)) else (none))
end
def qK.f (k : Nat) (a0 : ByteArray) : Option (Int × Int × Int) := qK.l0 k a0 0 1 0
theorem qK.calls (k : Nat) (a0 : ByteArray) (r1 : Int) (r2 : Int) (r3 : Int) (w : World) (h : qK.f k a0 = some (r1, r2, r3)) :
 Calls Tryz.prog 62 #[.string a0] w fun e w' => e = .returned (.tuple #[.int .u64 r1, .int .i64 r2, .int .i64 r3]) ∧ fG w w' := by
 have H : (qK.l0 k a0 0 1 0) = some (r1, r2, r3) := h; clear h; have H' := aA H; clear H
 go_enter Tryz.func62, Tryz.ntmps62
 go_wp2
 go_loopg [5, 6, 7] k (fun kq v5 v6 v7 w' => ∃ (eU : Int) (bH : Int) (aH : Int), v5 = .int .u64 eU ∧ v6 = .int .u64 bH ∧ v7 = .int .i64 aH ∧ aC (qK.l0 kq a0 eU bH aH = some (r1, r2, r3)) ∧ aC (kq ≤ k) ∧ fG w w')
 case atStart => exact ⟨(0), (1), (0), aZ, aZ, aZ, H', ⟨Nat.le_refl _⟩, dr⟩
 case round =>
  clear H'; obtain ⟨eU, bH, aH, rfl, rfl, rfl, HA, bD, ⟨m1, rfl⟩⟩ := hrel
  cases gk with
  | zero => exact absurd HA.out (by simp [qK.l0])
  | succ k1 =>
   have H := HA.out; clear HA
   simp only [qK.l0] at H
   by_cases c2 : aH < 10
   ·
    rw [ip c2] at H; have iZ := dT c2; clear c2
    by_cases c3 : aH = (a0.size : Int)
    ·
     rw [ip c3] at H; obtain ⟨gL, rW⟩ := dH c3; clear c3
     simp only [Option.some.injEq, Prod.mk.injEq] at H
     obtain ⟨rfl, rfl, rfl⟩ := H
     go_wp2
     go_ret3
     exact dW
    ·
     rw [iN c3] at H; have gL := beq_eq_false_iff_ne.mpr c3; have rW := bne_iff_ne.mpr c3; have OO := aA H; clear H
     go_upto_region 8 with (fail)
     go_cut [23] (fun v23 wc => ∃ (kq : Nat) (ZQ : Bool), v23 = .bool ZQ ∧ aC (qK.j1 kq a0 eU bH aH ZQ = some (r1, r2, r3)) ∧ aC (kq ≤ k1) ∧ fG w wc)
     case first =>
      have H := OO.out; clear OO
      by_cases c5 : aH = 9
      ·
       rw [ip c5] at H; obtain ⟨iH, lF⟩ := dH c5; clear c5
       (first | rw [iH] | (simp only [dC, iC]; rw [iH]) | skip)
       replace H := dU H; obtain ⟨c6, H⟩ := H; have kP := dT c6; clear c6; replace H := dU H; obtain ⟨c7, H⟩ := H; have nA := dT c7; clear c7; have H' := aA H; clear H; have p8 : 0 ≤ (aH : Int) := aK; have q8 : aH < (a0.size : Int) := aK; have hx8 := fE a0 aH; replace p8 := eT p8; replace q8 := eT q8
       go_wp2
       go_meet
       case rel => exact ⟨_, (decide ((bt a0 aH) > 1)), aZ, H', ⟨by have := bD.out; first | omega | exact Nat.le_refl _⟩, dr⟩
      ·
       rw [iN c5] at H; have iH := beq_eq_false_iff_ne.mpr c5; have lF := bne_iff_ne.mpr c5
       (first | rw [iH] | (simp only [dC, iC]; rw [iH]) | skip)
       have H' := aA H; clear H
       go_wp2
       go_meet
       case rel => exact ⟨_, (false), aZ, H', ⟨by have := bD.out; first | omega | exact Nat.le_refl _⟩, dr⟩
     case rest =>
      clear OO; try clear c2; try clear iZ; try clear c3; try clear gL; try clear rW
      obtain ⟨kq, ZQ, rfl, HA, KI, ⟨mc3, rfl⟩⟩ := hcut
      cases kq with
      | zero => exact absurd HA.out (by simp [qK.j1])
      | succ M5 =>
       have H := HA.out; clear HA
       simp only [qK.j1] at H
       by_cases c9 : ZQ = true
       ·
        subst c9; have H1 : (some (0, 0, 2)) = some (r1, r2, r3) := by rw [ip rfl] at H; exact H
        clear H; have H := H1; clear H1
        simp only [Option.some.injEq, Prod.mk.injEq] at H
        obtain ⟨rfl, rfl, rfl⟩ := H
        go_wp2
        go_ret3
        exact dW
       ·
        replace c9 := Bool.eq_false_iff.mpr c9; subst c9; have H1 : (if 0 ≤ aH then (if aH < (a0.size : Int) then (if (bt a0 aH) < 128 then (some (IntKind.u64.wrap (eU + (IntKind.u64.wrap ((IntKind.u64.wrap (Int.tmod (bt a0 aH) 128)) * bH))), wrap64 (aH + 1), 0)) else (qK.l0 M5 a0 (IntKind.u64.wrap (eU + (IntKind.u64.wrap ((IntKind.u64.wrap (Int.tmod (bt a0 aH) 128)) * bH)))) (IntKind.u64.wrap (bH * 128)) (wrap64 (aH + 1)))) else (none)) else (none)) = some (r1, r2, r3) := by rw [iN (show ¬ (false = true) by decide)] at H; exact H
        clear H; have H := H1; clear H1; replace H := dU H; obtain ⟨c10, H⟩ := H; have qO := dT c10; clear c10; replace H := dU H; obtain ⟨c11, H⟩ := H; have nJ := dT c11; clear c11
        by_cases c14 : (bt a0 aH) < 128
        ·
         rw [ip c14] at H; have yB := dT c14; clear c14
         simp only [Option.some.injEq, Prod.mk.injEq] at H
         obtain ⟨rfl, rfl, rfl⟩ := H; have zY : 0 ≤ (aH : Int) := aK; have zZ : aH < (a0.size : Int) := aK; have g_ := fE a0 aH; replace zY := eT zY; replace zZ := eT zZ; have GG : 0 ≤ (aH : Int) := aK; have GH : aH < (a0.size : Int) := aK; have uk := fE a0 aH; replace GG := eT GG; replace GH := eT GH
         go_wp2
         go_ret3
         exact dW
        ·
         rw [iN c14] at H; have yB := dF c14; clear c14; have H' := aA H; clear H; have zY : 0 ≤ (aH : Int) := aK; have zZ : aH < (a0.size : Int) := aK; have g_ := fE a0 aH; replace zY := eT zY; replace zZ := eT zZ; have GG : 0 ≤ (aH : Int) := aK; have GH : aH < (a0.size : Int) := aK; have uk := fE a0 aH; replace GG := eT GG; replace GH := eT GH
         go_wp2
         go_roundg M5
         case measure => have := bD.out; have := KI.out; omega
         case rel => exact ⟨(IntKind.u64.wrap (eU + (IntKind.u64.wrap ((IntKind.u64.wrap (Int.tmod (bt a0 aH) 128)) * bH)))), (IntKind.u64.wrap (bH * 128)), (wrap64 (aH + 1)), aZ, aZ, aZ, H', ⟨by have := bD.out; have := KI.out; omega⟩, dr⟩
   ·
    rw [iN c2] at H; have iZ := dF c2; clear c2
    simp only [Option.some.injEq, Prod.mk.injEq] at H
    obtain ⟨rfl, rfl, rfl⟩ := H
    go_wp2
    go_ret3
    exact dW
end
def qJ.f (a0 : ByteArray) : Option (Int × Int × Int) := some ((eD a0).1, (eD a0).2.1, (eD a0).2.2)
theorem Cu (v c i : Nat) (hv : v < 128 ^ i) (hi : i ≤ 9) (h9 : i = 9 → c ≤ 1) :
 IntKind.u64.wrap ((v : Int) + IntKind.u64.wrap (IntKind.u64.wrap (Int.tmod (c : Int) 128) * ((128 ^ i : Nat) : Int))) = ((v + c % 128 * 128 ^ i : Nat) : Int) := by
 have hp : v + c % 128 * 128 ^ i < 18446744073709551616 := by
  rcases Nat.lt_or_ge i 9 with h | h
  · have h1 : 128 ^ i ≤ 128 ^ 8 := Nat.pow_le_pow_right (by decide) (by omega)
    have h2 : c % 128 * 128 ^ i ≤ 127 * 128 ^ 8 := Nat.mul_le_mul (by omega) h1
    omega
  · obtain rfl : i = 9 := by omega
    have := h9 rfl
    have h2 : c % 128 * 128 ^ 9 ≤ 1 * 128 ^ 9 := Nat.mul_le_mul_right _ (by omega)
    omega
 have e : IntKind.u64.wrap (Int.tmod (c : Int) 128) * ((128 ^ i : Nat) : Int) = ((c % 128 * 128 ^ i : Nat) : Int) := by
  rw [Int.tmod_eq_emod_of_nonneg (by omega), LD, Int.natCast_mul]
  congr 1; omega
 rw [e, LD, LD]
 generalize c % 128 * 128 ^ i = x at *
 omega
theorem Sr (s : ByteArray) (d : Nat) : ∀ (k i v : Nat), i ≤ 9 → 9 - i = d → i ≤ s.size → v < 128 ^ i → 2 * d + 2 ≤ k →
 qK.l0 k s (v : Int) ((128 ^ i : Nat) : Int) (i : Int) = some (((sM ((ns s).drop i) i v).1 : Int), ((sM ((ns s).drop i) i v).2.1 : Int), ((sM ((ns s).drop i) i v).2.2 : Int)) := by
 induction d with
 | zero =>
  intro k i v hi hd hs hv hk
  obtain rfl : i = 9 := by omega
  obtain ⟨k, rfl⟩ : ∃ m, k = m + 2 := ⟨k - 2, by omega⟩
  simp only [qK.l0]
  rw [ip (by omega)]
  by_cases h : s.size = 9
  · rw [ip (by omega), NK _ _ (by omega)]; rfl
  · have hlt : 9 < s.size := by omega
    rw [iN (by omega), ip (by rfl), ip (by omega), ip (by omega), LJ s 9 hlt]
    have hb : bt s ((9 : Nat) : Int) = ((s[9]'hlt).toNat : Int) := BA s 9 hlt
    simp only [qK.j1]
    by_cases hc : 1 < (s[9]'hlt).toNat
    · rw [ip (dT (by rw [hb]; omega)), sM, ip ⟨rfl, hc⟩]; rfl
    · rw [iN (by rw [decide_eq_true_iff, hb]; omega), ip (by omega), ip (by omega), ip (by rw [hb]; omega), XI (by omega), ip (by omega), hb, Cu v _ 9 hv (by omega) (by omega)]
      rw [Nat.mod_eq_of_lt (show (s[9]'hlt).toNat < 128 by omega), show wrap64 (((9 : Nat) : Int) + 1) = 10 from by unfold wrap64; decide]
      rfl
 | succ d ih =>
  intro k i v hi hd hs hv hk
  obtain ⟨k, rfl⟩ : ∃ m, k = m + 2 := ⟨k - 2, by omega⟩
  simp only [qK.l0]
  rw [ip (by omega)]
  by_cases h : s.size = i
  · rw [ip (by omega), NK _ _ (by omega)]; rfl
  · have hlt : i < s.size := by omega
    rw [iN (by omega), iN (by omega), LJ s i hlt]
    have hb : bt s (i : Int) = ((s[i]'hlt).toNat : Int) := BA s i hlt
    simp only [qK.j1]
    rw [iN (by decide), ip (by omega), ip (by omega), hb, Cu v _ i hv (by omega) (by omega), XI (by omega)]
    have ew : wrap64 ((i : Int) + 1) = ((i + 1 : Nat) : Int) := by unfold wrap64; omega
    rw [ew]
    by_cases hc : (s[i]'hlt).toNat < 128
    · rw [ip (by omega), ip hc, Nat.mod_eq_of_lt hc]; rfl
    · rw [iN (by omega), iN hc]
      have hu : IntKind.u64.wrap (((128 ^ i : Nat) : Int) * 128) = ((128 ^ (i + 1) : Nat) : Int) := by
       rw [LD, Nat.pow_succ]
       have h1 : 128 ^ i ≤ 128 ^ 8 := Nat.pow_le_pow_right (by decide) (by omega)
       generalize 128 ^ i = x at *
       omega
      rw [hu]
      refine ih k (i + 1) _ (by omega) (by omega) (by omega) ?_ (by omega)
      have h1 : (s[i]'hlt).toNat % 128 * 128 ^ i ≤ 127 * 128 ^ i := Nat.mul_le_mul_right _ (by omega)
      rw [Nat.pow_succ]; omega
theorem qJ.ev (a0 : ByteArray) (r) (h : qJ.f a0 = some r) : ∃ k, qK.f k a0 = some r := by
 exact ⟨20, (Sr a0 9 20 0 0 (by omega) (by omega) (by omega) (by decide) (by omega)).trans h⟩
theorem qJ.calls (a0 : ByteArray) (r1 : Int) (r2 : Int) (r3 : Int) (w : World) (h : qJ.f a0 = some (r1, r2, r3)) :
 Calls Tryz.prog 62 #[.string a0] w fun e w' => e = .returned (.tuple #[.int .u64 r1, .int .i64 r2, .int .i64 r3]) ∧ fG w w' := by
 obtain ⟨k, hk⟩ := qJ.ev a0 _ h
 exact qK.calls k a0 r1 r2 r3 w hk
def xV.l0 : Nat → ByteArray → Int → Int → Option (Int)
 | 0, _, _, _ => none
 | k + 1, x0, x3, x4 => if x4 ≥ 0 then (if 0 ≤ x4 then (if x4 < (x0.size : Int) then (xV.l0 k x0 (IntKind.u64.wrap ((IntKind.u64.wrap (x3 * 256)) + (IntKind.u64.wrap (bt x0 x4)))) (wrap64 (x4 - 1))) else (none)) else (none)) else (some x3)
def xV.f (k : Nat) (a0 : ByteArray) : Option (Int) := xV.l0 k a0 0 (wrap64 ((a0.size : Int) - 1))
theorem xV.calls (k : Nat) (a0 : ByteArray) (r : Int) (w : World) (h : xV.f k a0 = some r) :
 Calls Tryz.prog 63 #[.string a0] w fun e w' => e = .returned (.int .u64 r) ∧ fG w w' := by
 have H : (xV.l0 k a0 0 (wrap64 ((a0.size : Int) - 1))) = some r := h; clear h; have H' := aA H; clear H
 go_enter Tryz.func63, Tryz.ntmps63
 go_wp2
 go_loopg [3, 4] k (fun kq v3 v4 w' => ∃ (eG : Int) (dN : Int), v3 = .int .u64 eG ∧ v4 = .int .i64 dN ∧ aC (xV.l0 kq a0 eG dN = some r) ∧ aC (kq ≤ k) ∧ fG w w')
 case atStart => exact ⟨(0), (wrap64 ((a0.size : Int) - 1)), aZ, aZ, H', ⟨Nat.le_refl _⟩, dr⟩
 case round =>
  clear H'; obtain ⟨eG, dN, rfl, rfl, HA, bD, ⟨m1, rfl⟩⟩ := hrel
  cases gk with
  | zero => exact absurd HA.out (by simp [xV.l0])
  | succ k1 =>
   have H := HA.out; clear HA
   simp only [xV.l0] at H
   by_cases c2 : dN ≥ 0
   · rw [ip c2] at H
     have iZ := dT c2; clear c2
     by_cases c3 : 0 ≤ dN
     · rw [ip c3] at H
       have gL := dT c3; clear c3
       by_cases c4 : dN < (a0.size : Int)
       · rw [ip c4] at H
         have fP := dT c4; clear c4; have H' := aA H; clear H; have p5 : 0 ≤ (dN : Int) := aK; have q5 : dN < (a0.size : Int) := aK; have hx5 := fE a0 dN; replace p5 := eT p5; replace q5 := eT q5
         go_wp2
         go_roundg k1
         case measure => have := bD.out; omega
         case rel => exact ⟨(IntKind.u64.wrap ((IntKind.u64.wrap (eG * 256)) + (IntKind.u64.wrap (bt a0 dN)))), (wrap64 (dN - 1)), aZ, aZ, H', iK bD, dr⟩
       · rw [iN c4] at H; exact uD H
     · rw [iN c3] at H; exact uD H
   · rw [iN c2] at H
     have iZ := dF c2; clear c2; obtain rfl := Option.some.inj H
     go_wp2
     go_ret
     exact dW
def JK.f (a0 : ByteArray) : Option Int := if a0.size ≤ 8 then some ((o8 (ns a0) : Nat) : Int) else none
theorem Sz (s : ByteArray) (hs : s.size ≤ 8) (i : Nat) : ∀ (k : Nat), i ≤ s.size → i < k →
 xV.l0 k s (o8 ((ns s).drop i) : Nat) ((i : Int) - 1) = some ((o8 (ns s) : Nat) : Int) := by
 induction i with
 | zero =>
  intro k hi hk
  obtain ⟨k, rfl⟩ : ∃ m, k = m + 1 := ⟨k - 1, by omega⟩
  simp only [xV.l0]
  rw [iN (by omega), List.drop_zero]
 | succ i ih =>
  intro k hi hk
  obtain ⟨k, rfl⟩ : ∃ m, k = m + 1 := ⟨k - 1, by omega⟩
  have hlt : i < s.size := by omega
  have hb : bt s (i : Int) = ((s[i]'hlt).toNat : Int) := BA s i hlt
  have hv := Ko ((ns s).drop (i + 1)) (fun c hc => oz s c (List.mem_of_mem_drop hc))
  rw [List.length_drop, vG] at hv
  have h1 : 256 ^ (s.size - (i + 1)) ≤ 256 ^ 7 := Nat.pow_le_pow_right (by decide) (by omega)
  have hc := (s[i]'hlt).toNat_lt
  simp only [xV.l0]
  rw [show (((i + 1 : Nat) : Int) - 1) = (i : Int) by omega, ip (by omega), ip (by omega), ip (by omega), hb]
  have e : IntKind.u64.wrap (IntKind.u64.wrap ((o8 ((ns s).drop (i + 1)) : Nat) * 256) + IntKind.u64.wrap ((s[i]'hlt).toNat : Int)) = (o8 ((ns s).drop i) : Nat) := by
   rw [LJ s i hlt, o8]
   generalize o8 ((ns s).drop (i + 1)) = x at *
   rw [uM (x := (x : Int) * 256) (by omega) (by omega), uM (x := ((s[i]'hlt).toNat : Int)) (by omega) (by omega), uM (by omega) (by omega)]
   omega
  rw [e, fC (by omega) (by omega)]
  exact ih k (by omega) (by omega)
theorem JK.ev (a0 : ByteArray) (r) (h : JK.f a0 = some r) : ∃ k, xV.f k a0 = some r := by
 unfold JK.f at h
 split at h
 · rename_i hs
   have := Sz a0 hs a0.size (a0.size + 1) (by omega) (by omega)
   rw [List.drop_of_length_le (by rw [vG]; omega)] at this
   refine ⟨a0.size + 1, ?_⟩
   unfold xV.f
   rw [fC (by omega) (by omega)]
   exact this.trans h
 · cases h
theorem JK.calls (a0 : ByteArray) (r : Int) (w : World) (h : JK.f a0 = some r) :
 Calls Tryz.prog 63 #[.string a0] w fun e w' => e = .returned (.int .u64 r) ∧ fG w w' := by
 obtain ⟨k, hk⟩ := JK.ev a0 _ h
 exact xV.calls k a0 r w hk
section
mutual
def dY.l0 : Nat → ByteArray → List (dP) → Int → Option ((List (dP)) × Int)
 | 0, _, _, _ => none
 | k + 1, x0, x4, x5 => if x5 < (x0.size : Int) then (if 0 ≤ x5 then (if x5 ≤ (x0.size : Int) then ((qJ.f (x0.extract (x5 : Int).toNat x0.size)).bind fun gY => (if gY.2.2 = 0 then (if (IntKind.u64.wrap (Int.tdiv gY.1 8)) = 0 then (dY.j1 k x0 x4 (wrap64 (x5 + gY.2.1)) gY.1 true 0 (wrap64 (Int.tmod gY.1 8)) 0 (⟨#[]⟩ : ByteArray)) else (if (IntKind.u64.wrap (Int.tdiv gY.1 8)) > 536870911 then (dY.j1 k x0 x4 (wrap64 (x5 + gY.2.1)) gY.1 true 0 (wrap64 (Int.tmod gY.1 8)) 0 (⟨#[]⟩ : ByteArray)) else (if (wrap64 (Int.tmod gY.1 8)) = 3 then (dY.j1 k x0 x4 (wrap64 (x5 + gY.2.1)) gY.1 true 0 (wrap64 (Int.tmod gY.1 8)) 0 (⟨#[]⟩ : ByteArray)) else (if (wrap64 (Int.tmod gY.1 8)) = 4 then (dY.j1 k x0 x4 (wrap64 (x5 + gY.2.1)) gY.1 true 0 (wrap64 (Int.tmod gY.1 8)) 0 (⟨#[]⟩ : ByteArray)) else (dY.j1 k x0 x4 (wrap64 (x5 + gY.2.1)) gY.1 (decide ((wrap64 (Int.tmod gY.1 8)) > 5)) 0 (wrap64 (Int.tmod gY.1 8)) 0 (⟨#[]⟩ : ByteArray)))))) else (some (([] : List (dP)), gY.2.2)))) else (none)) else (none)) else (some (x4, 0))
def dY.j1 : Nat → ByteArray → List (dP) → Int → Int → Bool → Int → Int → Int → ByteArray → Option ((List (dP)) × Int)
 | 0, _, _, _, _, _, _, _, _, _ => none
 | k + 1, x0, x4, x5, x6, x62, zJ, qL, zK, yA => if x62 = true then (some (([] : List (dP)), 3)) else (if qL = 1 then (dY.j2 k x0 x4 x5 8 (wrap64 (IntKind.u64.wrap (Int.tdiv x6 8))) qL zK yA) else (dY.j2 k x0 x4 x5 0 (wrap64 (IntKind.u64.wrap (Int.tdiv x6 8))) qL zK yA))
def dY.j2 : Nat → ByteArray → List (dP) → Int → Int → Int → Int → Int → ByteArray → Option ((List (dP)) × Int)
 | 0, _, _, _, _, _, _, _, _ => none
 | k + 1, x0, x4, x5, jJ, zJ, qL, zK, yA => if qL = 5 then (dY.j3 k x0 x4 x5 4 zJ qL zK yA) else (dY.j3 k x0 x4 x5 jJ zJ qL zK yA)
def dY.j3 : Nat → ByteArray → List (dP) → Int → Int → Int → Int → Int → ByteArray → Option ((List (dP)) × Int)
 | 0, _, _, _, _, _, _, _, _ => none
 | k + 1, x0, x4, x5, jJ, zJ, qL, zK, yA => if qL = 0 then (dY.j4 k x0 x4 x5 jJ true zJ qL zK yA) else (dY.j4 k x0 x4 x5 jJ (qL == 2) zJ qL zK yA)
def dY.j4 : Nat → ByteArray → List (dP) → Int → Int → Bool → Int → Int → Int → ByteArray → Option ((List (dP)) × Int)
 | 0, _, _, _, _, _, _, _, _, _ => none
 | k + 1, x0, x4, x5, jJ, x80, zJ, qL, zK, yA => if x80 = true then (if 0 ≤ x5 then (if x5 ≤ (x0.size : Int) then ((qJ.f (x0.extract (x5 : Int).toNat x0.size)).bind fun sK => (if sK.2.2 = 0 then (if qL = 0 then (dY.j5 k x0 x4 (wrap64 (x5 + sK.2.1)) jJ zJ qL sK.1 yA) else (dY.j5 k x0 x4 (wrap64 (x5 + sK.2.1)) sK.1 zJ qL zK yA)) else (some (([] : List (dP)), sK.2.2)))) else (none)) else (none)) else (dY.j5 k x0 x4 x5 jJ zJ qL zK yA)
def dY.j5 : Nat → ByteArray → List (dP) → Int → Int → Int → Int → Int → ByteArray → Option ((List (dP)) × Int)
 | 0, _, _, _, _, _, _, _, _ => none
 | k + 1, x0, x4, x5, jJ, zJ, qL, zK, yA => if jJ > (IntKind.u64.wrap (wrap64 ((x0.size : Int) - x5))) then (some (([] : List (dP)), 1)) else (if 0 ≤ x5 then (if x5 ≤ (wrap64 (x5 + (wrap64 (jJ)))) then (if (wrap64 (x5 + (wrap64 (jJ)))) ≤ (x0.size : Int) then (if qL = 2 then (if x4.length < 3518437208883 then (dY.l0 k x0 (x4 ++ [(⟨zJ, qL, zK, x0.extract (x5 : Int).toNat ((wrap64 (x5 + (wrap64 (jJ)))) : Int).toNat⟩ : dP)]) (wrap64 (x5 + (wrap64 (jJ))))) else (none)) else (if qL = 0 then (if x4.length < 3518437208883 then (dY.l0 k x0 (x4 ++ [(⟨zJ, qL, zK, yA⟩ : dP)]) (wrap64 (x5 + (wrap64 (jJ))))) else (none)) else ((JK.f (x0.extract (x5 : Int).toNat ((wrap64 (x5 + (wrap64 (jJ)))) : Int).toNat)).bind fun t114 => (if x4.length < 3518437208883 then (dY.l0 k x0 (x4 ++ [(⟨zJ, qL, t114, yA⟩ : dP)]) (wrap64 (x5 + (wrap64 (jJ))))) else (none))))) else (none)) else (none)) else (none))
end
def dY.f (k : Nat) (a0 : ByteArray) : Option ((List (dP)) × Int) := if (a0.size : Int) > 1048576 then (some (([] : List (dP)), 2)) else (dY.l0 k a0 ([] : List (dP)) 0)
theorem dY.calls (k : Nat) (a0 : ByteArray) (r1 : List (dP)) (r2 : Int) (w : World) (h : dY.f k a0 = some (r1, r2)) :
 Calls Tryz.prog 24 #[.string a0] w fun e w' => ∃ gW : Value, e = .returned (.tuple #[gW, .int .i64 r2]) ∧ Kd.R oF 68 w' w.heap.size (fun _ => True) gW r1 ∧ Below w.heap.size w w' := by
 have U9 := Tryz.underlying68; have HB := aA (Below.refl w.heap.size w); have H : (if (a0.size : Int) > 1048576 then (some (([] : List (dP)), 2)) else (dY.l0 k a0 ([] : List (dP)) 0)) = some (r1, r2) := h; clear h
 by_cases c2 : (a0.size : Int) > 1048576
 ·
  rw [ip c2] at H; have iZ := dT c2; have nZ : decide (1048576 < a0.size) = true := dT (by omega); clear c2
  simp only [Option.some.injEq, Prod.mk.injEq] at H
  obtain ⟨rfl, rfl⟩ := H
  go_enter Tryz.func24, Tryz.ntmps24
  go_wp2
  go_ret2
  exact ⟨_, eH, nC, aJ HB⟩
 ·
  rw [iN c2] at H; have iZ := dF c2; have nZ : decide (1048576 < a0.size) = false := dF (by omega); clear c2; have H' := aA H; clear H
  go_enter Tryz.func24, Tryz.ntmps24
  go_wp2
  go_loopg [4, 5] k (fun kq v4 v5 w' => ∃ (dN : List (dP)) (eU : Int), v5 = .int .i64 eU ∧ aC (dY.l0 kq a0 dN eU = some (r1, r2)) ∧ aC (kq ≤ k) ∧ aC (Kd.R oF 68 w' w.heap.size (fun _ => True) v4 dN) ∧ aC (Below w.heap.size w w'))
  case atStart => exact ⟨(([] : List (dP))), (0), aZ, H', ⟨Nat.le_refl _⟩, ⟨nC⟩, ⟨aJ HB⟩⟩
  case round =>
   clear H'; try clear c2; try clear iZ; try clear nZ
   obtain ⟨dN, eU, rfl, HA, bD, iW, HB⟩ := hrel
   cases gk with
   | zero => exact absurd HA.out (by simp [dY.l0])
   | succ k1 =>
    have H := HA.out; clear HA
    simp only [dY.l0] at H
    by_cases c3 : eU < (a0.size : Int)
    ·
     rw [ip c3] at H; have gL := dT c3; clear c3; replace H := dU H; obtain ⟨c4, H⟩ := H; have fP := eT c4; have oN := dT c4; clear c4; replace H := dU H; obtain ⟨c5, H⟩ := H; have iH := eT c5; have lF := dT c5; clear c5; replace H := Option.bind_eq_some_iff.mp H; obtain ⟨⟨t101, t102, t103⟩, Ph, H⟩ := H; replace H : (if t103 = 0 then (if (IntKind.u64.wrap (Int.tdiv t101 8)) = 0 then (dY.j1 k1 a0 dN (wrap64 (eU + t102)) t101 true 0 (wrap64 (Int.tmod t101 8)) 0 (⟨#[]⟩ : ByteArray)) else (if (IntKind.u64.wrap (Int.tdiv t101 8)) > 536870911 then (dY.j1 k1 a0 dN (wrap64 (eU + t102)) t101 true 0 (wrap64 (Int.tmod t101 8)) 0 (⟨#[]⟩ : ByteArray)) else (if (wrap64 (Int.tmod t101 8)) = 3 then (dY.j1 k1 a0 dN (wrap64 (eU + t102)) t101 true 0 (wrap64 (Int.tmod t101 8)) 0 (⟨#[]⟩ : ByteArray)) else (if (wrap64 (Int.tmod t101 8)) = 4 then (dY.j1 k1 a0 dN (wrap64 (eU + t102)) t101 true 0 (wrap64 (Int.tmod t101 8)) 0 (⟨#[]⟩ : ByteArray)) else (dY.j1 k1 a0 dN (wrap64 (eU + t102)) t101 (decide ((wrap64 (Int.tmod t101 8)) > 5)) 0 (wrap64 (Int.tmod t101 8)) 0 (⟨#[]⟩ : ByteArray)))))) else (some (([] : List (dP)), t103))) = some (r1, r2) := H; have A6 := aA Ph; clear Ph
     by_cases c7 : t103 = 0
     ·
      rw [ip c7] at H; obtain ⟨nA, zP⟩ := dH c7; clear c7; have xw := aA H; clear H
      go_upto_region 11 with (first | ((with_reducible refine dJ (f := 62) rfl ?_); refine dV (some 26) rfl rfl Tryz.func62 (by kernel_rfl) rfl #[.string (a0.extract (eU : Int).toNat a0.size)] rfl ?_; (with_reducible refine (qJ.calls (a0.extract (eU : Int).toNat a0.size) t101 t102 t103 _ A6.out).mono ?_); rintro e w' ⟨rfl, ⟨nd, rfl⟩⟩; refine ⟨_, rfl, ?_⟩; (try (rw [oW wr]; generalize dQ : World.drewN wr _ = wr; have bI : aC (Kd.R oF 68 wr w.heap.size (fun _ => True) u4 dN) := ⟨by rw [← dQ]; exact (dZ iW)⟩; have bV : aC (Below w.heap.size w wr) := ⟨by rw [← dQ]; exact (aJ HB)⟩; clear iW HB dQ; have iW := bI; have HB := bV; clear bI bV))) | ((with_reducible refine cK (N := 9) rfl ?_); refine dB (N := 9) (cs := #[.int .i64 0, .int .i64 0, .int .u64 0, .string ⟨#[]⟩]) (t := 68) ?_; intro gZ hg w9 aG hb; replace iW := aA (Kd.gU (Kd.zB (dZ iW) gZ (Nat.le_of_eq hg.symm)) hb); have dS := aA aG; have aHx := bB HB hg; have aHw := bB HB hg; replace HB := hbS HB hb; clear hb aG hg; obtain ⟨G8, G9, H6, H7⟩ := aN dS; have JN := fz dS 0; have JO := fz dS 1; have JP := fz dS 2; have JQ := eZ dS.out 3))
      (try simp only [Act.put, List.setIfInBounds_toArray, List.set_cons_zero, List.set_cons_succ])
      go_cut [62] (fun v62 wc => ∃ (kq : Nat) (ZX : Bool), v62 = .bool ZX ∧ aC (dY.j1 kq a0 dN (wrap64 (eU + t102)) t101 ZX 0 (wrap64 (Int.tmod t101 8)) 0 (⟨#[]⟩ : ByteArray) = some (r1, r2)) ∧ aC (kq ≤ k1) ∧ aC (Kd.R oF 68 wc w.heap.size (fun k_ => k_ ≠ gZ) u4 dN) ∧ aC (wc.heap[gZ]? = some (.cells #[.int .i64 0, .int .i64 (wrap64 (Int.tmod t101 8)), .int .u64 0, .string ⟨#[]⟩] 68 (0, 0))) ∧ aC (Below w.heap.size w wc))
      case first =>
       have H := xw.out; clear xw
       by_cases c11 : (IntKind.u64.wrap (Int.tdiv t101 8)) = 0
       ·
        rw [ip c11] at H; obtain ⟨nJ, JZ⟩ := dH c11; clear c11
        (first | rw [nJ] | (simp only [dC, iC]; rw [nJ]) | skip)
        have H' := aA H; clear H
        go_wp2
        go_meet
        case rel => exact ⟨_, (true), aZ, H', ⟨by have := bD.out; first | omega | exact Nat.le_refl _⟩, ⟨by (with_reducible repeat (first | apply Kd.kI | apply Kd.kD | apply Kd.jX)); exact Kd.eO (Kd.dE (p := ⟨gZ, 3, none⟩) (Kd.dE (p := ⟨gZ, 2, none⟩) (Kd.dE (p := ⟨gZ, 1, none⟩) (Kd.dE (p := ⟨gZ, 0, none⟩) (Kd.eO iW.out (fun k_ hk => (⟨hk, hk.2⟩ : _ ∧ k_ ≠ gZ))) (fun _ hk => hk.2) (.int .i64 0)) (fun _ hk => hk.2) (.int .i64 (wrap64 (Int.tmod t101 8)))) (fun _ hk => hk.2) (.int .u64 0)) (fun _ hk => hk.2) (.string ⟨#[]⟩)) (fun _ hk => hk.1.2)⟩, ⟨aU dS⟩, ⟨aJ HB⟩⟩
       ·
        rw [iN c11] at H; have nJ := beq_eq_false_iff_ne.mpr c11; have JZ := bne_iff_ne.mpr c11
        (first | rw [nJ] | (simp only [dC, iC]; rw [nJ]) | skip)
        by_cases c12 : (IntKind.u64.wrap (Int.tdiv t101 8)) > 536870911
        ·
         rw [ip c12] at H; have tH := dT c12; clear c12; have H' := aA H; clear H
         go_wp2
         go_meet
         case rel => exact ⟨_, (true), aZ, H', ⟨by have := bD.out; first | omega | exact Nat.le_refl _⟩, ⟨by (with_reducible repeat (first | apply Kd.kI | apply Kd.kD | apply Kd.jX)); exact Kd.eO (Kd.dE (p := ⟨gZ, 3, none⟩) (Kd.dE (p := ⟨gZ, 2, none⟩) (Kd.dE (p := ⟨gZ, 1, none⟩) (Kd.dE (p := ⟨gZ, 0, none⟩) (Kd.eO iW.out (fun k_ hk => (⟨hk, hk.2⟩ : _ ∧ k_ ≠ gZ))) (fun _ hk => hk.2) (.int .i64 0)) (fun _ hk => hk.2) (.int .i64 (wrap64 (Int.tmod t101 8)))) (fun _ hk => hk.2) (.int .u64 0)) (fun _ hk => hk.2) (.string ⟨#[]⟩)) (fun _ hk => hk.1.2)⟩, ⟨aU dS⟩, ⟨aJ HB⟩⟩
        ·
         rw [iN c12] at H; have tH := dF c12; clear c12
         by_cases c13 : (wrap64 (Int.tmod t101 8)) = 3
         ·
          rw [ip c13] at H; obtain ⟨vU, OB⟩ := dH c13; clear c13; have H' := aA H; clear H; obtain ⟨cu, cz, df, dh⟩ := aN dS; have aBL := fz dS 0; have aBM := fz dS 1; have aBN := fz dS 2; have aBO := fz dS 3
          go_wp2
          go_meet
          case rel => exact ⟨_, (true), aZ, H', ⟨by have := bD.out; first | omega | exact Nat.le_refl _⟩, ⟨by (with_reducible repeat (first | apply Kd.kI | apply Kd.kD | apply Kd.jX)); exact Kd.eO (Kd.dE (p := ⟨gZ, 3, none⟩) (Kd.dE (p := ⟨gZ, 2, none⟩) (Kd.dE (p := ⟨gZ, 1, none⟩) (Kd.dE (p := ⟨gZ, 0, none⟩) (Kd.eO iW.out (fun k_ hk => (⟨hk, hk.2⟩ : _ ∧ k_ ≠ gZ))) (fun _ hk => hk.2) (.int .i64 0)) (fun _ hk => hk.2) (.int .i64 (wrap64 (Int.tmod t101 8)))) (fun _ hk => hk.2) (.int .u64 0)) (fun _ hk => hk.2) (.string ⟨#[]⟩)) (fun _ hk => hk.1.2)⟩, ⟨aU dS⟩, ⟨aJ HB⟩⟩
         ·
          rw [iN c13] at H; have vU := beq_eq_false_iff_ne.mpr c13; have OB := bne_iff_ne.mpr c13
          by_cases c15 : (wrap64 (Int.tmod t101 8)) = 4
          ·
           rw [ip c15] at H; obtain ⟨qP, FD⟩ := dH c15; clear c15; have H' := aA H; clear H; obtain ⟨X6, X8, X9, YA⟩ := aN dS; have Jl := fz dS 0; have Jm := fz dS 1; have Jn := fz dS 2; have ib := fz dS 3
           go_wp2
           go_meet
           case rel => exact ⟨_, (true), aZ, H', ⟨by have := bD.out; first | omega | exact Nat.le_refl _⟩, ⟨by (with_reducible repeat (first | apply Kd.kI | apply Kd.kD | apply Kd.jX)); exact Kd.eO (Kd.dE (p := ⟨gZ, 3, none⟩) (Kd.dE (p := ⟨gZ, 2, none⟩) (Kd.dE (p := ⟨gZ, 1, none⟩) (Kd.dE (p := ⟨gZ, 0, none⟩) (Kd.eO iW.out (fun k_ hk => (⟨hk, hk.2⟩ : _ ∧ k_ ≠ gZ))) (fun _ hk => hk.2) (.int .i64 0)) (fun _ hk => hk.2) (.int .i64 (wrap64 (Int.tmod t101 8)))) (fun _ hk => hk.2) (.int .u64 0)) (fun _ hk => hk.2) (.string ⟨#[]⟩)) (fun _ hk => hk.1.2)⟩, ⟨aU dS⟩, ⟨aJ HB⟩⟩
          ·
           rw [iN c15] at H; have qP := beq_eq_false_iff_ne.mpr c15; have FD := bne_iff_ne.mpr c15; have H' := aA H; clear H; obtain ⟨dz, ek, eu, fe⟩ := aN dS; have Jo := fz dS 0; have Jp := fz dS 1; have Jq := fz dS 2; have Jr := fz dS 3
           go_wp2
           go_meet
           case rel => exact ⟨_, (decide ((wrap64 (Int.tmod t101 8)) > 5)), aZ, H', ⟨by have := bD.out; first | omega | exact Nat.le_refl _⟩, ⟨by (with_reducible repeat (first | apply Kd.kI | apply Kd.kD | apply Kd.jX)); exact Kd.eO (Kd.dE (p := ⟨gZ, 3, none⟩) (Kd.dE (p := ⟨gZ, 2, none⟩) (Kd.dE (p := ⟨gZ, 1, none⟩) (Kd.dE (p := ⟨gZ, 0, none⟩) (Kd.eO iW.out (fun k_ hk => (⟨hk, hk.2⟩ : _ ∧ k_ ≠ gZ))) (fun _ hk => hk.2) (.int .i64 0)) (fun _ hk => hk.2) (.int .i64 (wrap64 (Int.tmod t101 8)))) (fun _ hk => hk.2) (.int .u64 0)) (fun _ hk => hk.2) (.string ⟨#[]⟩)) (fun _ hk => hk.1.2)⟩, ⟨aU dS⟩, ⟨aJ HB⟩⟩
      case rest =>
       clear xw; try clear c2; try clear iZ; try clear nZ; try clear c3; try clear gL; try clear c4; try clear fP; try clear oN; try clear c5; try clear iH; try clear lF; try clear c7; try clear nA; try clear zP; try clear G8; try clear G9; try clear H6; try clear H7; try clear JN; try clear JO; try clear JP; try clear JQ
       obtain ⟨kq, ZX, rfl, HA, yK, iW, dS, HB⟩ := hcut
       cases kq with
       | zero => exact absurd HA.out (by simp [dY.j1])
       | succ Bb =>
        have H := HA.out; clear HA
        simp only [dY.j1] at H
        by_cases c18 : ZX = true
        ·
         subst c18; have H1 : (some (([] : List (dP)), 3)) = some (r1, r2) := by rw [ip rfl] at H; exact H
         clear H; have H := H1; clear H1
         simp only [Option.some.injEq, Prod.mk.injEq] at H
         obtain ⟨rfl, rfl⟩ := H
         go_wp2
         go_ret2
         exact ⟨_, eH, nC, aJ HB⟩
        ·
         replace c18 := Bool.eq_false_iff.mpr c18; subst c18; have H1 : (if (wrap64 (Int.tmod t101 8)) = 1 then (dY.j2 Bb a0 dN (wrap64 (eU + t102)) 8 (wrap64 (IntKind.u64.wrap (Int.tdiv t101 8))) (wrap64 (Int.tmod t101 8)) 0 (⟨#[]⟩ : ByteArray)) else (dY.j2 Bb a0 dN (wrap64 (eU + t102)) 0 (wrap64 (IntKind.u64.wrap (Int.tdiv t101 8))) (wrap64 (Int.tmod t101 8)) 0 (⟨#[]⟩ : ByteArray))) = some (r1, r2) := by rw [iN (show ¬ (false = true) by decide)] at H; exact H
         clear H; have H := H1; clear H1; have qp := aA H; clear H; obtain ⟨EU, EW, H8, IA⟩ := aN dS; have EX := fz dS 0; have EY := fz dS 1; have IB := fz dS 2; have IC := fz dS 3
         go_upto_if 69 with (fail)
         go_cut [10] (fun v10 wc => ∃ (kq : Nat) (Y0 : Int), v10 = .int .u64 Y0 ∧ aC (dY.j2 kq a0 dN (wrap64 (eU + t102)) Y0 (wrap64 (IntKind.u64.wrap (Int.tdiv t101 8))) (wrap64 (Int.tmod t101 8)) 0 (⟨#[]⟩ : ByteArray) = some (r1, r2)) ∧ aC (kq ≤ Bb) ∧ aC (Kd.R oF 68 wc w.heap.size (fun k_ => k_ ≠ gZ) u4 dN) ∧ aC (wc.heap[gZ]? = some (.cells #[.int .i64 (wrap64 (IntKind.u64.wrap (Int.tdiv t101 8))), .int .i64 (wrap64 (Int.tmod t101 8)), .int .u64 0, .string ⟨#[]⟩] 68 (0, 0))) ∧ aC (Below w.heap.size w wc))
         case first =>
          have H := qp.out; clear qp
          by_cases c21 : (wrap64 (Int.tmod t101 8)) = 1
          ·
           rw [ip c21] at H; obtain ⟨vV, QN⟩ := dH c21; clear c21
           (first | rw [vV] | (simp only [dC, iC]; rw [vV]) | skip)
           have H' := aA H; clear H
           go_wp2
           go_meet
           case rel => exact ⟨_, (8), aZ, H', ⟨by have := bD.out; have := yK.out; first | omega | exact Nat.le_refl _⟩, ⟨by (with_reducible repeat (first | apply Kd.kI | apply Kd.kD | apply Kd.jX)); exact Kd.eO (Kd.dE (p := ⟨gZ, 0, none⟩) (Kd.eO iW.out (fun k_ hk => (⟨hk, hk⟩ : _ ∧ k_ ≠ gZ))) (fun _ hk => hk.2) (.int .i64 (wrap64 (IntKind.u64.wrap (Int.tdiv t101 8))))) (fun _ hk => hk.1)⟩, ⟨aU dS⟩, ⟨aJ HB⟩⟩
          ·
           rw [iN c21] at H; have vV := beq_eq_false_iff_ne.mpr c21; have QN := bne_iff_ne.mpr c21
           (first | rw [vV] | (simp only [dC, iC]; rw [vV]) | skip)
           have H' := aA H; clear H
           go_wp2
           go_meet
           case rel => exact ⟨_, (0), aZ, H', ⟨by have := bD.out; have := yK.out; first | omega | exact Nat.le_refl _⟩, ⟨by (with_reducible repeat (first | apply Kd.kI | apply Kd.kD | apply Kd.jX)); exact Kd.eO (Kd.dE (p := ⟨gZ, 0, none⟩) (Kd.eO iW.out (fun k_ hk => (⟨hk, hk⟩ : _ ∧ k_ ≠ gZ))) (fun _ hk => hk.2) (.int .i64 (wrap64 (IntKind.u64.wrap (Int.tdiv t101 8))))) (fun _ hk => hk.1)⟩, ⟨aU dS⟩, ⟨aJ HB⟩⟩
         case rest =>
          clear qp; try clear c2; try clear iZ; try clear nZ; try clear c3; try clear gL; try clear c4; try clear fP; try clear oN; try clear c5; try clear iH; try clear lF; try clear c7; try clear nA; try clear zP; try clear c18; try clear G8; try clear G9; try clear H6; try clear H7; try clear EU; try clear EW; try clear H8; try clear IA; try clear JN; try clear JO; try clear JP; try clear JQ; try clear EX; try clear EY; try clear IB; try clear IC
          obtain ⟨kq, Y0, rfl, HA, BG, iW, dS, HB⟩ := hcut
          cases kq with
          | zero => exact absurd HA.out (by simp [dY.j2])
          | succ aFp =>
           have H := HA.out; clear HA
           simp only [dY.j2] at H
           have qw := aA H; clear H; obtain ⟨NP, NQ, NS, NT⟩ := aN dS; have PW := fz dS 0; have PX := fz dS 1; have PY := fz dS 2; have PZ := fz dS 3
           go_upto_if 72 with (fail)
           go_cut [10] (fun v10 wc => ∃ (kq : Nat) (IJ : Int), v10 = .int .u64 IJ ∧ aC (dY.j3 kq a0 dN (wrap64 (eU + t102)) IJ (wrap64 (IntKind.u64.wrap (Int.tdiv t101 8))) (wrap64 (Int.tmod t101 8)) 0 (⟨#[]⟩ : ByteArray) = some (r1, r2)) ∧ aC (kq ≤ aFp) ∧ aC (Kd.R oF 68 wc w.heap.size (fun k_ => k_ ≠ gZ) u4 dN) ∧ aC (wc.heap[gZ]? = some (.cells #[.int .i64 (wrap64 (IntKind.u64.wrap (Int.tdiv t101 8))), .int .i64 (wrap64 (Int.tmod t101 8)), .int .u64 0, .string ⟨#[]⟩] 68 (0, 0))) ∧ aC (Below w.heap.size w wc))
           case first =>
            have H := qw.out; clear qw
            by_cases c24 : (wrap64 (Int.tmod t101 8)) = 5
            ·
             rw [ip c24] at H; obtain ⟨FH, QP⟩ := dH c24; clear c24
             (first | rw [FH] | (simp only [dC, iC]; rw [FH]) | skip)
             have H' := aA H; clear H
             go_wp2
             go_meet
             case rel => exact ⟨_, (4), aZ, H', ⟨by have := bD.out; have := yK.out; have := BG.out; first | omega | exact Nat.le_refl _⟩, ⟨dZ iW⟩, ⟨fZ dS⟩, ⟨aJ HB⟩⟩
            ·
             rw [iN c24] at H; have FH := beq_eq_false_iff_ne.mpr c24; have QP := bne_iff_ne.mpr c24
             (first | rw [FH] | (simp only [dC, iC]; rw [FH]) | skip)
             have H' := aA H; clear H
             go_wp2
             go_meet
             case rel => exact ⟨_, (Y0), aZ, H', ⟨by have := bD.out; have := yK.out; have := BG.out; first | omega | exact Nat.le_refl _⟩, ⟨dZ iW⟩, ⟨fZ dS⟩, ⟨aJ HB⟩⟩
           case rest =>
            clear qw; try clear c2; try clear iZ; try clear nZ; try clear c3; try clear gL; try clear c4; try clear fP; try clear oN; try clear c5; try clear iH; try clear lF; try clear c7; try clear nA; try clear zP; try clear c18; try clear G8; try clear G9; try clear H6; try clear H7; try clear EU; try clear EW; try clear H8; try clear IA; try clear NP; try clear NQ; try clear NS; try clear NT; try clear JN; try clear JO; try clear JP; try clear JQ; try clear EX; try clear EY; try clear IB; try clear IC; try clear PW; try clear PX; try clear PY; try clear PZ
            obtain ⟨kq, IJ, rfl, HA, FW, iW, dS, HB⟩ := hcut
            cases kq with
            | zero => exact absurd HA.out (by simp [dY.j3])
            | succ aFq =>
             have H := HA.out; clear HA
             simp only [dY.j3] at H
             have qx := aA H; clear H
             go_upto_region 19 with (fail)
             go_cut [80] (fun v80 wc => ∃ (kq : Nat) (Y4 : Bool), v80 = .bool Y4 ∧ aC (dY.j4 kq a0 dN (wrap64 (eU + t102)) IJ Y4 (wrap64 (IntKind.u64.wrap (Int.tdiv t101 8))) (wrap64 (Int.tmod t101 8)) 0 (⟨#[]⟩ : ByteArray) = some (r1, r2)) ∧ aC (kq ≤ aFq) ∧ aC (Kd.R oF 68 wc w.heap.size (fun k_ => k_ ≠ gZ) u4 dN) ∧ aC (wc.heap[gZ]? = some (.cells #[.int .i64 (wrap64 (IntKind.u64.wrap (Int.tdiv t101 8))), .int .i64 (wrap64 (Int.tmod t101 8)), .int .u64 0, .string ⟨#[]⟩] 68 (0, 0))) ∧ aC (Below w.heap.size w wc))
             case first =>
              have H := qx.out; clear qx
              by_cases oQ : (wrap64 (Int.tmod t101 8)) = 0
              ·
               rw [ip oQ] at H; obtain ⟨FI, ng⟩ := dH oQ; clear oQ
               (first | rw [FI] | (simp only [dC, iC]; rw [FI]) | skip)
               have H' := aA H; clear H; obtain ⟨Ig, Ih, Ii, Ij⟩ := aN dS; have Js := fz dS 0; have Jt := fz dS 1; have Ju := fz dS 2; have Jv := fz dS 3
               go_wp2
               go_meet
               case rel => exact ⟨_, (true), aZ, H', ⟨by have := bD.out; have := yK.out; have := BG.out; have := FW.out; first | omega | exact Nat.le_refl _⟩, ⟨dZ iW⟩, ⟨fZ dS⟩, ⟨aJ HB⟩⟩
              ·
               rw [iN oQ] at H; have FI := beq_eq_false_iff_ne.mpr oQ; have ng := bne_iff_ne.mpr oQ
               (first | rw [FI] | (simp only [dC, iC]; rw [FI]) | skip)
               have H' := aA H; clear H; obtain ⟨aBi, aBj, aBk, aBl⟩ := aN dS; have aBT := fz dS 0; have aBU := fz dS 1; have aBV := fz dS 2; have aBW := fz dS 3
               go_wp2
               go_meet
               case rel => exact ⟨_, (((wrap64 (Int.tmod t101 8)) == 2)), aZ, H', ⟨by have := bD.out; have := yK.out; have := BG.out; have := FW.out; first | omega | exact Nat.le_refl _⟩, ⟨dZ iW⟩, ⟨fZ dS⟩, ⟨aJ HB⟩⟩
             case rest =>
              clear qx; try clear c2; try clear iZ; try clear nZ; try clear c3; try clear gL; try clear c4; try clear fP; try clear oN; try clear c5; try clear iH; try clear lF; try clear c7; try clear nA; try clear zP; try clear c18; try clear G8; try clear G9; try clear H6; try clear H7; try clear EU; try clear EW; try clear H8; try clear IA; try clear NP; try clear NQ; try clear NS; try clear NT; try clear JN; try clear JO; try clear JP; try clear JQ; try clear EX; try clear EY; try clear IB; try clear IC; try clear PW; try clear PX; try clear PY; try clear PZ
              obtain ⟨kq, Y4, rfl, HA, J8, iW, dS, HB⟩ := hcut
              cases kq with
              | zero => exact absurd HA.out (by simp [dY.j4])
              | succ MC =>
               have H := HA.out; clear HA
               simp only [dY.j4] at H
               have qy := aA H; clear H
               go_upto_if 80 with (fail)
               go_cut [5, 10] (fun v5 v10 wc => ∃ (kq : Nat) (nY : Int) (sZ : Int) (vF : Int), v5 = .int .i64 nY ∧ v10 = .int .u64 sZ ∧ aC (dY.j5 kq a0 dN nY sZ (wrap64 (IntKind.u64.wrap (Int.tdiv t101 8))) (wrap64 (Int.tmod t101 8)) vF (⟨#[]⟩ : ByteArray) = some (r1, r2)) ∧ aC (kq ≤ MC) ∧ aC (Kd.R oF 68 wc w.heap.size (fun k_ => k_ ≠ gZ) u4 dN) ∧ aC (wc.heap[gZ]? = some (.cells #[.int .i64 (wrap64 (IntKind.u64.wrap (Int.tdiv t101 8))), .int .i64 (wrap64 (Int.tmod t101 8)), .int .u64 vF, .string ⟨#[]⟩] 68 (0, 0))) ∧ aC (Below w.heap.size w wc))
               case first =>
                have H := qy.out; clear qy
                by_cases nP : Y4 = true
                ·
                 subst nP; have H1 : (if 0 ≤ (wrap64 (eU + t102)) then (if (wrap64 (eU + t102)) ≤ (a0.size : Int) then ((qJ.f (a0.extract ((wrap64 (eU + t102)) : Int).toNat a0.size)).bind fun sK => (if sK.2.2 = 0 then (if (wrap64 (Int.tmod t101 8)) = 0 then (dY.j5 MC a0 dN (wrap64 ((wrap64 (eU + t102)) + sK.2.1)) IJ (wrap64 (IntKind.u64.wrap (Int.tdiv t101 8))) (wrap64 (Int.tmod t101 8)) sK.1 (⟨#[]⟩ : ByteArray)) else (dY.j5 MC a0 dN (wrap64 ((wrap64 (eU + t102)) + sK.2.1)) sK.1 (wrap64 (IntKind.u64.wrap (Int.tdiv t101 8))) (wrap64 (Int.tmod t101 8)) 0 (⟨#[]⟩ : ByteArray))) else (some (([] : List (dP)), sK.2.2)))) else (none)) else (none)) = some (r1, r2) := by rw [ip rfl] at H; exact H
                 clear H; have H := H1; clear H1; obtain ⟨xJ, J5⟩ : ∃ j_ : Int, (wrap64 (eU + t102)) = j_ := ⟨_, rfl⟩; replace H : (if 0 ≤ (xJ) then (if (xJ) ≤ (a0.size : Int) then ((qJ.f (a0.extract ((xJ) : Int).toNat a0.size)).bind fun sK => (if sK.2.2 = 0 then (if (wrap64 (Int.tmod t101 8)) = 0 then (dY.j5 MC a0 dN (wrap64 ((xJ) + sK.2.1)) IJ (wrap64 (IntKind.u64.wrap (Int.tdiv t101 8))) (wrap64 (Int.tmod t101 8)) sK.1 (⟨#[]⟩ : ByteArray)) else (dY.j5 MC a0 dN (wrap64 ((xJ) + sK.2.1)) sK.1 (wrap64 (IntKind.u64.wrap (Int.tdiv t101 8))) (wrap64 (Int.tmod t101 8)) 0 (⟨#[]⟩ : ByteArray))) else (some (([] : List (dP)), sK.2.2)))) else (none)) else (none)) = some (r1, r2) := by first | (rw [J5] at H; exact H) | (simp only [J5] at H ⊢; exact H)
                 have aHt : (IntKind.i64.wrap (eU + t102)) = xJ := (dC _).trans J5; replace H := dU H; obtain ⟨c32, H⟩ := H; have Mo := eT c32; have Mq := dT c32; clear c32; replace H := dU H; obtain ⟨CL, H⟩ := H; have Mr := eT CL; have Ms := dT CL; clear CL; replace H := Option.bind_eq_some_iff.mp H; obtain ⟨⟨t105, t106, t107⟩, Od, H⟩ := H; replace H : (if t107 = 0 then (if (wrap64 (Int.tmod t101 8)) = 0 then (dY.j5 MC a0 dN (wrap64 ((xJ) + t106)) IJ (wrap64 (IntKind.u64.wrap (Int.tdiv t101 8))) (wrap64 (Int.tmod t101 8)) t105 (⟨#[]⟩ : ByteArray)) else (dY.j5 MC a0 dN (wrap64 ((xJ) + t106)) t105 (wrap64 (IntKind.u64.wrap (Int.tdiv t101 8))) (wrap64 (Int.tmod t101 8)) 0 (⟨#[]⟩ : ByteArray))) else (some (([] : List (dP)), t107))) = some (r1, r2) := H; have vv := aA Od; clear Od
                 by_cases oU : t107 = 0
                 ·
                  rw [ip oU] at H; obtain ⟨FJ, aD1⟩ := dH oU; clear oU
                  (first | rw [FJ] | (simp only [dC, iC]; rw [FJ]) | skip)
                  by_cases CO : (wrap64 (Int.tmod t101 8)) = 0
                  ·
                   rw [ip CO] at H; obtain ⟨ny, aD2⟩ := dH CO; clear CO; have H' := aA H; clear H
                   go_wp2_with (first | ((with_reducible refine dJ (f := 62) rfl ?_); refine DZ (some 85) rfl rfl Tryz.func62 (by kernel_rfl) rfl #[.string (a0.extract ((xJ) : Int).toNat a0.size)] rfl (by (try simp only [List.map_toArray, List.map_cons, List.map_nil]); first | done | (simp only [J5]; rfl) | rfl | (simp only [List.length_drop, List.length_take]; rfl)) ?_; (with_reducible refine (qJ.calls (a0.extract ((xJ) : Int).toNat a0.size) t105 t106 t107 _ vv.out).mono ?_); rintro e w' ⟨rfl, ⟨nd, rfl⟩⟩; refine ⟨_, rfl, ?_⟩; (try (rw [oW wc]; generalize dQ : World.drewN wc _ = wc; have bI : aC (Kd.R oF 68 wc w.heap.size (fun k_ => k_ ≠ gZ) u4 dN) := ⟨by rw [← dQ]; exact (dZ iW)⟩; have bV : aC (wc.heap[gZ]? = some (.cells #[.int .i64 (wrap64 (IntKind.u64.wrap (Int.tdiv t101 8))), .int .i64 (wrap64 (Int.tmod t101 8)), .int .u64 0, .string ⟨#[]⟩] 68 (0, 0))) := ⟨by rw [← dQ]; exact (fZ dS)⟩; have gB : aC (Below w.heap.size w wc) := ⟨by rw [← dQ]; exact (aJ HB)⟩; clear iW dS HB dQ; have iW := bI; have dS := bV; have HB := gB; clear bI bV gB)); obtain ⟨Ik, Il, Im, Io⟩ := aN dS; have Jz := fz dS 0; have Ka := fz dS 1; have Kb := fz dS 2; have Ke := eZ dS.out 3))
                   go_meet
                   case rel => exact ⟨_, (wrap64 ((xJ) + t106)), (IJ), (t105), (by first | rfl | (simp; done) | (simp only [← J5] <;> (first | rfl | simp)) | (simp [*]; done)), aZ, H', ⟨by have := bD.out; have := yK.out; have := BG.out; have := FW.out; have := J8.out; first | omega | exact Nat.le_refl _⟩, ⟨by (with_reducible repeat (first | apply Kd.kI | apply Kd.kD | apply Kd.jX)); exact Kd.eO (Kd.dE (p := ⟨gZ, 2, none⟩) (Kd.eO iW.out (fun k_ hk => (⟨hk, hk⟩ : _ ∧ k_ ≠ gZ))) (fun _ hk => hk.2) (.int .u64 t105)) (fun _ hk => hk.1)⟩, ⟨aU dS⟩, ⟨aJ HB⟩⟩
                  ·
                   rw [iN CO] at H; have ny := beq_eq_false_iff_ne.mpr CO; have aD2 := bne_iff_ne.mpr CO; have H' := aA H; clear H
                   go_wp2_with (first | ((with_reducible refine dJ (f := 62) rfl ?_); refine DZ (some 85) rfl rfl Tryz.func62 (by kernel_rfl) rfl #[.string (a0.extract ((xJ) : Int).toNat a0.size)] rfl (by (try simp only [List.map_toArray, List.map_cons, List.map_nil]); first | done | (simp only [J5]; rfl) | rfl | (simp only [List.length_drop, List.length_take]; rfl)) ?_; (with_reducible refine (qJ.calls (a0.extract ((xJ) : Int).toNat a0.size) t105 t106 t107 _ vv.out).mono ?_); rintro e w' ⟨rfl, ⟨nd, rfl⟩⟩; refine ⟨_, rfl, ?_⟩; obtain ⟨fu, fw, Ip, Iq⟩ := aN dS; have aCa := fz dS 0; have aCb := fz dS 1; have aGC := fz dS 2; have aCc := eZ dS.out 3))
                   go_meet
                   case rel => exact ⟨_, (wrap64 ((xJ) + t106)), (t105), (0), (by first | rfl | (simp; done) | (simp only [← J5] <;> (first | rfl | simp)) | (simp [*]; done)), aZ, H', ⟨by have := bD.out; have := yK.out; have := BG.out; have := FW.out; have := J8.out; first | omega | exact Nat.le_refl _⟩, ⟨dZ iW⟩, ⟨fZ dS⟩, ⟨aJ HB⟩⟩
                 ·
                  rw [iN oU] at H; have FJ := beq_eq_false_iff_ne.mpr oU; have aD1 := bne_iff_ne.mpr oU
                  (first | rw [FJ] | (simp only [dC, iC]; rw [FJ]) | skip)
                  simp only [Option.some.injEq, Prod.mk.injEq] at H
                  obtain ⟨rfl, rfl⟩ := H
                  go_wp2_with (first | ((with_reducible refine dJ (f := 62) rfl ?_); refine DZ (some 85) rfl rfl Tryz.func62 (by kernel_rfl) rfl #[.string (a0.extract ((xJ) : Int).toNat a0.size)] rfl (by (try simp only [List.map_toArray, List.map_cons, List.map_nil]); first | done | (simp only [J5]; rfl) | rfl | (simp only [List.length_drop, List.length_take]; rfl)) ?_; (with_reducible refine (qJ.calls (a0.extract ((xJ) : Int).toNat a0.size) t105 t106 t107 _ vv.out).mono ?_); rintro e w' ⟨rfl, ⟨nd, rfl⟩⟩; refine ⟨_, rfl, ?_⟩))
                  go_ret2
                  exact ⟨_, by first | rfl | (simp [nG, nH] <;> rfl) | (simp only [← J5]; first | rfl | (simp [nG, nH] <;> rfl)) | (simp [*, nG, nH] <;> rfl), nC, aJ HB⟩
                ·
                 replace nP := Bool.eq_false_iff.mpr nP; subst nP; have H1 : (dY.j5 MC a0 dN (wrap64 (eU + t102)) IJ (wrap64 (IntKind.u64.wrap (Int.tdiv t101 8))) (wrap64 (Int.tmod t101 8)) 0 (⟨#[]⟩ : ByteArray)) = some (r1, r2) := by rw [iN (show ¬ (false = true) by decide)] at H; exact H
                 clear H; have H := H1; clear H1; have H' := aA H; clear H
                 go_wp2
                 go_meet
                 case rel => exact ⟨_, ((wrap64 (eU + t102))), (IJ), (0), aZ, aZ, H', ⟨by have := bD.out; have := yK.out; have := BG.out; have := FW.out; have := J8.out; first | omega | exact Nat.le_refl _⟩, ⟨dZ iW⟩, ⟨fZ dS⟩, ⟨aJ HB⟩⟩
               case rest =>
                clear qy; try clear c2; try clear iZ; try clear nZ; try clear c3; try clear gL; try clear c4; try clear fP; try clear oN; try clear c5; try clear iH; try clear lF; try clear c7; try clear nA; try clear zP; try clear c18; try clear G8; try clear G9; try clear H6; try clear H7; try clear EU; try clear EW; try clear H8; try clear IA; try clear NP; try clear NQ; try clear NS; try clear NT; try clear JN; try clear JO; try clear JP; try clear JQ; try clear EX; try clear EY; try clear IB; try clear IC; try clear PW; try clear PX; try clear PY; try clear PZ
                obtain ⟨kq, nY, sZ, vF, rfl, rfl, HA, QX, iW, dS, HB⟩ := hcut
                cases kq with
                | zero => exact absurd HA.out (by simp [dY.j5])
                | succ Q8 =>
                 have H := HA.out; clear HA
                 simp only [dY.j5] at H
                 by_cases xN : sZ > (IntKind.u64.wrap (wrap64 ((a0.size : Int) - nY)))
                 ·
                  rw [ip xN] at H; have ZG := dT xN; clear xN
                  simp only [Option.some.injEq, Prod.mk.injEq] at H
                  obtain ⟨rfl, rfl⟩ := H
                  go_wp2
                  go_ret2
                  exact ⟨_, eH, nC, aJ HB⟩
                 ·
                  rw [iN xN] at H; have ZG := dF xN; clear xN; replace H := dU H; obtain ⟨c40, H⟩ := H; have ZH := eT c40; have Mv := dT c40; clear c40; replace H := dU H; obtain ⟨EJ, H⟩ := H; have Mw := eT EJ; have Mx := dT EJ; replace H := dU H; obtain ⟨KO, H⟩ := H; have Na := eT KO; have Nb := dT KO
                  by_cases CP : (wrap64 (Int.tmod t101 8)) = 2
                  ·
                   rw [ip CP] at H; obtain ⟨nz, oh⟩ := dH CP; clear CP; replace H := dU H; obtain ⟨KP, H⟩ := H; have aDB := aA KP; clear KP; obtain ⟨VB, FQ⟩ : ∃ y_ : List (dP), y_ = (dN ++ [(⟨(wrap64 (IntKind.u64.wrap (Int.tdiv t101 8))), (wrap64 (Int.tmod t101 8)), vF, a0.extract (nY : Int).toNat ((wrap64 (nY + (wrap64 (sZ)))) : Int).toNat⟩ : dP)]) := ⟨_, rfl⟩; replace H : (dY.l0 Q8 a0 VB (wrap64 (nY + (wrap64 (sZ))))) = some (r1, r2) := by first | (rw [FQ]; with_reducible exact H) | (have fI := (Option.bind_some _ _).symm.trans H; rw [FQ]; with_reducible exact fI) | (have fI := (Option.bind_some _ _).symm.trans H; with_reducible exact fI) | with_reducible exact H | (rw [FQ]; exact H) | exact H
                   have mh := aA FQ; clear FQ; have H' := aA H; clear H; obtain ⟨aBG, aBH, aBI, aBJ⟩ := aN dS; have aCl := fz dS 0; have aCm := fz dS 1; have aCn := fz dS 2; have aCo := fz dS 3
                   go_wp2_with (first | ((with_reducible refine qD (b := .append) (xs := #[.tmp 130, .tmp 132]) rfl ?_); at_builtin; refine Kd.qZ oF (w0 := w) w.heap.size rfl (.tmp 130) (.tmp 132) 64 68 (.agg #[(.int .i64 0), (.int .i64 0), (.int .u64 0), (.string ⟨#[]⟩)]) 40 rfl Tryz.underlying64 YX rfl (by decide) (by omega) u4 dN (⟨(wrap64 (IntKind.u64.wrap (Int.tdiv t101 8))), (wrap64 (Int.tmod t101 8)), vF, a0.extract (nY : Int).toNat ((wrap64 (nY + (wrap64 (sZ)))) : Int).toNat⟩ : dP) [.int .i64 (wrap64 (IntKind.u64.wrap (Int.tdiv t101 8))), .int .i64 (wrap64 (Int.tmod t101 8)), .int .u64 vF, .string (a0.extract (nY : Int).toNat ((wrap64 (nY + (wrap64 (sZ)))) : Int).toNat)] (fun k_ => k_ ≠ gZ) (fun _ => False) rfl (by first | (go_simp; done) | (go_simp; rfl)) ?aP (fun _ hk => hk.elim) ?aF ?aO ?aB ?aS ?aL ?_; (case aP => exact YN _ _ _ (⟨(wrap64 (IntKind.u64.wrap (Int.tdiv t101 8))), (wrap64 (Int.tmod t101 8)), vF, a0.extract (nY : Int).toNat ((wrap64 (nY + (wrap64 (sZ)))) : Int).toNat⟩ : dP)); (case aB => exact (aJ HB)); (case aF => exact (fun k_ hk => Kd.UC (g := gZ) (o := .cells #[.int .i64 (wrap64 (IntKind.u64.wrap (Int.tdiv t101 8))), .int .i64 (wrap64 (Int.tmod t101 8)), .int .u64 vF, .string (a0.extract (nY : Int).toNat ((wrap64 (nY + (wrap64 (sZ)))) : Int).toNat)] 68 (0, 0)) (aU dS) k_ hk)); (case aO => exact (by (with_reducible repeat (first | apply Kd.kI | apply Kd.kD | apply Kd.jX)); exact Kd.eO (Kd.dE (p := ⟨gZ, 3, none⟩) (Kd.eO iW.out (fun k_ hk => (⟨hk, hk⟩ : _ ∧ k_ ≠ gZ))) (fun _ hk => hk.2) (.string (a0.extract (nY : Int).toNat ((wrap64 (nY + (wrap64 (sZ)))) : Int).toNat))) (fun _ hk => hk.1))); (case aS => exact (iI (aJ HB))); (case aL => have := aDB.out; omega); intro v109 w46 ho hb hg hat; rw [← mh.out] at ho; replace dS := aA (GZ (g := gZ) (o := .cells #[.int .i64 (wrap64 (IntKind.u64.wrap (Int.tdiv t101 8))), .int .i64 (wrap64 (Int.tmod t101 8)), .int .u64 vF, .string (a0.extract (nY : Int).toNat ((wrap64 (nY + (wrap64 (sZ)))) : Int).toNat)] 68 (0, 0)) (aU dS) hg (Kd.TZ iW.out (fun _ hk => hk))); replace HB := aA hb; have ma := aA ho; clear iW; clear ho hb hg hat))
                   go_roundg Q8
                   case measure => have := bD.out; have := yK.out; have := BG.out; have := FW.out; have := J8.out; have := QX.out; omega
                   case rel => exact ⟨(VB), (wrap64 (nY + (wrap64 (sZ)))), aZ, H', ⟨by have := bD.out; have := yK.out; have := BG.out; have := FW.out; have := J8.out; have := QX.out; omega⟩, ⟨by (with_reducible repeat (first | apply Kd.kI | apply Kd.kD | apply Kd.jX)); exact Kd.eO ma.out (fun _ hk => trivial)⟩, ⟨aJ HB⟩⟩
                  ·
                   rw [iN CP] at H; have nz := beq_eq_false_iff_ne.mpr CP; have oh := bne_iff_ne.mpr CP
                   by_cases RY : (wrap64 (Int.tmod t101 8)) = 0
                   ·
                    rw [ip RY] at H; obtain ⟨aD', aEa⟩ := dH RY; clear RY; replace H := dU H; obtain ⟨RZ, H⟩ := H; have aDC := aA RZ; clear RZ; obtain ⟨Pb, UU⟩ : ∃ y_ : List (dP), y_ = (dN ++ [(⟨(wrap64 (IntKind.u64.wrap (Int.tdiv t101 8))), (wrap64 (Int.tmod t101 8)), vF, (⟨#[]⟩ : ByteArray)⟩ : dP)]) := ⟨_, rfl⟩; replace H : (dY.l0 Q8 a0 Pb (wrap64 (nY + (wrap64 (sZ))))) = some (r1, r2) := by first | (rw [UU]; with_reducible exact H) | (have fI := (Option.bind_some _ _).symm.trans H; rw [UU]; with_reducible exact fI) | (have fI := (Option.bind_some _ _).symm.trans H; with_reducible exact fI) | with_reducible exact H | (rw [UU]; exact H) | exact H
                    have aDH := aA UU; clear UU; have H' := aA H; clear H; obtain ⟨aF5, aF6, aF7, aF8⟩ := aN dS; have aGX := fz dS 0; have aGY := fz dS 1; have aGZ := fz dS 2; have aG0 := fz dS 3
                    go_wp2_with (first | ((with_reducible refine qD (b := .append) (xs := #[.tmp 130, .tmp 132]) rfl ?_); at_builtin; refine Kd.qZ oF (w0 := w) w.heap.size rfl (.tmp 130) (.tmp 132) 64 68 (.agg #[(.int .i64 0), (.int .i64 0), (.int .u64 0), (.string ⟨#[]⟩)]) 40 rfl Tryz.underlying64 YX rfl (by decide) (by omega) u4 dN (⟨(wrap64 (IntKind.u64.wrap (Int.tdiv t101 8))), (wrap64 (Int.tmod t101 8)), vF, (⟨#[]⟩ : ByteArray)⟩ : dP) [.int .i64 (wrap64 (IntKind.u64.wrap (Int.tdiv t101 8))), .int .i64 (wrap64 (Int.tmod t101 8)), .int .u64 vF, .string ⟨#[]⟩] (fun k_ => k_ ≠ gZ) (fun _ => False) rfl rfl ?aP (fun _ hk => hk.elim) ?aF ?aO ?aB ?aS ?aL ?_; (case aP => exact YN _ _ _ (⟨(wrap64 (IntKind.u64.wrap (Int.tdiv t101 8))), (wrap64 (Int.tmod t101 8)), vF, (⟨#[]⟩ : ByteArray)⟩ : dP)); (case aB => exact (aJ HB)); (case aF => exact (fun k_ hk => Kd.UC (g := gZ) (o := .cells #[.int .i64 (wrap64 (IntKind.u64.wrap (Int.tdiv t101 8))), .int .i64 (wrap64 (Int.tmod t101 8)), .int .u64 vF, .string ⟨#[]⟩] 68 (0, 0)) (fZ dS) k_ hk)); (case aO => exact (dZ iW)); (case aS => exact (iI (aJ HB))); (case aL => have := aDC.out; omega); intro aI2 w50 ho hb hg hat; rw [← aDH.out] at ho; replace dS := aA (GZ (g := gZ) (o := .cells #[.int .i64 (wrap64 (IntKind.u64.wrap (Int.tdiv t101 8))), .int .i64 (wrap64 (Int.tmod t101 8)), .int .u64 vF, .string ⟨#[]⟩] 68 (0, 0)) (fZ dS) hg (Kd.TZ iW.out (fun _ hk => hk))); replace HB := aA hb; have aDt := aA ho; clear iW; clear ho hb hg hat))
                    go_roundg Q8
                    case measure => have := bD.out; have := yK.out; have := BG.out; have := FW.out; have := J8.out; have := QX.out; omega
                    case rel => exact ⟨(Pb), (wrap64 (nY + (wrap64 (sZ)))), aZ, H', ⟨by have := bD.out; have := yK.out; have := BG.out; have := FW.out; have := J8.out; have := QX.out; omega⟩, ⟨by (with_reducible repeat (first | apply Kd.kI | apply Kd.kD | apply Kd.jX)); exact Kd.eO aDt.out (fun _ hk => trivial)⟩, ⟨aJ HB⟩⟩
                   ·
                    rw [iN RY] at H; have aD' := beq_eq_false_iff_ne.mpr RY; have aEa := bne_iff_ne.mpr RY; replace H := bnd H; obtain ⟨t114, vw, H⟩ := H; replace H := dU H; obtain ⟨Qy, H⟩ := H; have aDD := aA Qy; clear Qy; obtain ⟨y115, hy115⟩ : ∃ y_ : List (dP), y_ = (dN ++ [(⟨(wrap64 (IntKind.u64.wrap (Int.tdiv t101 8))), (wrap64 (Int.tmod t101 8)), t114, (⟨#[]⟩ : ByteArray)⟩ : dP)]) := ⟨_, rfl⟩; replace H : (dY.l0 Q8 a0 y115 (wrap64 (nY + (wrap64 (sZ))))) = some (r1, r2) := by first | (rw [hy115]; with_reducible exact H) | (have fI := (Option.bind_some _ _).symm.trans H; rw [hy115]; with_reducible exact fI) | (have fI := (Option.bind_some _ _).symm.trans H; with_reducible exact fI) | with_reducible exact H | (rw [hy115]; exact H) | exact H
                    have aDI := aA hy115; clear hy115; have H' := aA H; clear H; obtain ⟨Ir, Iu, Iw, Iy⟩ := aN dS; have Kg := fz dS 0; have Kh := fz dS 1; have Ki := fz dS 2; have Kj := fz dS 3
                    go_wp2_with (first | ((with_reducible refine dJ (f := 63) rfl ?_); refine dV (some 128) rfl rfl Tryz.func63 (by kernel_rfl) rfl #[.string (a0.extract (nY : Int).toNat ((wrap64 (nY + (wrap64 (sZ)))) : Int).toNat)] rfl ?_; (with_reducible refine (JK.calls (a0.extract (nY : Int).toNat ((wrap64 (nY + (wrap64 (sZ)))) : Int).toNat) t114 _ vw.out).mono ?_); rintro e w' ⟨rfl, ⟨nd, rfl⟩⟩; refine ⟨_, rfl, ?_⟩; (try (rw [oW wc]; generalize dQ : World.drewN wc _ = wc; have bI : aC (Kd.R oF 68 wc w.heap.size (fun k_ => k_ ≠ gZ) u4 dN) := ⟨by rw [← dQ]; exact (dZ iW)⟩; have bV : aC (wc.heap[gZ]? = some (.cells #[.int .i64 (wrap64 (IntKind.u64.wrap (Int.tdiv t101 8))), .int .i64 (wrap64 (Int.tmod t101 8)), .int .u64 vF, .string ⟨#[]⟩] 68 (0, 0))) := ⟨by rw [← dQ]; exact (fZ dS)⟩; have gB : aC (Below w.heap.size w wc) := ⟨by rw [← dQ]; exact (aJ HB)⟩; clear iW dS HB dQ; have iW := bI; have dS := bV; have HB := gB; clear bI bV gB; (try have Ir : wc.cell? ⟨gZ, 0, none⟩ = some (.int .i64 (wrap64 (IntKind.u64.wrap (Int.tdiv t101 8)))) := gK dS 0); (try have Kg := eZ dS.out 0); (try have Iu : wc.cell? ⟨gZ, 1, none⟩ = some (.int .i64 (wrap64 (Int.tmod t101 8))) := gK dS 1); (try have Kh := eZ dS.out 1); (try have Iw : wc.cell? ⟨gZ, 2, none⟩ = some (.int .u64 vF) := gK dS 2); (try have Ki := eZ dS.out 2); (try have Iy : wc.cell? ⟨gZ, 3, none⟩ = some (.string ⟨#[]⟩) := gK dS 3); (try have Kj := eZ dS.out 3)))) | ((with_reducible refine qD (b := .append) (xs := #[.tmp 130, .tmp 132]) rfl ?_); at_builtin; refine Kd.qZ oF (w0 := w) w.heap.size rfl (.tmp 130) (.tmp 132) 64 68 (.agg #[(.int .i64 0), (.int .i64 0), (.int .u64 0), (.string ⟨#[]⟩)]) 40 rfl Tryz.underlying64 YX rfl (by decide) (by omega) u4 dN (⟨(wrap64 (IntKind.u64.wrap (Int.tdiv t101 8))), (wrap64 (Int.tmod t101 8)), t114, (⟨#[]⟩ : ByteArray)⟩ : dP) [.int .i64 (wrap64 (IntKind.u64.wrap (Int.tdiv t101 8))), .int .i64 (wrap64 (Int.tmod t101 8)), .int .u64 t114, .string ⟨#[]⟩] (fun k_ => k_ ≠ gZ) (fun _ => False) rfl (by first | (go_simp; done) | (go_simp; rfl)) ?aP (fun _ hk => hk.elim) ?aF ?aO ?aB ?aS ?aL ?_; (case aP => exact YN _ _ _ (⟨(wrap64 (IntKind.u64.wrap (Int.tdiv t101 8))), (wrap64 (Int.tmod t101 8)), t114, (⟨#[]⟩ : ByteArray)⟩ : dP)); (case aB => exact (aJ HB)); (case aF => exact (fun k_ hk => Kd.UC (g := gZ) (o := .cells #[.int .i64 (wrap64 (IntKind.u64.wrap (Int.tdiv t101 8))), .int .i64 (wrap64 (Int.tmod t101 8)), .int .u64 t114, .string ⟨#[]⟩] 68 (0, 0)) (aU dS) k_ hk)); (case aO => exact (by (with_reducible repeat (first | apply Kd.kI | apply Kd.kD | apply Kd.jX)); exact Kd.eO (Kd.dE (p := ⟨gZ, 2, none⟩) (Kd.eO iW.out (fun k_ hk => (⟨hk, hk⟩ : _ ∧ k_ ≠ gZ))) (fun _ hk => hk.2) (.int .u64 t114)) (fun _ hk => hk.1))); (case aS => exact (iI (aJ HB))); (case aL => have := aDD.out; omega); intro aI3 w54 ho hb hg hat; rw [← aDI.out] at ho; replace dS := aA (GZ (g := gZ) (o := .cells #[.int .i64 (wrap64 (IntKind.u64.wrap (Int.tdiv t101 8))), .int .i64 (wrap64 (Int.tmod t101 8)), .int .u64 t114, .string ⟨#[]⟩] 68 (0, 0)) (aU dS) hg (Kd.TZ iW.out (fun _ hk => hk))); replace HB := aA hb; have aDu := aA ho; clear iW; clear ho hb hg hat))
                    go_roundg Q8
                    case measure => have := bD.out; have := yK.out; have := BG.out; have := FW.out; have := J8.out; have := QX.out; omega
                    case rel => exact ⟨(y115), (wrap64 (nY + (wrap64 (sZ)))), aZ, H', ⟨by have := bD.out; have := yK.out; have := BG.out; have := FW.out; have := J8.out; have := QX.out; omega⟩, ⟨by (with_reducible repeat (first | apply Kd.kI | apply Kd.kD | apply Kd.jX)); exact Kd.eO aDu.out (fun _ hk => trivial)⟩, ⟨aJ HB⟩⟩
     ·
      rw [iN c7] at H; have nA := beq_eq_false_iff_ne.mpr c7; have zP := bne_iff_ne.mpr c7
      simp only [Option.some.injEq, Prod.mk.injEq] at H
      obtain ⟨rfl, rfl⟩ := H
      go_wp2_with (first | ((with_reducible refine dJ (f := 62) rfl ?_); refine dV (some 26) rfl rfl Tryz.func62 (by kernel_rfl) rfl #[.string (a0.extract (eU : Int).toNat a0.size)] rfl ?_; (with_reducible refine (qJ.calls (a0.extract (eU : Int).toNat a0.size) t101 t102 t103 _ A6.out).mono ?_); rintro e w' ⟨rfl, ⟨nd, rfl⟩⟩; refine ⟨_, rfl, ?_⟩))
      go_ret2
      exact ⟨_, eH, nC, aJ HB⟩
    ·
     rw [iN c3] at H; have gL := dF c3; clear c3
     simp only [Option.some.injEq, Prod.mk.injEq] at H
     obtain ⟨rfl, rfl⟩ := H
     go_wp2
     go_ret2
     exact ⟨_, eH, dZ iW, aJ HB⟩
end
end Go.Proofs.YtgmggompdidcoaaGreatDoor.X
