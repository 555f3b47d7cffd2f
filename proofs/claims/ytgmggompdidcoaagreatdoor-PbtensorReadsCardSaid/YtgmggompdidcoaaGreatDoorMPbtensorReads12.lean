import Derived.Test.YtgmggompdidcoaaGreatDoorMPbtensorReads11
import Derived.Test.YtgmggompdidcoaaGreatDoorMPbtensorReads9
namespace Go.Proofs.YtgmggompdidcoaaGreatDoor.X
open Go.RowKit Go.Proofs.YtgmggompdidcoaaGreatDoorW.aX Go.Proofs.YtgmggompdidcoaaGreatDoorW.bJ Go.Proofs.YtgmggompdidcoaaGreatDoorW.bK
attribute [local go_sem] bO bQ bS bU bM bN bP bR
set_option linter.unusedVariables false
set_option linter.unusedSimpArgs false
set_option maxHeartbeats 8000000
set_option maxRecDepth 100000
section
mutual
def pI.j0 : Nat → List Int → Int → Option (ByteArray × Int)
 | 0, _, _ => none
 | k + 1, x0, x6 => pI.l0 k x6 ([] : List Int) x0 (x0.length : Int) 0
def pI.l0 : Nat → Int → List Int → List Int → Int → Int → Option (ByteArray × Int)
 | 0, _, _, _, _, _ => none
 | k + 1, x6, x7, GI, nQ, AA => if AA < nQ then (if 0 ≤ AA then (if AA < (GI.length : Int) then (if (rd GI AA) < 0 then (some ((⟨#[]⟩ : ByteArray), 17)) else (if (rd GI AA) > x6 then (some ((⟨#[]⟩ : ByteArray), 17)) else (if x7.length < 140737488355328 then (pI.l0 k x6 (x7 ++ [(rd GI AA) % 256]) GI nQ (wrap64 (AA + 1))) else (none)))) else (none)) else (none)) else (some (strOfNums x7, 0))
end
def pI.f (k : Nat) (l0 : List Int) (a1 : Int) : Option (ByteArray × Int) := if a1 = 9 then (pI.j0 k l0 1) else (pI.j0 k l0 255)
theorem pI.calls (k : Nat) (A0 : Option Addr) (c0 : Nat) (l0 : List Int) (a1 : Int) (r1 : ByteArray) (r2 : Int) (w : World) (hr0 : Kd.C (Kd.int .i64) w A0 l0.length l0) (hc0 : l0.length ≤ c0) (h : pI.f k l0 a1 = some (r1, r2)) :
 Calls Tryz.prog 58 #[.slice A0 l0.length c0, .int .i64 a1] w fun e w' => e = .returned (.tuple #[.string r1, .int .i64 r2]) ∧ Below w.heap.size w w' := by
 have fF := aA hr0; have oO := aA hc0; clear hr0 hc0; have HB := aA (Below.refl w.heap.size w); have H : (if a1 = 9 then (pI.j0 k l0 1) else (pI.j0 k l0 255)) = some (r1, r2) := h; clear h; have yI := aA H; clear H
 go_enter Tryz.func58, Tryz.ntmps58
 go_upto_if 11 with (fail)
 go_cut [6] (fun v6 wc => ∃ (kq : Nat) (rM : Int), v6 = .int .i64 rM ∧ aC (pI.j0 kq l0 rM = some (r1, r2)) ∧ aC (kq ≤ k) ∧ aC (Below w.heap.size w wc))
 case first =>
  have H := yI.out; clear yI
  by_cases c4 : a1 = 9
  ·
   rw [ip c4] at H; obtain ⟨fP, oN⟩ := dH c4; clear c4
   (first | rw [fP] | (simp only [dC, iC]; rw [fP]) | skip)
   have H' := aA H; clear H
   go_wp2
   go_meet
   case rel => exact ⟨_, (1), aZ, H', qX, ⟨aJ HB⟩⟩
  ·
   rw [iN c4] at H; have fP := beq_eq_false_iff_ne.mpr c4; have oN := bne_iff_ne.mpr c4
   (first | rw [fP] | (simp only [dC, iC]; rw [fP]) | skip)
   have H' := aA H; clear H
   go_wp2
   go_meet
   case rel => exact ⟨_, (255), aZ, H', qX, ⟨aJ HB⟩⟩
 case rest =>
  clear yI; obtain ⟨kq, rM, rfl, HA, HJ2, HB⟩ := hcut
  cases kq with
  | zero => exact absurd HA.out (by simp [pI.j0])
  | succ DL =>
   have H := HA.out; clear HA
   simp only [pI.j0] at H
   have H' := aA H; clear H
   go_wp2
   go_loopg [7, 14] DL (fun kq v7 v14 w' => ∃ (qV : List Int) (rV : Int), v14 = .int .i64 rV ∧ aC (pI.l0 kq rM qV l0 (l0.length : Int) rV = some (r1, r2)) ∧ aC (kq ≤ DL) ∧ aC (Kd.R (Kd.int .u8) 5 w' w.heap.size (fun _ => True) v7 qV) ∧ aC (Below w.heap.size w w'))
   case atStart => exact ⟨(([] : List Int)), (0), aZ, H', ⟨Nat.le_refl _⟩, ⟨nC⟩, ⟨aJ HB⟩⟩
   case round =>
    clear H'; obtain ⟨qV, rV, rfl, HA, nO, qz, HB⟩ := hrel
    cases gk with
    | zero => exact absurd HA.out (by simp [pI.l0])
    | succ k2 =>
     have H := HA.out; clear HA
     simp only [pI.l0] at H
     by_cases c5 : rV < (l0.length : Int)
     ·
      rw [ip c5] at H; have iH := dT c5; clear c5; replace H := dU H; obtain ⟨c6, H⟩ := H; have kP := dT c6; clear c6
      by_cases c7 : rV < (l0.length : Int)
      ·
       rw [ip c7] at H; have nA := dT c7; clear c7
       by_cases c8 : (rd l0 rV) < 0
       ·
        rw [ip c8] at H; have mG := dT c8; clear c8
        simp only [Option.some.injEq, Prod.mk.injEq] at H
        obtain ⟨rfl, rfl⟩ := H; have dL : 0 ≤ (rV : Int) := aK; have dM : rV < (l0.length : Int) := aK; obtain ⟨lD, iM, gD⟩ := Kd.kN fF.out rV dL dM; cases iM; replace gD := hbc HB gD; replace dL := eT dL; replace dM := eT dM
        go_wp2
        go_ret2
        exact ⟨eH, aJ HB⟩
       ·
        rw [iN c8] at H; have mG := dF c8; clear c8
        by_cases c9 : (rd l0 rV) > rM
        ·
         rw [ip c9] at H; have mO := dT c9; clear c9
         simp only [Option.some.injEq, Prod.mk.injEq] at H
         obtain ⟨rfl, rfl⟩ := H; have dL : 0 ≤ (rV : Int) := aK; have dM : rV < (l0.length : Int) := aK; obtain ⟨lD, iM, gD⟩ := Kd.kN fF.out rV dL dM; cases iM; replace gD := hbc HB gD; replace dL := eT dL; replace dM := eT dM
         go_wp2
         go_ret2
         exact ⟨eH, aJ HB⟩
        ·
         rw [iN c9] at H; have mO := dF c9; clear c9; replace H := dU H; obtain ⟨c10, H⟩ := H; have mf := aA c10; clear c10; obtain ⟨y102, hy102⟩ : ∃ y_ : List Int, y_ = (qV ++ [(rd l0 rV) % 256]) := ⟨_, rfl⟩; replace H : (pI.l0 k2 rM y102 l0 (l0.length : Int) (wrap64 (rV + 1))) = some (r1, r2) := by first | (rw [hy102]; with_reducible exact H) | (have fI := (Option.bind_some _ _).symm.trans H; rw [hy102]; with_reducible exact fI) | (have fI := (Option.bind_some _ _).symm.trans H; with_reducible exact fI) | with_reducible exact H | (rw [hy102]; exact H) | exact H
         have aDF := aA hy102; clear hy102; have H' := aA H; clear H; have dL : 0 ≤ (rV : Int) := aK; have dM : rV < (l0.length : Int) := aK; obtain ⟨lD, iM, gD⟩ := Kd.kN fF.out rV dL dM; cases iM; replace gD := hbc HB gD; replace dL := eT dL; replace dM := eT dM
         go_wp2_with (first | ((with_reducible refine qD (b := .append) (xs := #[.tmp 25, .tmp 28]) rfl ?_); at_builtin; refine Kd.qZ (Kd.int .u8) (w0 := w) w.heap.size rfl (.tmp 25) (.tmp 28) 80 5 (.int .u8 0) 1 rfl Tryz.underlying80 info5 rfl (by decide) (by omega) u7 qV ((rd l0 rV) % 256) [.int .u8 ((rd l0 rV) % 256)] (fun _ => True) (fun _ => False) rfl rfl ?aP (fun _ hk => hk.elim) ?aF ?aO ?aB ?aS ?aL ?_; (case aP => exact rfl); (case aB => exact (aJ HB)); (case aF => exact (fun _ _ => trivial)); (case aO => exact (dZ qz)); (case aS => exact (iI (aJ HB))); (case aL => have := mf.out; omega); intro KD JE ho hb hg hat; rw [← aDF.out] at ho; replace HB := aA hb; have lY := aA ho; clear qz; clear ho hb hg hat))
         go_roundg k2
         case measure => have := HJ2.out; have := nO.out; omega
         case rel => exact ⟨(y102), (wrap64 (rV + 1)), aZ, H', ⟨by have := HJ2.out; have := nO.out; omega⟩, ⟨dZ lY⟩, ⟨aJ HB⟩⟩
      ·
       exact absurd (of_decide_eq_true iH) c7
     ·
      rw [iN c5] at H; have iH := dF c5; clear c5
      simp only [Option.some.injEq, Prod.mk.injEq] at H
      obtain ⟨rfl, rfl⟩ := H; have aHG := XH (P := Tryz.prog) Tryz.underlying80 Tryz.underlying5 Tryz.underlying9 (Kd.XR qz.out)
      go_wp2
      go_ret2
      exact ⟨eH, aJ HB⟩
end
section
mutual
def lS.j0 : Nat → ByteArray → Bool → Option (Int × Bool)
 | 0, _, _ => none
 | k + 1, x0, JH => if JH = true then (some (0, false)) else (lS.l0 k x0 0 (x0.size : Int) 0)
def lS.l0 : Nat → ByteArray → Int → Int → Int → Option (Int × Bool)
 | 0, _, _, _, _ => none
 | k + 1, x0, x4, x24, x25 => if x25 < x24 then (if 0 ≤ x25 then (if x25 < (x0.size : Int) then (if (bt x0 x25) < 48 then (some (0, false)) else (if (bt x0 x25) > 57 then (some (0, false)) else (lS.l0 k x0 (wrap64 ((wrap64 (10 * x4)) + (((bt x0 x25) - 48) % 256))) x24 (wrap64 (x25 + 1))))) else (none)) else (none)) else (some (x4, true))
end
def lS.f (k : Nat) (a0 : ByteArray) : Option (Int × Bool) := if a0.toList = ([] : List UInt8) then (lS.j0 k a0 true) else (if (a0.size : Int) > 18 then (lS.j0 k a0 true) else (if (a0.size : Int) > 1 then (if 0 < (a0.size : Int) then (lS.j0 k a0 ((bt a0 0) == 48)) else (none)) else (lS.j0 k a0 false)))
theorem lS.calls (k : Nat) (a0 : ByteArray) (r1 : Int) (r2 : Bool) (w : World) (h : lS.f k a0 = some (r1, r2)) :
 Calls Tryz.prog 60 #[.string a0] w fun e w' => e = .returned (.tuple #[.int .i64 r1, .bool r2]) ∧ fG w w' := by
 have H : (if a0.toList = ([] : List UInt8) then (lS.j0 k a0 true) else (if (a0.size : Int) > 18 then (lS.j0 k a0 true) else (if (a0.size : Int) > 1 then (if 0 < (a0.size : Int) then (lS.j0 k a0 ((bt a0 0) == 48)) else (none)) else (lS.j0 k a0 false)))) = some (r1, r2) := h; clear h; have BZ := aA H; clear H
 go_enter Tryz.func60, Tryz.ntmps60
 go_upto_region 1 with (fail)
 go_cut [22] (fun v22 wc => ∃ (kq : Nat) (J7 : Bool), v22 = .bool J7 ∧ aC (lS.j0 kq a0 J7 = some (r1, r2)) ∧ aC (kq ≤ k) ∧ fG w wc)
 case first =>
  have H := BZ.out; clear BZ
  by_cases c3 : a0.toList = ([] : List UInt8)
  ·
   rw [ip c3] at H; obtain ⟨gL, rW⟩ := dH c3; clear c3
   (first | rw [gL] | (simp only [dC, iC]; rw [gL]) | skip)
   have H' := aA H; clear H
   go_wp2
   go_meet
   case rel => exact ⟨_, (true), aZ, H', qX, dr⟩
  ·
   rw [iN c3] at H; have gL := beq_eq_false_iff_ne.mpr c3; have rW := bne_iff_ne.mpr c3
   (first | rw [gL] | (simp only [dC, iC]; rw [gL]) | skip)
   by_cases c4 : (a0.size : Int) > 18
   ·
    rw [ip c4] at H; have fP := dT c4; have oN : decide (18 < a0.size) = true := dT (by omega); clear c4; have H' := aA H; clear H
    go_wp2
    go_meet
    case rel => exact ⟨_, (true), aZ, H', qX, dr⟩
   ·
    rw [iN c4] at H; have fP := dF c4; have oN : decide (18 < a0.size) = false := dF (by omega); clear c4
    by_cases c5 : (a0.size : Int) > 1
    ·
     rw [ip c5] at H; have iH := dT c5; have lF : decide (1 < a0.size) = true := dT (by omega); clear c5; replace H := dU H; obtain ⟨c6, H⟩ := H; have kP := dT c6; have wD : decide (0 < a0.size) = true := dT (by omega); clear c6; have H' := aA H; clear H; have p7 : 0 ≤ (0 : Int) := (by omega); have q7 : 0 < a0.size := (by have : (0 : Int) < (a0.size : Int) := aK; omega); have hx7 : ∀ h : 0 < a0.size, ((a0[0]'h).toNat : Int) = bt a0 0 := fE a0 0; clear p7; have Be : (0 < (a0.size : Int)) = True := eT (aK); replace q7 := eT q7
     go_wp2
     go_meet
     case rel => exact ⟨_, (((bt a0 0) == 48)), aZ, H', qX, dr⟩
    ·
     rw [iN c5] at H; have iH := dF c5; have lF : decide (1 < a0.size) = false := dF (by omega); clear c5; have H' := aA H; clear H
     go_wp2
     go_meet
     case rel => exact ⟨_, (false), aZ, H', qX, dr⟩
 case rest =>
  clear BZ; obtain ⟨kq, J7, rfl, HA, RI, ⟨mc1, rfl⟩⟩ := hcut
  cases kq with
  | zero => exact absurd HA.out (by simp [lS.j0])
  | succ M4 =>
   have H := HA.out; clear HA
   simp only [lS.j0] at H
   by_cases c8 : J7 = true
   ·
    subst c8; have H1 : (some (0, false)) = some (r1, r2) := by rw [ip rfl] at H; exact H
    clear H; have H := H1; clear H1
    simp only [Option.some.injEq, Prod.mk.injEq] at H
    obtain ⟨rfl, rfl⟩ := H
    go_wp2
    go_ret2
    exact dW
   ·
    replace c8 := Bool.eq_false_iff.mpr c8; subst c8; have H1 : (lS.l0 M4 a0 0 (a0.size : Int) 0) = some (r1, r2) := by rw [iN (show ¬ (false = true) by decide)] at H; exact H
    clear H; have H := H1; clear H1; have H' := aA H; clear H
    go_wp2
    go_loopg [4, 25] M4 (fun kq v4 v25 w' => ∃ (jZ : Int) (oM : Int), v4 = .int .i64 jZ ∧ v25 = .int .i64 oM ∧ aC (lS.l0 kq a0 jZ (a0.size : Int) oM = some (r1, r2)) ∧ aC (kq ≤ M4) ∧ fG w w')
    case atStart => exact ⟨(0), (0), aZ, aZ, H', ⟨Nat.le_refl _⟩, dr⟩
    case round =>
     clear H'; obtain ⟨jZ, oM, rfl, rfl, HA, nO, ⟨m2, rfl⟩⟩ := hrel
     cases gk with
     | zero => exact absurd HA.out (by simp [lS.l0])
     | succ k2 =>
      have H := HA.out; clear HA
      simp only [lS.l0] at H
      by_cases c9 : oM < (a0.size : Int)
      ·
       rw [ip c9] at H; have mO := dT c9; clear c9; replace H := dU H; obtain ⟨c10, H⟩ := H; have qO := dT c10; clear c10
       by_cases c11 : oM < (a0.size : Int)
       ·
        rw [ip c11] at H; have nJ := dT c11; clear c11
        by_cases c13 : (bt a0 oM) < 48
        ·
         rw [ip c13] at H; have vU := dT c13; clear c13
         simp only [Option.some.injEq, Prod.mk.injEq] at H
         obtain ⟨rfl, rfl⟩ := H; have zY : 0 ≤ (oM : Int) := aK; have zZ : oM < (a0.size : Int) := aK; have g_ := fE a0 oM; replace zY := eT zY; replace zZ := eT zZ
         go_wp2
         go_ret2
         exact dW
        ·
         rw [iN c13] at H; have vU := dF c13; clear c13
         by_cases c15 : (bt a0 oM) > 57
         ·
          rw [ip c15] at H; have qP := dT c15; clear c15
          simp only [Option.some.injEq, Prod.mk.injEq] at H
          obtain ⟨rfl, rfl⟩ := H; have zY : 0 ≤ (oM : Int) := aK; have zZ : oM < (a0.size : Int) := aK; have g_ := fE a0 oM; replace zY := eT zY; replace zZ := eT zZ; have WG : 0 ≤ (oM : Int) := aK; have WI : oM < (a0.size : Int) := aK; have aFm := fE a0 oM; replace WG := eT WG; replace WI := eT WI
          go_wp2
          go_ret2
          exact dW
         ·
          rw [iN c15] at H; have qP := dF c15; clear c15; have H' := aA H; clear H; have zY : 0 ≤ (oM : Int) := aK; have zZ : oM < (a0.size : Int) := aK; have g_ := fE a0 oM; replace zY := eT zY; replace zZ := eT zZ; have WG : 0 ≤ (oM : Int) := aK; have WI : oM < (a0.size : Int) := aK; have aFm := fE a0 oM; replace WG := eT WG; replace WI := eT WI; have p16 : 0 ≤ (oM : Int) := aK; have q16 : oM < (a0.size : Int) := aK; have hx16 := fE a0 oM; replace p16 := eT p16; replace q16 := eT q16
          go_wp2
          go_roundg k2
          case measure => have := RI.out; have := nO.out; omega
          case rel => exact ⟨(wrap64 ((wrap64 (10 * jZ)) + (((bt a0 oM) - 48) % 256))), (wrap64 (oM + 1)), aZ, aZ, H', ⟨by have := RI.out; have := nO.out; omega⟩, dr⟩
       ·
        exact absurd (of_decide_eq_true mO) c11
      ·
       rw [iN c9] at H; have mO := dF c9; clear c9
       simp only [Option.some.injEq, Prod.mk.injEq] at H
       obtain ⟨rfl, rfl⟩ := H
       go_wp2
       go_ret2
       exact dW
end
def FY : List Nat → Nat → Option Nat
 | [], n => some n
 | c :: t, n => if c < 48 then none else if c > 57 then none else FY t (10 * n + (c - 48))
def uR (b : ByteArray) : Option Nat :=
 if b.size = 0 ∨ b.size > 18 ∨ (b.size > 1 ∧ bt b 0 = 48) then none else FY (ns b) 0
theorem Hf : ∀ (l : List Nat) (n m k : Nat), FY l n = some m → n < 10 ^ k → m < 10 ^ (k + l.length)
 | [], n, m, k, h, hn => by
  rw [FY] at h
  obtain rfl := Option.some.inj h
  exact hn
 | c :: t, n, m, k, h, hn => by
  rw [FY] at h
  by_cases h1 : c < 48
  · rw [ip h1] at h; cases h
  · rw [iN h1] at h
    by_cases h2 : c > 57
    · rw [ip h2] at h; cases h
    · rw [iN h2] at h
      have h3 : 10 * n + (c - 48) < 10 ^ (k + 1) := by rw [Nat.pow_succ]; omega
      have := Hf t _ m (k + 1) h h3
      rw [List.length_cons]
      have e : k + 1 + t.length = k + (t.length + 1) := by omega
      rw [e] at this
      exact this
theorem Hg {b : ByteArray} {m : Nat} (h : uR b = some m) : m < 1000000000000000000 := by
 unfold uR at h
 by_cases hb : b.size = 0 ∨ b.size > 18 ∨ (b.size > 1 ∧ bt b 0 = 48)
 · rw [ip hb] at h; cases h
 · rw [iN hb] at h
   have h1 := Hf _ 0 m 0 h (by decide)
   have h2 : 0 + (ns b).length ≤ 18 := by rw [vG]; omega
   have h3 : 10 ^ (0 + (ns b).length) ≤ 10 ^ 18 := Nat.pow_le_pow_right (by decide) h2
   have h4 : (10 : Nat) ^ 18 = 1000000000000000000 := by decide
   omega
def zQ (b : ByteArray) : Int × Bool := match uR b with | some m => ((m : Int), true) | none => (0, false)
def rX (b : ByteArray) : Int := match uR b with | some m => (m : Int) | none => -1
theorem Ns {i : Nat} (h : i ≤ 17) {n : Nat} (hn : n < 10 ^ i) : n < 100000000000000000 := by
 have h3 : 10 ^ i ≤ 10 ^ 17 := Nat.pow_le_pow_right (by decide) h
 have h4 : (10 : Nat) ^ 17 = 100000000000000000 := by decide
 omega
theorem Nc (b : ByteArray) (hb : b.size ≤ 18) (d : Nat) : ∀ (k i n : Nat), i + d = b.size → n < 10 ^ i → d < k →
 lS.l0 k b (n : Int) (b.size : Int) (i : Int) = some (match FY ((ns b).drop i) n with | some m => ((m : Int), true) | none => (0, false)) := by
 induction d with
 | zero =>
  intro k i n hi hn hk
  obtain ⟨k, rfl⟩ : ∃ m, k = m + 1 := ⟨k - 1, by omega⟩
  rw [lS.l0, iN (by omega), NK b i (by omega), FY]
 | succ d ih =>
  intro k i n hi hn hk
  obtain ⟨k, rfl⟩ : ∃ m, k = m + 1 := ⟨k - 1, by omega⟩
  have hlt : i < b.size := by omega
  have aFf := Ns (i := i) (by omega) hn
  rw [lS.l0, ip (by omega), ip (by omega), ip (by omega), BA b i hlt, LJ b i hlt, FY]
  generalize hc : (b[i]'hlt).toNat = c
  have hc' : c < 256 := by rw [← hc]; exact (b[i]'hlt).toNat_lt
  by_cases h1 : c < 48
  · rw [ip (by omega), ip h1]
  · rw [iN (by omega), iN h1]
    by_cases h2 : c > 57
    · rw [ip (by omega), ip h2]
    · rw [iN (by omega), iN h2]
      have e1 : wrap64 (10 * (n : Int)) = 10 * (n : Int) := fC (by omega) (by omega)
      have e2 : ((c : Int) - 48) % 256 = (c : Int) - 48 := by omega
      have e3 : wrap64 (10 * (n : Int) + ((c : Int) - 48)) = ((10 * n + (c - 48) : Nat) : Int) := by rw [fC (by omega) (by omega)]; omega
      have e4 : wrap64 ((i : Int) + 1) = ((i + 1 : Nat) : Int) := by rw [fC (by omega) (by omega)]; omega
      rw [e1, e2, e3, e4]
      exact ih k (i + 1) _ (by omega) (by rw [Nat.pow_succ]; omega) (by omega)
theorem Ld (b : ByteArray) (hb : b.size ≤ 18) (d : Nat) : ∀ (k i n : Nat), i + d = b.size → n < 10 ^ i → d < k →
 kX.l0 k b (n : Int) (i : Int) = some (match FY ((ns b).drop i) n with | some m => (m : Int) | none => -1) := by
 induction d with
 | zero =>
  intro k i n hi hn hk
  obtain ⟨k, rfl⟩ : ∃ m, k = m + 1 := ⟨k - 1, by omega⟩
  rw [kX.l0, iN (by omega), NK b i (by omega), FY]
 | succ d ih =>
  intro k i n hi hn hk
  obtain ⟨k, rfl⟩ : ∃ m, k = m + 1 := ⟨k - 1, by omega⟩
  have hlt : i < b.size := by omega
  have aFf := Ns (i := i) (by omega) hn
  rw [kX.l0, ip (by omega), ip (by omega), BA b i hlt, LJ b i hlt, FY]
  generalize hc : (b[i]'hlt).toNat = c
  have hc' : c < 256 := by rw [← hc]; exact (b[i]'hlt).toNat_lt
  by_cases h1 : c < 48
  · rw [ip (by omega), ip h1]
  · rw [iN (by omega), iN h1]
    by_cases h2 : c > 57
    · rw [ip (by omega), ip h2]
    · rw [iN (by omega), iN h2]
      have e1 : wrap64 ((n : Int) * 10) = 10 * (n : Int) := by rw [Int.mul_comm]; exact fC (by omega) (by omega)
      have e2 : ((c : Int) - 48) % 256 = (c : Int) - 48 := by omega
      have e3 : wrap64 (10 * (n : Int) + ((c : Int) - 48)) = ((10 * n + (c - 48) : Nat) : Int) := by rw [fC (by omega) (by omega)]; omega
      have e4 : wrap64 ((i : Int) + 1) = ((i + 1 : Nat) : Int) := by rw [fC (by omega) (by omega)]; omega
      rw [e1, e2, e3, e4]
      exact ih k (i + 1) _ (by omega) (by rw [Nat.pow_succ]; omega) (by omega)
theorem Kz {b : ByteArray} : b.toList = ([] : List UInt8) ↔ b.size = 0 := by
 rw [ByteArray.toList_eq]
 constructor
 · intro h; have := congrArg List.length h; rw [Array.length_toList] at this; exact this
 · intro h; exact List.length_eq_zero_iff.1 (by rw [Array.length_toList]; exact h)
theorem YV (b : ByteArray) (k : Nat) (hk : 20 ≤ k) : lS.f k b = some (zQ b) := by
 obtain ⟨k, rfl⟩ : ∃ m, k = m + 1 := ⟨k - 1, by omega⟩
 unfold lS.f zQ uR
 by_cases h0 : b.size = 0
 · rw [ip (Kz.2 h0), ip (.inl h0), lS.j0, ip rfl]
 rw [iN (fun h => h0 (Kz.1 h))]
 by_cases h1 : b.size > 18
 · rw [ip (by omega), ip (.inr (.inl h1)), lS.j0, ip rfl]
 rw [iN (by omega)]
 by_cases h2 : b.size > 1
 · rw [ip (by omega), ip (by omega), lS.j0]
   by_cases h3 : bt b 0 = 48
   · rw [ip (beq_iff_eq.2 h3), ip (.inr (.inr ⟨h2, h3⟩))]
   · rw [iN (by rw [beq_eq_false_iff_ne.2 h3]; decide), iN (fun h => h.elim h0 (fun h => h.elim h1 (fun h => h3 h.2)))]
     exact Nc b (by omega) b.size k 0 0 (by omega) (by decide) (by omega)
 · rw [iN (by omega), lS.j0, iN (by decide), iN (fun h => h.elim h0 (fun h => h.elim h1 (fun h => h2 h.1)))]
   exact Nc b (by omega) b.size k 0 0 (by omega) (by decide) (by omega)
theorem NW (b : ByteArray) (k : Nat) (hk : 20 ≤ k) : kX.f k b = some (rX b) := by
 obtain ⟨k, rfl⟩ : ∃ m, k = m + 1 := ⟨k - 1, by omega⟩
 unfold kX.f rX uR
 by_cases h0 : b.size = 0
 · rw [ip (by omega), ip (.inl h0), kX.j0, ip rfl]
 rw [iN (by omega)]
 by_cases h1 : b.size > 18
 · rw [ip (by omega), ip (.inr (.inl h1)), kX.j0, ip rfl]
 rw [iN (by omega)]
 by_cases h2 : b.size > 1
 · rw [ip (by omega), ip (by omega), kX.j0]
   by_cases h3 : bt b 0 = 48
   · rw [ip (beq_iff_eq.2 h3), ip (.inr (.inr ⟨h2, h3⟩))]
   · rw [iN (by rw [beq_eq_false_iff_ne.2 h3]; decide), iN (fun h => h.elim h0 (fun h => h.elim h1 (fun h => h3 h.2)))]
     exact Ld b (by omega) b.size k 0 0 (by omega) (by decide) (by omega)
 · rw [iN (by omega), kX.j0, iN (by decide), iN (fun h => h.elim h0 (fun h => h.elim h1 (fun h => h2 h.1)))]
   exact Ld b (by omega) b.size k 0 0 (by omega) (by decide) (by omega)
def wC (most n : Int) : Bool := decide (n < 0) || decide (n > most)
def vP (l : List Int) (most : Int) : ByteArray × Int := if l.any (wC most) = true then (⟨#[]⟩, 17) else (strOfNums (l.map (· % 256)), 0)
def tJ (k : Int) : Int := if k = 9 then 1 else 255
theorem Mk (l : List Int) (hl : l.length ≤ 100000) (most : Int) (d : Nat) : ∀ (k i : Nat), i + d = l.length → d < k →
 pI.l0 k most ((l.take i).map (· % 256)) l (l.length : Int) (i : Int) = some (if (l.drop i).any (wC most) = true then (⟨#[]⟩, 17) else (strOfNums (l.map (· % 256)), 0)) := by
 induction d with
 | zero =>
  intro k i hi hk
  obtain ⟨k, rfl⟩ : ∃ m, k = m + 1 := ⟨k - 1, by omega⟩
  rw [pI.l0, iN (by omega), List.take_of_length_le (by omega), List.drop_of_length_le (by omega), List.any_nil, iN (by decide)]
 | succ d ih =>
  intro k i hi hk
  obtain ⟨k, rfl⟩ : ∃ m, k = m + 1 := ⟨k - 1, by omega⟩
  have hlt : i < l.length := by omega
  have hr : rd l (i : Int) = l[i] := by simp [rd, hlt]
  have hlen : ((l.take i).map (· % 256)).length < 140737488355328 := by rw [List.length_map, List.length_take]; omega
  have hs : (l.take i).map (· % 256) ++ [l[i] % 256] = (l.take (i + 1)).map (· % 256) := by rw [List.take_succ_eq_append_getElem hlt, List.map_append]; rfl
  have hw : wrap64 ((i : Int) + 1) = ((i + 1 : Nat) : Int) := by rw [fC (by omega) (by omega)]; omega
  rw [pI.l0, ip (by omega), ip (by omega), ip (by omega), hr, List.drop_eq_getElem_cons hlt, List.any_cons]
  by_cases h1 : l[i] < 0
  · have hb : (wC most l[i] || (l.drop (i + 1)).any (wC most)) = true := by rw [Bool.or_eq_true]; left; unfold wC; rw [dT h1]; rfl
    rw [ip h1, ip hb]
  · rw [iN h1]
    by_cases h2 : l[i] > most
    · have hb : (wC most l[i] || (l.drop (i + 1)).any (wC most)) = true := by rw [Bool.or_eq_true]; left; unfold wC; rw [dT h2, Bool.or_true]
      rw [ip h2, ip hb]
    · have hb : wC most l[i] = false := by unfold wC; rw [dF h1, dF h2]; rfl
      rw [iN h2, ip hlen, hs, hw, hb, Bool.false_or]
      exact ih k (i + 1) (by omega) (by omega)
theorem aA4 (l : List Int) (hl : l.length ≤ 100000) (kd : Int) (k : Nat) (hk : l.length + 2 ≤ k) : pI.f k l kd = some (vP l (tJ kd)) := by
 obtain ⟨k, rfl⟩ : ∃ m, k = m + 1 := ⟨k - 1, by omega⟩
 unfold pI.f vP tJ
 by_cases h : kd = 9
 · rw [ip h, ip h, pI.j0]
   exact Mk l hl 1 l.length k 0 (by omega) (by omega)
 · rw [iN h, iN h, pI.j0]
   exact Mk l hl 255 l.length k 0 (by omega) (by omega)
abbrev Tn := ByteArray × Int × List Int × ByteArray
def iJ : Tn := (⟨#[]⟩, 0, [], ⟨#[]⟩)
def oL (kd : Int) (data : ByteArray) (few many : List Int) (raw : Bool) : ByteArray × Int :=
 if raw = true then (if 0 < few.length + many.length then (⟨#[]⟩, 19) else (data, 0))
 else if (0 < few.length ∧ kd ≠ 2 ∧ kd ≠ 9) ∨ (0 < many.length ∧ kd ≠ 7) then (⟨#[]⟩, 5)
 else if (vP few (tJ kd)).2 ≠ 0 then (⟨#[]⟩, (vP few (tJ kd)).2) else (if kd = 7 then iE many else (vP few (tJ kd)).1, 0)
def lG (name : ByteArray) (kd : Int) (bE : List Int) (d : ByteArray × Int) : Tn × Int :=
 if d.2 ≠ 0 then (iJ, d.2) else ((name, kd, bE, d.1), qR name kd bE d.1)
def o6 (name : ByteArray) (kd : Int) (bE : List Int) (d : ByteArray × Int) : Tn × Int :=
 if (lG name kd bE d).2 ≠ 0 then (iJ, (lG name kd bE d).2) else ((lG name kd bE d).1, 0)
theorem Wo (l : List Int) (m : Int) : (vP l m).1.size ≤ l.length := by
 unfold vP
 split
 · exact Nat.zero_le _
 · show (strOfNums _).size ≤ _
   rw [strOfNums_size, List.length_map]; exact Nat.le_refl _
theorem Dp : ∀ l : List Int, rU K4.f l = some (iE l)
 | [] => rfl
 | x :: l => by rw [rU, Dp l]; rfl
theorem aAz (l : List Int) (hl : l.length ≤ 100000) : SH.f (⟨#[]⟩ : ByteArray) ([] : List Int) l = some (⟨#[]⟩, 7, [], iE l) := by
 unfold SH.f NH.f
 rw [ip (show ([] : List Int).length ≤ 1000000 by decide), ip (by omega), Dp, Option.bind_some, ip (by rw [NJ]; omega)]
 rfl
theorem PI : ∀ (l : List Fl) (out : List Int), out.length ≤ 65536 → (mF l out).1.length ≤ 65536
 | [], out, h => h
 | f :: l, out, h => by
  rw [mF]
  split
  · split
    · exact Nat.zero_le _
    · exact PI l _ (by rw [List.length_append, List.length_singleton]; omega)
  · split
    · split
      · exact Nat.zero_le _
      · exact PI l _ (_Q _ _ _ h)
    · exact Nat.zero_le _
theorem ZI (name : ByteArray) (kd : Int) (bE : List Int) (d : ByteArray) (h1 : name.size ≤ 140737488351232) (h2 : d.size ≤ 140737488351232) : xQ.f name kd bE d = some (qR name kd bE d) := ip ⟨h1, h2⟩
def o7 : List ByteArray → List (ByteArray × ByteArray) → List (ByteArray × ByteArray) × Int
 | [], m => (m, 0)
 | s :: t, m => if (eX s).2 ≠ 0 then ([], ((eX s).2 : Int)) else
  let k := pM ((((eX s).1.map toP).filter fun x => x.f0 == 1).getLast?)
  let v := pM ((((eX s).1.map toP).filter fun x => x.f0 == 2).getLast?)
  let e := kT v.2.2.2.2 v.2.1 2 (kT k.2.2.2.2 k.2.1 2 0)
  if e ≠ 0 then ([], e) else o7 t (kK m k.2.2.2.1 v.2.2.2.1)
def qM : ByteArray := ⟨#[108, 111, 99, 97, 116, 105, 111, 110]⟩
def rT : ByteArray := ⟨#[111, 102, 102, 115, 101, 116]⟩
def mX : ByteArray := ⟨#[108, 101, 110, 103, 116, 104]⟩
def pF (x : Option ByteArray) (d : Int) : Option Int := match x with | none => some d | some b => (uR b).map (fun n : Nat => (n : Int))
def UI (m : uQ) (L : List (ByteArray × ByteArray)) : ByteArray × Int :=
 if m.raw = true ∨ 0 < m.few.length + m.many.length then (⟨#[]⟩, 19)
 else if (o7 m.ext []).2 ≠ 0 then (⟨#[]⟩, (o7 m.ext []).2)
 else match fB (o7 m.ext []).1 qM with
  | none => (⟨#[]⟩, 18)
  | some key => match pF (fB (o7 m.ext []).1 rT) 0 with
   | none => (⟨#[]⟩, 17)
   | some o => match pF (fB (o7 m.ext []).1 mX) (m.els * gF m.kind) with
    | none => (⟨#[]⟩, 17)
    | some n => if n ≠ m.els * gF m.kind then (⟨#[]⟩, 7) else sJ L key o n
def II (b : ByteArray) (L : List (ByteArray × ByteArray)) : Tn × Int :=
 if (jM b).2 ≠ 0 then (iJ, (jM b).2)
 else if (jM b).1.wh = 1 then o6 (jM b).1.name (jM b).1.kind (jM b).1.bE (UI (jM b).1 L)
 else o6 (jM b).1.name (jM b).1.kind (jM b).1.bE (oL (jM b).1.kind (jM b).1.data (jM b).1.few (jM b).1.many (jM b).1.raw)
def vC.l0 : Nat → List (mR) → List (jK) → Int → Int → Option ((List (mR)))
 | 0, _, _, _, _ => none
 | k + 1, x3, x6, x7, x8 => if x8 < x7 then (if 0 ≤ x8 then (if x8 < (x6.length : Int) then (if x3.length < 4398046511104 then (vC.l0 k (x3 ++ [(⟨(rC x6 x8).f0, (rC x6 x8).f1⟩ : mR)]) x6 x7 (wrap64 (x8 + 1))) else (none)) else (none)) else (none)) else (some x3)
def vC.f (k : Nat) (l0 : List (jK)) : Option ((List (mR))) := vC.l0 k ([] : List (mR)) l0 (l0.length : Int) 0
theorem vC.calls (k : Nat) (A0 : Option Addr) (c0 : Nat) (l0 : List (jK)) (r : List (mR)) (w : World) (hr0 : Kd.C JB w A0 l0.length l0) (hc0 : l0.length ≤ c0) (h : vC.f k l0 = some r) :
 Calls Tryz.prog 15 #[.slice A0 l0.length c0] w fun e w' => ∃ gW : Value, e = .returned (gW) ∧ Kd.R zX 91 w' w.heap.size (fun _ => True) gW r ∧ Below w.heap.size w w' := by
 have aIY := Tryz.underlying50; have fF := aA hr0; have oO := aA hc0; clear hr0 hc0; have HB := aA (Below.refl w.heap.size w); have H : (vC.l0 k ([] : List (mR)) l0 (l0.length : Int) 0) = some r := h; clear h; have H' := aA H; clear H
 go_enter Tryz.func15, Tryz.ntmps15
 go_wp2
 go_loopg [3, 8] k (fun kq v3 v8 w' => ∃ (eG : List (mR)) (l7 : Int), v8 = .int .i64 l7 ∧ aC (vC.l0 kq eG l0 (l0.length : Int) l7 = some r) ∧ aC (kq ≤ k) ∧ aC (Kd.R zX 91 w' w.heap.size (fun _ => True) v3 eG) ∧ aC (Below w.heap.size w w'))
 case atStart => exact ⟨(([] : List (mR))), (0), aZ, H', ⟨Nat.le_refl _⟩, ⟨nC⟩, ⟨aJ HB⟩⟩
 case round =>
  clear H'; obtain ⟨eG, l7, rfl, HA, bD, QZ, HB⟩ := hrel
  cases gk with
  | zero => exact absurd HA.out (by simp [vC.l0])
  | succ k1 =>
   have H := HA.out; clear HA
   simp only [vC.l0] at H
   by_cases c2 : l7 < (l0.length : Int)
   ·
    rw [ip c2] at H; have iZ := dT c2; clear c2; replace H := dU H; obtain ⟨c3, H⟩ := H; have gL := dT c3; clear c3
    by_cases c4 : l7 < (l0.length : Int)
    ·
     rw [ip c4] at H; have fP := dT c4; clear c4; replace H := dU H; obtain ⟨c5, H⟩ := H; have aEK := aA c5; clear c5; obtain ⟨MF, vW⟩ : ∃ y_ : List (mR), y_ = (eG ++ [(⟨(rC l0 l7).f0, (rC l0 l7).f1⟩ : mR)]) := ⟨_, rfl⟩; replace H : (vC.l0 k1 MF l0 (l0.length : Int) (wrap64 (l7 + 1))) = some r := by first | (rw [vW]; with_reducible exact H) | (have fI := (Option.bind_some _ _).symm.trans H; rw [vW]; with_reducible exact fI) | (have fI := (Option.bind_some _ _).symm.trans H; with_reducible exact fI) | with_reducible exact H | (rw [vW]; exact H) | exact H
     have UM := aA vW; clear vW; have H' := aA H; clear H; have dL : 0 ≤ (l7 : Int) := aK; have dM : l7 < (l0.length : Int) := aK; obtain ⟨lD, iM, gD, kR⟩ := jm fF.out l7 dL dM; cases iM; replace gD := hbc HB gD; replace kR := hbc HB kR; replace dL := eT dL; replace dM := eT dM
     go_wp2_with (first | ((with_reducible refine cK (N := 5) rfl ?_); refine dB (N := 5) (cs := #[.string ⟨#[]⟩, .string ⟨#[]⟩]) (t := 50) ?_; intro iY hg w6 aG hb; replace QZ := aA (Kd.gU (dZ QZ) hb); have bX := aA aG; have LU := bB HB hg; have LP := bB HB hg; replace HB := hbS HB hb; clear hb aG hg; obtain ⟨UD, UE⟩ := yN bX; have ku := fz bX 0; have kv := fz bX 1) | ((with_reducible refine qD (b := .append) (xs := #[.tmp 12, .tmp 14]) rfl ?_); at_builtin; refine Kd.qZ zX (w0 := w) w.heap.size rfl (.tmp 12) (.tmp 14) 26 91 (.agg #[(.string ⟨#[]⟩), (.string ⟨#[]⟩)]) 32 rfl Tryz.underlying26 aDc rfl (by decide) (by omega) u3 eG (⟨(rC l0 l7).f0, (rC l0 l7).f1⟩ : mR) [.string ((rC l0 l7).f0), .string ((rC l0 l7).f1)] (fun _ => True) (fun _ => False) rfl (by first | (go_simp; done) | (go_simp; rfl)) ?aP (fun _ hk => hk.elim) ?aF ?aO ?aB ?aS ?aL ?_; (case aP => exact aCr _ _ _ (⟨(rC l0 l7).f0, (rC l0 l7).f1⟩ : mR)); (case aB => exact (aJ HB)); (case aF => exact (fun _ _ => trivial)); (case aO => exact (by (with_reducible repeat (first | apply Kd.kI | apply Kd.kD | apply Kd.jX)); exact Kd.eO (Kd.dE (p := ⟨iY, 1, none⟩) (Kd.dE (p := ⟨iY, 0, none⟩) (Kd.ET QZ.out bX.out (by decide)) (fun _ hk => hk.2) (.string ((rC l0 l7).f0))) (fun _ hk => hk.2) (.string ((rC l0 l7).f1))) (fun _ hk => trivial))); (case aS => exact (iI (aJ HB))); (case aL => have := aEK.out; omega); intro Oy w8 ho hb hg hat; rw [← UM.out] at ho; replace bX := aA (GZ (g := iY) (o := .cells #[.string ((rC l0 l7).f0), .string ((rC l0 l7).f1)] 50 (0, 0)) (aU bX) hg (Kd.OI QZ.out bX.out (by decide))); replace HB := aA hb; have UK := aA ho; clear QZ; clear ho hb hg hat))
     go_roundg k1
     case measure => have := bD.out; omega
     case rel => exact ⟨(MF), (wrap64 (l7 + 1)), aZ, H', iK bD, ⟨dZ UK⟩, ⟨aJ HB⟩⟩
    ·
     exact absurd (of_decide_eq_true iZ) c4
   ·
    rw [iN c2] at H; have iZ := dF c2; clear c2; obtain rfl := Option.some.inj H
    go_wp2
    go_ret
    exact ⟨_, eH, dZ QZ, aJ HB⟩
def KY.f (a0 : Int) : Option (Bool) := if a0 ≥ 97 then (if a0 ≤ 122 then (some true) else (if a0 ≥ 65 then (if a0 ≤ 90 then (some true) else (if a0 ≥ 48 then (if a0 ≤ 57 then (some true) else (if a0 = 46 then (some true) else (if a0 = 95 then (some true) else (some (a0 == 45))))) else (if a0 = 46 then (some true) else (if a0 = 95 then (some true) else (some (a0 == 45)))))) else (if a0 ≥ 48 then (if a0 ≤ 57 then (some true) else (if a0 = 46 then (some true) else (if a0 = 95 then (some true) else (some (a0 == 45))))) else (if a0 = 46 then (some true) else (if a0 = 95 then (some true) else (some (a0 == 45))))))) else (if a0 ≥ 65 then (if a0 ≤ 90 then (some true) else (if a0 ≥ 48 then (if a0 ≤ 57 then (some true) else (if a0 = 46 then (some true) else (if a0 = 95 then (some true) else (some (a0 == 45))))) else (if a0 = 46 then (some true) else (if a0 = 95 then (some true) else (some (a0 == 45)))))) else (if a0 ≥ 48 then (if a0 ≤ 57 then (some true) else (if a0 = 46 then (some true) else (if a0 = 95 then (some true) else (some (a0 == 45))))) else (if a0 = 46 then (some true) else (if a0 = 95 then (some true) else (some (a0 == 45))))))
theorem KY.calls (a0 : Int) (r : Bool) (w : World) (h : KY.f a0 = some r) :
 Calls Tryz.prog 79 #[.int .u8 a0] w fun e w' => e = .returned (.bool r) ∧ fG w w' := by
 have H : (if a0 ≥ 97 then (if a0 ≤ 122 then (some true) else (if a0 ≥ 65 then (if a0 ≤ 90 then (some true) else (if a0 ≥ 48 then (if a0 ≤ 57 then (some true) else (if a0 = 46 then (some true) else (if a0 = 95 then (some true) else (some (a0 == 45))))) else (if a0 = 46 then (some true) else (if a0 = 95 then (some true) else (some (a0 == 45)))))) else (if a0 ≥ 48 then (if a0 ≤ 57 then (some true) else (if a0 = 46 then (some true) else (if a0 = 95 then (some true) else (some (a0 == 45))))) else (if a0 = 46 then (some true) else (if a0 = 95 then (some true) else (some (a0 == 45))))))) else (if a0 ≥ 65 then (if a0 ≤ 90 then (some true) else (if a0 ≥ 48 then (if a0 ≤ 57 then (some true) else (if a0 = 46 then (some true) else (if a0 = 95 then (some true) else (some (a0 == 45))))) else (if a0 = 46 then (some true) else (if a0 = 95 then (some true) else (some (a0 == 45)))))) else (if a0 ≥ 48 then (if a0 ≤ 57 then (some true) else (if a0 = 46 then (some true) else (if a0 = 95 then (some true) else (some (a0 == 45))))) else (if a0 = 46 then (some true) else (if a0 = 95 then (some true) else (some (a0 == 45))))))) = some r := h; clear h
 by_cases c2 : a0 ≥ 97
 ·
  rw [ip c2] at H; have iZ := dT c2; clear c2
  by_cases c3 : a0 ≤ 122
  ·
   rw [ip c3] at H; have gL := dT c3; clear c3; obtain rfl := Option.some.inj H
   go_enter Tryz.func79, Tryz.ntmps79
   go_wp2
   go_ret
   exact dW
  ·
   rw [iN c3] at H; have gL := dF c3; clear c3
   by_cases c4 : a0 ≥ 65
   ·
    rw [ip c4] at H; have fP := dT c4; clear c4
    by_cases c5 : a0 ≤ 90
    ·
     rw [ip c5] at H; have iH := dT c5; clear c5; obtain rfl := Option.some.inj H
     go_enter Tryz.func79, Tryz.ntmps79
     go_wp2
     go_ret
     exact dW
    ·
     rw [iN c5] at H; have iH := dF c5; clear c5
     by_cases c6 : a0 ≥ 48
     ·
      rw [ip c6] at H; have kP := dT c6; clear c6
      by_cases c7 : a0 ≤ 57
      ·
       rw [ip c7] at H; have nA := dT c7; clear c7; obtain rfl := Option.some.inj H
       go_enter Tryz.func79, Tryz.ntmps79
       go_wp2
       go_ret
       exact dW
      ·
       rw [iN c7] at H; have nA := dF c7; clear c7
       by_cases c8 : a0 = 46
       ·
        rw [ip c8] at H; obtain ⟨mG, EA⟩ := dH c8; clear c8; obtain rfl := Option.some.inj H
        go_enter Tryz.func79, Tryz.ntmps79
        go_wp2
        go_ret
        exact dW
       ·
        rw [iN c8] at H; have mG := beq_eq_false_iff_ne.mpr c8; have EA := bne_iff_ne.mpr c8
        by_cases c9 : a0 = 95
        ·
         rw [ip c9] at H; obtain ⟨mO, xI⟩ := dH c9; clear c9; obtain rfl := Option.some.inj H
         go_enter Tryz.func79, Tryz.ntmps79
         go_wp2
         go_ret
         exact dW
        ·
         rw [iN c9] at H; have mO := beq_eq_false_iff_ne.mpr c9; have xI := bne_iff_ne.mpr c9; obtain rfl := Option.some.inj H
         go_enter Tryz.func79, Tryz.ntmps79
         go_wp2
         go_ret
         exact dW
     ·
      rw [iN c6] at H; have kP := dF c6; clear c6
      by_cases c10 : a0 = 46
      ·
       rw [ip c10] at H; obtain ⟨qO, zN⟩ := dH c10; clear c10; obtain rfl := Option.some.inj H
       go_enter Tryz.func79, Tryz.ntmps79
       go_wp2
       go_ret
       exact dW
      ·
       rw [iN c10] at H; have qO := beq_eq_false_iff_ne.mpr c10; have zN := bne_iff_ne.mpr c10
       by_cases c11 : a0 = 95
       ·
        rw [ip c11] at H; obtain ⟨nJ, JZ⟩ := dH c11; clear c11; obtain rfl := Option.some.inj H
        go_enter Tryz.func79, Tryz.ntmps79
        go_wp2
        go_ret
        exact dW
       ·
        rw [iN c11] at H; have nJ := beq_eq_false_iff_ne.mpr c11; have JZ := bne_iff_ne.mpr c11; obtain rfl := Option.some.inj H
        go_enter Tryz.func79, Tryz.ntmps79
        go_wp2
        go_ret
        exact dW
   ·
    rw [iN c4] at H; have fP := dF c4; clear c4
    by_cases c12 : a0 ≥ 48
    ·
     rw [ip c12] at H; have tH := dT c12; clear c12
     by_cases c13 : a0 ≤ 57
     ·
      rw [ip c13] at H; have vU := dT c13; clear c13; obtain rfl := Option.some.inj H
      go_enter Tryz.func79, Tryz.ntmps79
      go_wp2
      go_ret
      exact dW
     ·
      rw [iN c13] at H; have vU := dF c13; clear c13
      by_cases c14 : a0 = 46
      ·
       rw [ip c14] at H; obtain ⟨yB, QH⟩ := dH c14; clear c14; obtain rfl := Option.some.inj H
       go_enter Tryz.func79, Tryz.ntmps79
       go_wp2
       go_ret
       exact dW
      ·
       rw [iN c14] at H; have yB := beq_eq_false_iff_ne.mpr c14; have QH := bne_iff_ne.mpr c14
       by_cases c15 : a0 = 95
       ·
        rw [ip c15] at H; obtain ⟨qP, FD⟩ := dH c15; clear c15; obtain rfl := Option.some.inj H
        go_enter Tryz.func79, Tryz.ntmps79
        go_wp2
        go_ret
        exact dW
       ·
        rw [iN c15] at H; have qP := beq_eq_false_iff_ne.mpr c15; have FD := bne_iff_ne.mpr c15; obtain rfl := Option.some.inj H
        go_enter Tryz.func79, Tryz.ntmps79
        go_wp2
        go_ret
        exact dW
    ·
     rw [iN c12] at H; have tH := dF c12; clear c12
     by_cases c16 : a0 = 46
     ·
      rw [ip c16] at H; obtain ⟨FE, QI⟩ := dH c16; clear c16; obtain rfl := Option.some.inj H
      go_enter Tryz.func79, Tryz.ntmps79
      go_wp2
      go_ret
      exact dW
     ·
      rw [iN c16] at H; have FE := beq_eq_false_iff_ne.mpr c16; have QI := bne_iff_ne.mpr c16
      by_cases c17 : a0 = 95
      ·
       rw [ip c17] at H; obtain ⟨J2, QJ⟩ := dH c17; clear c17; obtain rfl := Option.some.inj H
       go_enter Tryz.func79, Tryz.ntmps79
       go_wp2
       go_ret
       exact dW
      ·
       rw [iN c17] at H; have J2 := beq_eq_false_iff_ne.mpr c17; have QJ := bne_iff_ne.mpr c17; obtain rfl := Option.some.inj H
       go_enter Tryz.func79, Tryz.ntmps79
       go_wp2
       go_ret
       exact dW
 ·
  rw [iN c2] at H; have iZ := dF c2; clear c2
  by_cases c18 : a0 ≥ 65
  ·
   rw [ip c18] at H; have LW := dT c18; clear c18
   by_cases c19 : a0 ≤ 90
   ·
    rw [ip c19] at H; have LX := dT c19; clear c19; obtain rfl := Option.some.inj H
    go_enter Tryz.func79, Tryz.ntmps79
    go_wp2
    go_ret
    exact dW
   ·
    rw [iN c19] at H; have LX := dF c19; clear c19
    by_cases c20 : a0 ≥ 48
    ·
     rw [ip c20] at H; have QM := dT c20; clear c20
     by_cases c21 : a0 ≤ 57
     ·
      rw [ip c21] at H; have vV := dT c21; clear c21; obtain rfl := Option.some.inj H
      go_enter Tryz.func79, Tryz.ntmps79
      go_wp2
      go_ret
      exact dW
     ·
      rw [iN c21] at H; have vV := dF c21; clear c21
      by_cases mU : a0 = 46
      ·
       rw [ip mU] at H; obtain ⟨LY, QO⟩ := dH mU; clear mU; obtain rfl := Option.some.inj H
       go_enter Tryz.func79, Tryz.ntmps79
       go_wp2
       go_ret
       exact dW
      ·
       rw [iN mU] at H; have LY := beq_eq_false_iff_ne.mpr mU; have QO := bne_iff_ne.mpr mU
       by_cases c23 : a0 = 95
       ·
        rw [ip c23] at H; obtain ⟨ZA, mr⟩ := dH c23; clear c23; obtain rfl := Option.some.inj H
        go_enter Tryz.func79, Tryz.ntmps79
        go_wp2
        go_ret
        exact dW
       ·
        rw [iN c23] at H; have ZA := beq_eq_false_iff_ne.mpr c23; have mr := bne_iff_ne.mpr c23; obtain rfl := Option.some.inj H
        go_enter Tryz.func79, Tryz.ntmps79
        go_wp2
        go_ret
        exact dW
    ·
     rw [iN c20] at H; have QM := dF c20; clear c20
     by_cases c24 : a0 = 46
     ·
      rw [ip c24] at H; obtain ⟨FH, QP⟩ := dH c24; clear c24; obtain rfl := Option.some.inj H
      go_enter Tryz.func79, Tryz.ntmps79
      go_wp2
      go_ret
      exact dW
     ·
      rw [iN c24] at H; have FH := beq_eq_false_iff_ne.mpr c24; have QP := bne_iff_ne.mpr c24
      by_cases nD : a0 = 95
      ·
       rw [ip nD] at H; obtain ⟨LZ, QQ⟩ := dH nD; clear nD; obtain rfl := Option.some.inj H
       go_enter Tryz.func79, Tryz.ntmps79
       go_wp2
       go_ret
       exact dW
      ·
       rw [iN nD] at H; have LZ := beq_eq_false_iff_ne.mpr nD; have QQ := bne_iff_ne.mpr nD; obtain rfl := Option.some.inj H
       go_enter Tryz.func79, Tryz.ntmps79
       go_wp2
       go_ret
       exact dW
  ·
   rw [iN c18] at H; have LW := dF c18; clear c18
   by_cases oQ : a0 ≥ 48
   ·
    rw [ip oQ] at H; have FI := dT oQ; clear oQ
    by_cases qW : a0 ≤ 57
    ·
     rw [ip qW] at H; have QR := dT qW; clear qW; obtain rfl := Option.some.inj H
     go_enter Tryz.func79, Tryz.ntmps79
     go_wp2
     go_ret
     exact dW
    ·
     rw [iN qW] at H; have QR := dF qW; clear qW
     by_cases c28 : a0 = 46
     ·
      rw [ip c28] at H; obtain ⟨J3, J4⟩ := dH c28; clear c28; obtain rfl := Option.some.inj H
      go_enter Tryz.func79, Tryz.ntmps79
      go_wp2
      go_ret
      exact dW
     ·
      rw [iN c28] at H; have J3 := beq_eq_false_iff_ne.mpr c28; have J4 := bne_iff_ne.mpr c28
      by_cases wN : a0 = 95
      ·
       rw [ip wN] at H; obtain ⟨ZB, ZC⟩ := dH wN; clear wN; obtain rfl := Option.some.inj H
       go_enter Tryz.func79, Tryz.ntmps79
       go_wp2
       go_ret
       exact dW
      ·
       rw [iN wN] at H; have ZB := beq_eq_false_iff_ne.mpr wN; have ZC := bne_iff_ne.mpr wN; obtain rfl := Option.some.inj H
       go_enter Tryz.func79, Tryz.ntmps79
       go_wp2
       go_ret
       exact dW
   ·
    rw [iN oQ] at H; have FI := dF oQ; clear oQ
    by_cases nP : a0 = 46
    ·
     rw [ip nP] at H; obtain ⟨QS, QT⟩ := dH nP; clear nP; obtain rfl := Option.some.inj H
     go_enter Tryz.func79, Tryz.ntmps79
     go_wp2
     go_ret
     exact dW
    ·
     rw [iN nP] at H; have QS := beq_eq_false_iff_ne.mpr nP; have QT := bne_iff_ne.mpr nP
     by_cases c31 : a0 = 95
     ·
      rw [ip c31] at H; obtain ⟨ni, aD0⟩ := dH c31; clear c31; obtain rfl := Option.some.inj H
      go_enter Tryz.func79, Tryz.ntmps79
      go_wp2
      go_ret
      exact dW
     ·
      rw [iN c31] at H; have ni := beq_eq_false_iff_ne.mpr c31; have aD0 := bne_iff_ne.mpr c31; obtain rfl := Option.some.inj H
      go_enter Tryz.func79, Tryz.ntmps79
      go_wp2
      go_ret
      exact dW
section
mutual
def kY.l0 : Nat → ByteArray → Int → Int → Option (Bool)
 | 0, _, _, _ => none
 | k + 1, x0, x3, x4 => if x4 ≤ (x0.size : Int) then (if x4 < (x0.size : Int) then (if 0 ≤ x4 then (kY.j1 k x0 x3 x4 ((bt x0 x4) != 47)) else (none)) else (kY.j1 k x0 x3 x4 false)) else (some (decide ((x0.size : Int) ≤ 255)))
def kY.j1 : Nat → ByteArray → Int → Int → Bool → Option (Bool)
 | 0, _, _, _, _ => none
 | k + 1, x0, x3, x4, Bu => if Bu = true then (if 0 ≤ x4 then (if x4 < (x0.size : Int) then ((KY.f (bt x0 x4)).bind fun t101 => (if t101 = true then (kY.l0 k x0 x3 (wrap64 (x4 + 1))) else (some false))) else (none)) else (none)) else (if 0 ≤ x3 then (if x3 ≤ x4 then (if x4 ≤ (x0.size : Int) then (if (x0.extract (x3 : Int).toNat (x4 : Int).toNat).toList = ([] : List UInt8) then (some false) else (if (x0.extract (x3 : Int).toNat (x4 : Int).toNat).toList = ([46] : List UInt8) then (some false) else (if (x0.extract (x3 : Int).toNat (x4 : Int).toNat).toList = ([46, 46] : List UInt8) then (some false) else (kY.l0 k x0 (wrap64 (x4 + 1)) (wrap64 (x4 + 1)))))) else (none)) else (none)) else (none))
end
def kY.f (k : Nat) (a0 : ByteArray) : Option (Bool) := kY.l0 k a0 0 0
theorem kY.calls (k : Nat) (a0 : ByteArray) (r : Bool) (w : World) (h : kY.f k a0 = some r) :
 Calls Tryz.prog 42 #[.string a0] w fun e w' => e = .returned (.bool r) ∧ fG w w' := by
 have H : (kY.l0 k a0 0 0) = some r := h; clear h; have H' := aA H; clear H
 go_enter Tryz.func42, Tryz.ntmps42
 go_wp2
 go_loopg [3, 4] k (fun kq v3 v4 w' => ∃ (eG : Int) (dN : Int), v3 = .int .i64 eG ∧ v4 = .int .i64 dN ∧ aC (kY.l0 kq a0 eG dN = some r) ∧ aC (kq ≤ k) ∧ fG w w')
 case atStart => exact ⟨(0), (0), aZ, aZ, H', ⟨Nat.le_refl _⟩, dr⟩
 case round =>
  clear H'; obtain ⟨eG, dN, rfl, rfl, HA, bD, ⟨m1, rfl⟩⟩ := hrel
  cases gk with
  | zero => exact absurd HA.out (by simp [kY.l0])
  | succ k1 =>
   have H := HA.out; clear HA
   simp only [kY.l0] at H
   by_cases c2 : dN ≤ (a0.size : Int)
   ·
    rw [ip c2] at H; have iZ := dT c2; clear c2; have yI := aA H; clear H
    go_upto_region 5 with (fail)
    go_cut [21] (fun v21 wc => ∃ (kq : Nat) (ZP : Bool), v21 = .bool ZP ∧ aC (kY.j1 kq a0 eG dN ZP = some r) ∧ aC (kq ≤ k1) ∧ fG w wc)
    case first =>
     have H := yI.out; clear yI
     by_cases c4 : dN < (a0.size : Int)
     ·
      rw [ip c4] at H; have fP := dT c4; clear c4
      (first | rw [fP] | (simp only [dC, iC]; rw [fP]) | skip)
      replace H := dU H; obtain ⟨c5, H⟩ := H; have iH := dT c5; clear c5; have H' := aA H; clear H; have p6 : 0 ≤ (dN : Int) := aK; have q6 : dN < (a0.size : Int) := aK; have hx6 := fE a0 dN; replace p6 := eT p6; replace q6 := eT q6
      go_wp2
      go_meet
      case rel => exact ⟨_, (((bt a0 dN) != 47)), aZ, H', ⟨by have := bD.out; first | omega | exact Nat.le_refl _⟩, dr⟩
     ·
      rw [iN c4] at H; have fP := dF c4; clear c4
      (first | rw [fP] | (simp only [dC, iC]; rw [fP]) | skip)
      have H' := aA H; clear H
      go_wp2
      go_meet
      case rel => exact ⟨_, (false), aZ, H', ⟨by have := bD.out; first | omega | exact Nat.le_refl _⟩, dr⟩
    case rest =>
     clear yI; try clear c2; try clear iZ
     obtain ⟨kq, ZP, rfl, HA, HJ2, ⟨mc2, rfl⟩⟩ := hcut
     cases kq with
     | zero => exact absurd HA.out (by simp [kY.j1])
     | succ DL =>
      have H := HA.out; clear HA
      simp only [kY.j1] at H
      by_cases c7 : ZP = true
      ·
       subst c7; have H1 : (if 0 ≤ dN then (if dN < (a0.size : Int) then ((KY.f (bt a0 dN)).bind fun t101 => (if t101 = true then (kY.l0 DL a0 eG (wrap64 (dN + 1))) else (some false))) else (none)) else (none)) = some r := by rw [ip rfl] at H; exact H
       clear H; have H := H1; clear H1; replace H := dU H; obtain ⟨c8, H⟩ := H; have mG := dT c8; clear c8; replace H := dU H; obtain ⟨c9, H⟩ := H; have mO := dT c9; clear c9; replace H := bnd H; obtain ⟨t101, yG, H⟩ := H
       by_cases c12 : t101 = true
       ·
        subst c12; have H1 : (kY.l0 DL a0 eG (wrap64 (dN + 1))) = some r := by rw [ip rfl] at H; exact H
        clear H; have H := H1; clear H1; have H' := aA H; clear H; have WE : 0 ≤ (dN : Int) := aK; have WH : dN < (a0.size : Int) := aK; have aFl := fE a0 dN; replace WE := eT WE; replace WH := eT WH
        go_wp2_with (first | ((with_reducible refine dJ (f := 79) rfl ?_); refine dV (some 25) rfl rfl Tryz.func79 (by kernel_rfl) rfl #[.int .u8 (bt a0 dN)] rfl ?_; (with_reducible refine (KY.calls (bt a0 dN) true _ yG.out).mono ?_); rintro e w' ⟨rfl, ⟨nd, rfl⟩⟩; refine ⟨_, rfl, ?_⟩))
        go_roundg DL
        case measure => have := bD.out; have := HJ2.out; omega
        case rel => exact ⟨(eG), (wrap64 (dN + 1)), aZ, aZ, H', ⟨by have := bD.out; have := HJ2.out; omega⟩, dr⟩
       ·
        replace c12 := Bool.eq_false_iff.mpr c12; subst c12; have H1 : (some false) = some r := by rw [iN (show ¬ (false = true) by decide)] at H; exact H
        clear H; have H := H1; clear H1; obtain rfl := Option.some.inj H; have WE : 0 ≤ (dN : Int) := aK; have WH : dN < (a0.size : Int) := aK; have aFl := fE a0 dN; replace WE := eT WE; replace WH := eT WH
        go_wp2_with (first | ((with_reducible refine dJ (f := 79) rfl ?_); refine dV (some 25) rfl rfl Tryz.func79 (by kernel_rfl) rfl #[.int .u8 (bt a0 dN)] rfl ?_; (with_reducible refine (KY.calls (bt a0 dN) false _ yG.out).mono ?_); rintro e w' ⟨rfl, ⟨nd, rfl⟩⟩; refine ⟨_, rfl, ?_⟩))
        go_ret
        exact dW
      ·
       replace c7 := Bool.eq_false_iff.mpr c7; subst c7; have H1 : (if 0 ≤ eG then (if eG ≤ dN then (if dN ≤ (a0.size : Int) then (if (a0.extract (eG : Int).toNat (dN : Int).toNat).toList = ([] : List UInt8) then (some false) else (if (a0.extract (eG : Int).toNat (dN : Int).toNat).toList = ([46] : List UInt8) then (some false) else (if (a0.extract (eG : Int).toNat (dN : Int).toNat).toList = ([46, 46] : List UInt8) then (some false) else (kY.l0 DL a0 (wrap64 (dN + 1)) (wrap64 (dN + 1)))))) else (none)) else (none)) else (none)) = some r := by rw [iN (show ¬ (false = true) by decide)] at H; exact H
       clear H; have H := H1; clear H1; replace H := dU H; obtain ⟨c13, H⟩ := H; have vU := eT c13; have OB := dT c13; clear c13; replace H := dU H; obtain ⟨c14, H⟩ := H; have yB := eT c14; have QH := dT c14; clear c14; replace H := dU H; obtain ⟨c15, H⟩ := H; have qP := eT c15; have FD := dT c15; clear c15
       by_cases c16 : (a0.extract (eG : Int).toNat (dN : Int).toNat).toList = ([] : List UInt8)
       ·
        rw [ip c16] at H; obtain ⟨FE, QI⟩ := dH c16; clear c16; obtain rfl := Option.some.inj H
        go_wp2
        go_ret
        exact dW
       ·
        rw [iN c16] at H; have FE := beq_eq_false_iff_ne.mpr c16; have QI := bne_iff_ne.mpr c16
        by_cases c17 : (a0.extract (eG : Int).toNat (dN : Int).toNat).toList = ([46] : List UInt8)
        ·
         rw [ip c17] at H; obtain ⟨J2, QJ⟩ := dH c17; clear c17; obtain rfl := Option.some.inj H
         go_wp2
         go_ret
         exact dW
        ·
         rw [iN c17] at H; have J2 := beq_eq_false_iff_ne.mpr c17; have QJ := bne_iff_ne.mpr c17
         by_cases c18 : (a0.extract (eG : Int).toNat (dN : Int).toNat).toList = ([46, 46] : List UInt8)
         ·
          rw [ip c18] at H; obtain ⟨LW, QK⟩ := dH c18; clear c18; obtain rfl := Option.some.inj H
          go_wp2
          go_ret
          exact dW
         ·
          rw [iN c18] at H; have LW := beq_eq_false_iff_ne.mpr c18; have QK := bne_iff_ne.mpr c18; have H' := aA H; clear H
          go_wp2
          go_roundg DL
          case measure => have := bD.out; have := HJ2.out; omega
          case rel => exact ⟨(wrap64 (dN + 1)), (wrap64 (dN + 1)), aZ, aZ, H', ⟨by have := bD.out; have := HJ2.out; omega⟩, dr⟩
   ·
    rw [iN c2] at H; have iZ := dF c2; clear c2; obtain rfl := Option.some.inj H
    go_wp2
    go_ret
    exact dW
end
end Go.Proofs.YtgmggompdidcoaaGreatDoor.X
