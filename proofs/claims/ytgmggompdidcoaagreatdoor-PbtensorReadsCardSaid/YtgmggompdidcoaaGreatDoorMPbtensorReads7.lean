import Derived.Test.YtgmggompdidcoaaGreatDoorMPbtensorReads6
import Derived.ScopeJumps
import Derived.WalkMore
namespace Go.Proofs.YtgmggompdidcoaaGreatDoor.X
open Go.RowKit Go.Proofs.YtgmggompdidcoaaGreatDoorW.aX Go.Proofs.YtgmggompdidcoaaGreatDoorW.bJ Go.Proofs.YtgmggompdidcoaaGreatDoorW.bK
attribute [local go_sem] bO bQ bS bU bM bN bP bR
set_option linter.unusedVariables false
set_option linter.unusedSimpArgs false
set_option maxHeartbeats 8000000
set_option maxRecDepth 100000
def mJ : Nat → List Int → ByteArray → List Int × Nat
 | 0, out, _ => (out, 0)
 | k + 1, out, b => if b.size = 0 then (out, 0) else if (eD b).2.2 ≠ 0 then ([], (eD b).2.2) else if 65536 ≤ out.length then ([], 7)
  else mJ k (out ++ [wrap64 (eD b).1]) (b.extract (eD b).2.1 b.size)
def mF : List Fl → List Int → List Int × Nat
 | [], out => (out, 0)
 | f :: l, out => if f.2.1 = 0 then (if 65536 ≤ out.length then ([], 7) else mF l (out ++ [wrap64 f.2.2.1]))
  else if f.2.1 = 2 then (if (mJ f.2.2.2.size out f.2.2.2).2 ≠ 0 then ([], (mJ f.2.2.2.size out f.2.2.2).2) else mF l (mJ f.2.2.2.size out f.2.2.2).1)
  else ([], 3)
def vR : List Fl → List ByteArray → List ByteArray × Nat
 | [], out => (out, 0)
 | f :: l, out => if f.2.1 = 2 then vR l (out ++ [f.2.2.2]) else ([], 3)
def rJ : List Int → ByteArray
 | [] => ⟨#[]⟩
 | n :: l => uT (IntKind.u64.wrap n).toNat ++ rJ l
def uu (num : Int) (l : List Int) : ByteArray := if l = [] then ⟨#[]⟩ else LK num 2 0 (rJ l)
theorem _Q (k : Nat) : ∀ (out : List Int) (b : ByteArray), out.length ≤ 65536 → (mJ k out b).1.length ≤ 65536 := by
 induction k with
 | zero => intro out b h; exact h
 | succ k ih =>
  intro out b h
  rw [mJ]
  split
  · exact h
  · split
    · simp
    · split
      · simp
      · exact ih _ _ (by simp; omega)
theorem af (n : Int) : 0 ≤ IntKind.u64.wrap n ∧ IntKind.u64.wrap n < 18446744073709551616 := by rw [LD]; omega
theorem Eg (l : List Int) : (rJ l).size ≤ 10 * l.length := by
 induction l with
 | nil => exact Nat.le_refl _
 | cons n l ih =>
  have h := af n
  have := XV (IntKind.u64.wrap n).toNat (by omega)
  rw [rJ, ByteArray.size_append, ag, List.length_cons]
  omega
theorem Wp (a b : List Int) : rJ (a ++ b) = rJ a ++ rJ b := by
 induction a with
 | nil => apply UH; simp [rJ, _9, ns]
 | cons n a ih => rw [List.cons_append, rJ, ih, rJ, ByteArray.append_assoc]
theorem W9 {α β : Type} (f : α → β) (p : β → Bool) (l : List α) : (l.map f).filter p = (l.filter (fun x => p (f x))).map f := by rw [List.filter_map]; rfl
theorem Bg (l : List (dK)) (i : Nat) (h : i < l.length) : bY l (i : Int) = l[i] := by
 simp [bY, List.getD_eq_getElem?_getD, h]
theorem Bh (l : List (dP)) (i : Nat) (h : i < l.length) : cB l (i : Int) = l[i] := by
 simp [cB, List.getD_eq_getElem?_getD, h]
def KZ.f (l0 : List (dK)) (a1 : Int) : Option (List ByteArray × Int) := if l0.length ≤ 3518437208883 then some ((vR ((l0.filter fun x => x.f0 == a1).map mD) []).1, ((vR ((l0.filter fun x => x.f0 == a1).map mD) []).2 : Int)) else none
theorem Tt (l : List (dK)) (hl : l.length ≤ 3518437208883) (d : Nat) : ∀ (k i : Nat) (out : List ByteArray), l.length - i = d → i ≤ l.length → out.length ≤ i → d < k →
 wY.l0 k out l l.length i = some ((vR ((l.drop i).map mD) out).1, ((vR ((l.drop i).map mD) out).2 : Int)) := by
 induction d with
 | zero =>
  intro k i out hd hi ho hk
  obtain ⟨k, rfl⟩ : ∃ m, k = m + 1 := ⟨k - 1, by omega⟩
  simp only [wY.l0]
  rw [iN (by omega), List.drop_of_length_le (by omega)]
  rfl
 | succ d ih =>
  intro k i out hd hi ho hk
  obtain ⟨k, rfl⟩ : ∃ m, k = m + 1 := ⟨k - 1, by omega⟩
  have h0 : i < l.length := by omega
  simp only [wY.l0, Bg l i h0]
  have ew : wrap64 ((i : Int) + 1) = ((i + 1 : Nat) : Int) := by rw [fC (by omega) (by omega)]; omega
  rw [ip (by omega), ip (by omega), ip (by omega), List.drop_eq_getElem_cons h0, List.map_cons, ew]
  clear ew
  generalize l[i] = x at *
  rw [vR]
  by_cases t2 : x.f1 = 2
  · rw [ip t2, ip (show (mD x).2.1 = 2 from t2), ip (by omega)]
    exact ih k (i + 1) _ (by omega) (by omega) (by simp; omega) (by omega)
  · rw [iN t2, iN (show ¬ (mD x).2.1 = 2 from t2)]
    rfl
theorem KZ.ev (l0 : List (dK)) (a1 : Int) (r) (h : KZ.f l0 a1 = some r) : ∃ k, wY.f k l0 a1 = some r := by
 unfold KZ.f at h
 split at h
 · rename_i hs
   rw [← h]
   have e : sV.f l0 a1 = some (l0.filter fun x => x.f0 == a1) := ip hs
   have hle : (l0.filter fun x => x.f0 == a1).length ≤ l0.length := List.length_filter_le _ _
   refine ⟨(l0.filter fun x => x.f0 == a1).length + 1, ?_⟩
   unfold wY.f
   rw [e, Option.bind_some]
   have := Tt (l0.filter fun x => x.f0 == a1) (by omega) _ ((l0.filter fun x => x.f0 == a1).length + 1) 0 [] rfl (by omega) (by simp) (by omega)
   simpa using this
 · cases h
theorem KZ.calls (A0 : Option Addr) (c0 : Nat) (l0 : List (dK)) (a1 : Int) (r1 : List ByteArray) (r2 : Int) (w : World) (hr0 : Kd.C lN w A0 l0.length l0) (hc0 : l0.length ≤ c0) (h : KZ.f l0 a1 = some (r1, r2)) :
 Calls Tryz.prog 54 #[.slice A0 l0.length c0, .int .i64 a1] w fun e w' => ∃ gW : Value, e = .returned (.tuple #[gW, .int .i64 r2]) ∧ Kd.R Kd.string 9 w' w.heap.size (fun _ => True) gW r1 ∧ Below w.heap.size w w' := by
 obtain ⟨k, hk⟩ := KZ.ev l0 a1 _ h
 exact wY.calls k A0 c0 l0 a1 r1 r2 w hr0 hc0 hk
section
mutual
def oJ.l0 : Nat → List Int → List Int → Int → Int → Option (Int × Int)
 | 0, _, _, _, _ => none
 | k + 1, x0, nQ, AA, yT => if yT < AA then (if 0 ≤ yT then (if yT < (nQ.length : Int) then (if (rd nQ yT) < 0 then (some (0, 6)) else (oJ.l0 k x0 nQ AA (wrap64 (yT + 1)))) else (none)) else (none)) else (oJ.l1 k 1 false x0 (x0.length : Int) 0)
def oJ.l1 : Nat → Int → Bool → List Int → Int → Int → Option (Int × Int)
 | 0, _, _, _, _, _ => none
 | k + 1, x6, x7, JH, WX, x24 => if x24 < WX then (if 0 ≤ x24 then (if x24 < (JH.length : Int) then (if (rd JH x24) > 65536 then (some (0, 7)) else (if (rd JH x24) = 0 then (oJ.l1 k x6 true JH WX (wrap64 (x24 + 1))) else (oJ.l1 k (mn (wrap64 (x6 * (rd JH x24))) 65537) x7 JH WX (wrap64 (x24 + 1))))) else (none)) else (none)) else (if x7 = true then (some (0, 0)) else (if x6 > 65536 then (some (0, 7)) else (some (x6, 0))))
end
def oJ.f (k : Nat) (l0 : List Int) : Option (Int × Int) := if (l0.length : Int) > 8 then (some (0, 6)) else (oJ.l0 k l0 l0 (l0.length : Int) 0)
theorem oJ.calls (k : Nat) (A0 : Option Addr) (c0 : Nat) (l0 : List Int) (r1 : Int) (r2 : Int) (w : World) (hr0 : Kd.C (Kd.int .i64) w A0 l0.length l0) (hc0 : l0.length ≤ c0) (h : oJ.f k l0 = some (r1, r2)) :
 Calls Tryz.prog 57 #[.slice A0 l0.length c0] w fun e w' => e = .returned (.tuple #[.int .i64 r1, .int .i64 r2]) ∧ Below w.heap.size w w' := by
 have fF := aA hr0; have oO := aA hc0; clear hr0 hc0; have HB := aA (Below.refl w.heap.size w); have H : (if (l0.length : Int) > 8 then (some (0, 6)) else (oJ.l0 k l0 l0 (l0.length : Int) 0)) = some (r1, r2) := h; clear h
 by_cases c2 : (l0.length : Int) > 8
 ·
  rw [ip c2] at H; have iZ := dT c2; have nZ : decide (8 < l0.length) = true := dT (by omega); clear c2
  simp only [Option.some.injEq, Prod.mk.injEq] at H
  obtain ⟨rfl, rfl⟩ := H
  go_enter Tryz.func57, Tryz.ntmps57
  go_wp2
  go_ret2
  exact ⟨eH, aJ HB⟩
 ·
  rw [iN c2] at H; have iZ := dF c2; have nZ : decide (8 < l0.length) = false := dF (by omega); clear c2; have H' := aA H; clear H
  go_enter Tryz.func57, Tryz.ntmps57
  go_wp2
  go_loopg [15] k (fun kq v15 w' => ∃ (eB : Int), v15 = .int .i64 eB ∧ aC (oJ.l0 kq l0 l0 (l0.length : Int) eB = some (r1, r2)) ∧ aC (kq ≤ k) ∧ aC (Below w.heap.size w w'))
  case atStart => exact ⟨(0), aZ, H', ⟨Nat.le_refl _⟩, ⟨aJ HB⟩⟩
  case round =>
   clear H'; try clear c2; try clear iZ; try clear nZ
   obtain ⟨eB, rfl, HA, bD, HB⟩ := hrel
   cases gk with
   | zero => exact absurd HA.out (by simp [oJ.l0])
   | succ k1 =>
    have H := HA.out; clear HA
    simp only [oJ.l0] at H
    by_cases c3 : eB < (l0.length : Int)
    ·
     rw [ip c3] at H; have gL := dT c3; clear c3; replace H := dU H; obtain ⟨c4, H⟩ := H; have fP := dT c4; clear c4
     by_cases c5 : eB < (l0.length : Int)
     ·
      rw [ip c5] at H; have iH := dT c5; clear c5
      by_cases c6 : (rd l0 eB) < 0
      ·
       rw [ip c6] at H; have kP := dT c6; clear c6
       simp only [Option.some.injEq, Prod.mk.injEq] at H
       obtain ⟨rfl, rfl⟩ := H; have dL : 0 ≤ (eB : Int) := aK; have dM : eB < (l0.length : Int) := aK; obtain ⟨lD, iM, gD⟩ := Kd.kN fF.out eB dL dM; cases iM; replace gD := hbc HB gD; replace dL := eT dL; replace dM := eT dM
       go_wp2
       go_ret2
       exact ⟨eH, aJ HB⟩
      ·
       rw [iN c6] at H; have kP := dF c6; clear c6; have H' := aA H; clear H; have dL : 0 ≤ (eB : Int) := aK; have dM : eB < (l0.length : Int) := aK; obtain ⟨lD, iM, gD⟩ := Kd.kN fF.out eB dL dM; cases iM; replace gD := hbc HB gD; replace dL := eT dL; replace dM := eT dM
       go_wp2
       go_roundg k1
       case measure => have := bD.out; omega
       case rel => exact ⟨(wrap64 (eB + 1)), aZ, H', iK bD, ⟨aJ HB⟩⟩
     ·
      exact absurd (of_decide_eq_true gL) c5
    ·
     rw [iN c3] at H; have gL := dF c3; clear c3; have H' := aA H; clear H
     go_wp2
     go_loopg [6, 7, 24] k1 (fun kq v6 v7 v24 w' => ∃ (rM : Int) (qV : Bool) (rH : Int), v6 = .int .i64 rM ∧ v7 = .bool qV ∧ v24 = .int .i64 rH ∧ aC (oJ.l1 kq rM qV l0 (l0.length : Int) rH = some (r1, r2)) ∧ aC (kq ≤ k1) ∧ aC (Below w.heap.size w w'))
     case atStart => exact ⟨(1), (false), (0), aZ, aZ, aZ, H', ⟨Nat.le_refl _⟩, ⟨aJ HB⟩⟩
     case round =>
      clear H'; obtain ⟨rM, qV, rH, rfl, rfl, rfl, HA, nO, HB⟩ := hrel
      cases gk with
      | zero => exact absurd HA.out (by simp [oJ.l1])
      | succ k2 =>
       have H := HA.out; clear HA
       simp only [oJ.l1] at H
       by_cases c7 : rH < (l0.length : Int)
       ·
        rw [ip c7] at H; have nA := dT c7; clear c7; replace H := dU H; obtain ⟨c8, H⟩ := H; have mG := dT c8; clear c8
        by_cases c9 : rH < (l0.length : Int)
        ·
         rw [ip c9] at H; have mO := dT c9; clear c9
         by_cases c10 : (rd l0 rH) > 65536
         ·
          rw [ip c10] at H; have qO := dT c10; clear c10
          simp only [Option.some.injEq, Prod.mk.injEq] at H
          obtain ⟨rfl, rfl⟩ := H; have jO : 0 ≤ (rH : Int) := aK; have jP : rH < (l0.length : Int) := aK; obtain ⟨vT, qU, rQ⟩ := Kd.kN fF.out rH jO jP; cases qU; replace rQ := hbc HB rQ; replace jO := eT jO; replace jP := eT jP
          go_wp2
          go_ret2
          exact ⟨eH, aJ HB⟩
         ·
          rw [iN c10] at H; have qO := dF c10; clear c10
          by_cases c11 : (rd l0 rH) = 0
          ·
           rw [ip c11] at H; obtain ⟨nJ, JZ⟩ := dH c11; clear c11; have H' := aA H; clear H; have jO : 0 ≤ (rH : Int) := aK; have jP : rH < (l0.length : Int) := aK; obtain ⟨vT, qU, rQ⟩ := Kd.kN fF.out rH jO jP; cases qU; replace rQ := hbc HB rQ; replace jO := eT jO; replace jP := eT jP
           go_wp2
           go_roundg k2
           case measure => have := bD.out; have := nO.out; omega
           case rel => exact ⟨(rM), (true), (wrap64 (rH + 1)), aZ, aZ, aZ, H', ⟨by have := bD.out; have := nO.out; omega⟩, ⟨aJ HB⟩⟩
          ·
           rw [iN c11] at H; have nJ := beq_eq_false_iff_ne.mpr c11; have JZ := bne_iff_ne.mpr c11; obtain ⟨uo, ZK⟩ : ∃ j_ : Int, (mn (wrap64 (rM * (rd l0 rH))) 65537) = j_ := ⟨_, rfl⟩; replace H : (oJ.l1 k2 uo qV l0 (l0.length : Int) (wrap64 (rH + 1))) = some (r1, r2) := by first | (rw [ZK] at H; exact H) | (simp only [ZK] at H ⊢; exact H)
           have aHp : (if 65537 < (wrap64 (rM * (rd l0 rH))) then 65537 else (wrap64 (rM * (rd l0 rH)))) = uo := ZK; have H' := aA H; clear H; have jO : 0 ≤ (rH : Int) := aK; have jP : rH < (l0.length : Int) := aK; obtain ⟨vT, qU, rQ⟩ := Kd.kN fF.out rH jO jP; cases qU; replace rQ := hbc HB rQ; replace jO := eT jO; replace jP := eT jP
           go_wp2
           go_roundg k2
           case measure => have := bD.out; have := nO.out; omega
           case rel => exact ⟨(uo), (qV), (wrap64 (rH + 1)), (by first | rfl | (simp; done) | (simp only [← ZK] <;> (first | rfl | simp)) | (simp [*]; done)), aZ, aZ, H', ⟨by have := bD.out; have := nO.out; omega⟩, ⟨aJ HB⟩⟩
        ·
         exact absurd (of_decide_eq_true nA) c9
       ·
        rw [iN c7] at H; have nA := dF c7; clear c7
        by_cases c13 : qV = true
        ·
         subst c13; have H1 : (some (0, 0)) = some (r1, r2) := by rw [ip rfl] at H; exact H
         clear H; have H := H1; clear H1
         simp only [Option.some.injEq, Prod.mk.injEq] at H
         obtain ⟨rfl, rfl⟩ := H
         go_wp2
         go_ret2
         exact ⟨eH, aJ HB⟩
        ·
         replace c13 := Bool.eq_false_iff.mpr c13; subst c13; have H1 : (if rM > 65536 then (some (0, 7)) else (some (rM, 0))) = some (r1, r2) := by rw [iN (show ¬ (false = true) by decide)] at H; exact H
         clear H; have H := H1; clear H1
         by_cases c14 : rM > 65536
         ·
          rw [ip c14] at H; have yB := dT c14; clear c14
          simp only [Option.some.injEq, Prod.mk.injEq] at H
          obtain ⟨rfl, rfl⟩ := H
          go_wp2
          go_ret2
          exact ⟨eH, aJ HB⟩
         ·
          rw [iN c14] at H; have yB := dF c14; clear c14
          simp only [Option.some.injEq, Prod.mk.injEq] at H
          obtain ⟨rfl, rfl⟩ := H
          go_wp2
          go_ret2
          exact ⟨eH, aJ HB⟩
end
def uF.f (l0 : List Int) : Option (Int × Int) := some (kE l0)
theorem Vw (l : List Int) (hb : l.length ≤ 8) (hn : ∀ x ∈ l, 0 ≤ x) (d : Nat) : ∀ (k i : Nat) (n : Int) (z : Bool), l.length - i = d → i ≤ l.length → d < k → 0 ≤ n → n ≤ 65537 →
 oJ.l1 k n z l (l.length : Int) i = some (nX (l.drop i) n z) := by
 induction d with
 | zero =>
  intro k i n z hd hi hk h0 h1
  obtain ⟨k, rfl⟩ : ∃ m, k = m + 1 := ⟨k - 1, by omega⟩
  rw [oJ.l1, iN (by omega), List.drop_of_length_le (by omega), nX]
  split
  · rfl
  · split <;> rfl
 | succ d ih =>
  intro k i n z hd hi hk h0 h1
  obtain ⟨k, rfl⟩ : ∃ m, k = m + 1 := ⟨k - 1, by omega⟩
  have hl : i < l.length := by omega
  have e0 : rd l (i : Int) = l[i] := by simp [rd, List.getD_eq_getElem?_getD, hl]
  have hp := hn l[i] (List.getElem_mem hl)
  have ew : wrap64 ((i : Int) + 1) = ((i + 1 : Nat) : Int) := by rw [fC (by omega) (by omega)]; omega
  rw [oJ.l1, ip (by omega), ip (by omega), ip (by omega), e0, List.drop_eq_getElem_cons hl, nX, ew]
  clear ew
  by_cases hg : l[i] > 65536
  · rw [ip hg, ip hg]
  · rw [iN hg, iN hg]
    by_cases hz : l[i] = 0
    · rw [ip hz, ip hz]
      exact ih k (i + 1) n true (by omega) (by omega) (by omega) h0 h1
    · have hm := Kq h0 h1 hp (by omega : l[i] ≤ 65536)
      rw [iN hz, iN hz, fC (by omega) (by omega)]
      show oJ.l1 k (if 65537 < n * l[i] then 65537 else n * l[i]) z l (l.length : Int) ((i + 1 : Nat) : Int) = _
      generalize n * l[i] = p at *
      refine ih k (i + 1) (if 65537 < p then 65537 else p) z (by omega) (by omega) (by omega) ?_ ?_ <;> split <;> omega
theorem Vv (l : List Int) (hb : l.length ≤ 8) (d : Nat) : ∀ (k i : Nat), l.length - i = d → i ≤ l.length → d + l.length + 2 ≤ k → (∀ x ∈ l.take i, 0 ≤ x) →
 oJ.l0 k l l (l.length : Int) i = some (if (l.drop i).any (fun x => decide (x < 0)) then (0, 6) else nX l 1 false) := by
 induction d with
 | zero =>
  intro k i hd hi hk hn
  obtain ⟨k, rfl⟩ : ∃ m, k = m + 1 := ⟨k - 1, by omega⟩
  rw [oJ.l0, iN (by omega), List.drop_of_length_le (by omega)]
  rw [List.take_of_length_le (by omega)] at hn
  exact Vw l hb hn l.length k 0 1 false (by omega) (by omega) (by omega) (by omega) (by omega)
 | succ d ih =>
  intro k i hd hi hk hn
  obtain ⟨k, rfl⟩ : ∃ m, k = m + 1 := ⟨k - 1, by omega⟩
  have hl : i < l.length := by omega
  have e0 : rd l (i : Int) = l[i] := by simp [rd, List.getD_eq_getElem?_getD, hl]
  have ew : wrap64 ((i : Int) + 1) = ((i + 1 : Nat) : Int) := by rw [fC (by omega) (by omega)]; omega
  rw [oJ.l0, ip (by omega), ip (by omega), ip (by omega), e0, List.drop_eq_getElem_cons hl, ew]
  clear ew
  by_cases hg : l[i] < 0
  · rw [ip hg, List.any_cons, dT hg]
    rfl
  · rw [iN hg, ih k (i + 1) (by omega) (by omega) (by omega) ?_]
    · rw [List.any_cons, dF hg, Bool.false_or]
    · intro x hx
      rw [List.take_succ_eq_append_getElem hl] at hx
      rcases List.mem_append.1 hx with hx | hx
      · exact hn x hx
      · rw [List.mem_singleton.1 hx]; omega
theorem uF.ev (l0 : List Int) (r) (h : uF.f l0 = some r) : ∃ k, oJ.f k l0 = some r := by
 refine ⟨2 * l0.length + 2, ?_⟩
 rw [← h]
 unfold oJ.f uF.f kE
 by_cases hl : l0.length > 8
 · rw [ip (by omega), ip hl]
 · rw [iN (by omega), iN hl]
   exact Vv l0 (by omega) l0.length _ 0 (by omega) (by omega) (by omega) (by simp)
theorem uF.calls (A0 : Option Addr) (c0 : Nat) (l0 : List Int) (r1 : Int) (r2 : Int) (w : World) (hr0 : Kd.C (Kd.int .i64) w A0 l0.length l0) (hc0 : l0.length ≤ c0) (h : uF.f l0 = some (r1, r2)) :
 Calls Tryz.prog 57 #[.slice A0 l0.length c0] w fun e w' => e = .returned (.tuple #[.int .i64 r1, .int .i64 r2]) ∧ Below w.heap.size w w' := by
 obtain ⟨k, hk⟩ := uF.ev l0 _ h
 exact oJ.calls k A0 c0 l0 r1 r2 w hr0 hc0 hk
def y8.l0 : Nat → ByteArray → Int → Int → Option (Bool)
 | 0, _, _, _ => none
 | k + 1, x0, x5, x6 => if x6 < x5 then (if 0 ≤ x6 then (if x6 < (x0.size : Int) then (if (bt x0 x6) < 33 then (some false) else (if (bt x0 x6) > 126 then (some false) else (y8.l0 k x0 x5 (wrap64 (x6 + 1))))) else (none)) else (none)) else (if x0.toList = ([] : List UInt8) then (some false) else (some (decide ((x0.size : Int) ≤ 64))))
def y8.f (k : Nat) (a0 : ByteArray) : Option (Bool) := y8.l0 k a0 (a0.size : Int) 0
theorem y8.calls (k : Nat) (a0 : ByteArray) (r : Bool) (w : World) (h : y8.f k a0 = some r) :
 Calls Tryz.prog 55 #[.string a0] w fun e w' => e = .returned (.bool r) ∧ fG w w' := by
 have H : (y8.l0 k a0 (a0.size : Int) 0) = some r := h; clear h; have H' := aA H; clear H
 go_enter Tryz.func55, Tryz.ntmps55
 go_wp2
 go_loopg [6] k (fun kq v6 w' => ∃ (bH : Int), v6 = .int .i64 bH ∧ aC (y8.l0 kq a0 (a0.size : Int) bH = some r) ∧ aC (kq ≤ k) ∧ fG w w')
 case atStart => exact ⟨(0), aZ, H', ⟨Nat.le_refl _⟩, dr⟩
 case round =>
  clear H'; obtain ⟨bH, rfl, HA, bD, ⟨m1, rfl⟩⟩ := hrel
  cases gk with
  | zero => exact absurd HA.out (by simp [y8.l0])
  | succ k1 =>
   have H := HA.out; clear HA
   simp only [y8.l0] at H
   by_cases c2 : bH < (a0.size : Int)
   · rw [ip c2] at H
     have iZ := dT c2; clear c2
     by_cases c3 : 0 ≤ bH
     · rw [ip c3] at H
       have gL := dT c3; clear c3
       by_cases c4 : bH < (a0.size : Int)
       · rw [ip c4] at H
         have fP := dT c4; clear c4
         by_cases c6 : (bt a0 bH) < 33
         · rw [ip c6] at H
           have kP := dT c6; clear c6; obtain rfl := Option.some.inj H; have p5 : 0 ≤ (bH : Int) := aK; have q5 : bH < (a0.size : Int) := aK; have hx5 := fE a0 bH; replace p5 := eT p5; replace q5 := eT q5
           go_wp2
           go_ret
           exact dW
         · rw [iN c6] at H
           have kP := dF c6; clear c6
           by_cases c8 : (bt a0 bH) > 126
           · rw [ip c8] at H
             have mG := dT c8; clear c8; obtain rfl := Option.some.inj H; have p5 : 0 ≤ (bH : Int) := aK; have q5 : bH < (a0.size : Int) := aK; have hx5 := fE a0 bH; replace p5 := eT p5; replace q5 := eT q5; have p7 : 0 ≤ (bH : Int) := aK; have q7 : bH < (a0.size : Int) := aK; have hx7 := fE a0 bH; replace p7 := eT p7; replace q7 := eT q7
             go_wp2
             go_ret
             exact dW
           · rw [iN c8] at H
             have mG := dF c8; clear c8; have H' := aA H; clear H; have p5 : 0 ≤ (bH : Int) := aK; have q5 : bH < (a0.size : Int) := aK; have hx5 := fE a0 bH; replace p5 := eT p5; replace q5 := eT q5; have p7 : 0 ≤ (bH : Int) := aK; have q7 : bH < (a0.size : Int) := aK; have hx7 := fE a0 bH; replace p7 := eT p7; replace q7 := eT q7
             go_wp2
             go_roundg k1
             case measure => have := bD.out; omega
             case rel => exact ⟨(wrap64 (bH + 1)), aZ, H', iK bD, dr⟩
       · rw [iN c4] at H; exact uD H
     · rw [iN c3] at H; exact uD H
   · rw [iN c2] at H
     have iZ := dF c2; clear c2
     by_cases c9 : a0.toList = ([] : List UInt8)
     · rw [ip c9] at H
       obtain ⟨mO, xI⟩ := dH c9; clear c9; obtain rfl := Option.some.inj H
       go_wp2
       go_ret
       exact dW
     · rw [iN c9] at H
       have mO := beq_eq_false_iff_ne.mpr c9; have xI := bne_iff_ne.mpr c9; obtain rfl := Option.some.inj H
       go_wp2
       go_ret
       exact dW
def wR.f (a0 : ByteArray) : Option Bool := if a0.size ≤ 140737488351232 then some (tK a0) else none
theorem Tk (s : ByteArray) (hs : s.size ≤ 140737488351232) (d : Nat) : ∀ (k i : Nat), s.size - i = d → i ≤ s.size → d < k →
 y8.l0 k s (s.size : Int) (i : Int) = some (((ns s).drop i).all (fun c => decide (33 ≤ c ∧ c ≤ 126)) && decide (1 ≤ s.size ∧ s.size ≤ 64)) := by
 induction d with
 | zero =>
  intro k i hd hi hk
  obtain ⟨k, rfl⟩ : ∃ m, k = m + 1 := ⟨k - 1, by omega⟩
  simp only [y8.l0]
  rw [iN (by omega), NK s i (by omega)]
  by_cases h0 : s.size = 0
  · rw [ip (toList_nil.2 h0), h0]; rfl
  · rw [iN (fun h => h0 (toList_nil.1 h))]
    simp only [List.all_nil, Bool.true_and]
    congr 1
    exact decide_eq_decide.2 ⟨fun h => ⟨by omega, by omega⟩, fun h => by omega⟩
 | succ d ih =>
  intro k i hd hi hk
  obtain ⟨k, rfl⟩ : ∃ m, k = m + 1 := ⟨k - 1, by omega⟩
  have hlt : i < s.size := by omega
  have hb : bt s (i : Int) = ((s[i]'hlt).toNat : Int) := BA s i hlt
  simp only [y8.l0]
  rw [ip (by omega), ip (by omega), ip (by omega), hb, LJ s i hlt, List.all_cons]
  by_cases h1 : ((s[i]'hlt).toNat : Int) < 33
  · rw [ip h1, show decide (33 ≤ (s[i]'hlt).toNat ∧ (s[i]'hlt).toNat ≤ 126) = false from dF (by omega)]; rfl
  · rw [iN h1]
    by_cases h2 : ((s[i]'hlt).toNat : Int) > 126
    · rw [ip h2, show decide (33 ≤ (s[i]'hlt).toNat ∧ (s[i]'hlt).toNat ≤ 126) = false from dF (by omega)]; rfl
    · rw [iN h2, show decide (33 ≤ (s[i]'hlt).toNat ∧ (s[i]'hlt).toNat ≤ 126) = true from dT (by omega), Bool.true_and, fC (by omega) (by omega)]
      exact ih k (i + 1) (by omega) (by omega) (by omega)
theorem wR.ev (a0 : ByteArray) (r) (h : wR.f a0 = some r) : ∃ k, y8.f k a0 = some r := by
 unfold wR.f at h
 split at h
 · rename_i hs
   have := Tk a0 hs a0.size (a0.size + 1) 0 (by omega) (by omega) (by omega)
   rw [List.drop_zero] at this
   exact ⟨a0.size + 1, this.trans h⟩
 · cases h
theorem wR.calls (a0 : ByteArray) (r : Bool) (w : World) (h : wR.f a0 = some r) :
 Calls Tryz.prog 55 #[.string a0] w fun e w' => e = .returned (.bool r) ∧ fG w w' := by
 obtain ⟨k, hk⟩ := wR.ev a0 _ h
 exact y8.calls k a0 r w hk
theorem Cv {P : Program} {pre rest : Code} (l : Nat) {Q : Exit → Act → World → Prop} {a : Act} {w : World} (J : Act → World → Prop) (μ : Act → World → Nat)
 (hf : findLabel pre l = none)
 (start : ∀ K : Act → World → Prop, (∀ a w, J a w → K a w) → pre.wp P (Exit.then K (fun _ _ _ => False)) a w)
 (pass : ∀ a w, J a w → rest.wp P (Exit.jump l (fun a' w' => J a' w' ∧ μ a' w' < μ a w) Q) a w) : (Code.scope (pre.seq ((Code.label l).seq rest))).wp P Q a w := by
 refine wp_scope_jumps (rest := Code.skip.seq rest) l J μ (by simp [findLabel, hf]) ?_ (fun a w hJ => wp_seq (wp_skip (pass a w hJ)))
 refine wp_seq ?_
 refine Code.wp_mono ?_ (start (((Code.label l).seq rest).wp P (Exit.jump l J Q)) ?_)
 · intro e a w h
   cases e with
   | normal => exact h
   | _ => exact h.elim
 · intro a w hJ
   refine wp_seq (wp_label ?_)
   refine Code.wp_mono ?_ (pass a w hJ)
   intro e a1 w1 he
   cases e with
   | goto l => exact ⟨he.1, he.2.1⟩
   | _ => exact he
def lT.f (a0 : ByteArray) : Option (Int × Int × Int) := some ((eD a0).1, (eD a0).2.1, (eD a0).2.2)
structure lT.J (s : ByteArray) (r : Nat × Nat × Nat) (w : World) (n v : Nat) (w' : World) : Prop where
 n9 : n ≤ 9
 nle : n ≤ s.size
 vlt : v < 128 ^ n
 eq : sM ((ns s).drop n) n v = r
 dr : fG w w'
def lT.Rel (s : ByteArray) (w : World) (a' : Act) (w' : World) : Prop := ∃ (n v : Nat) (u7 u8 u9 WJ WK WL WM WN WO u16 WQ WR WS u20 u21 u22 u23 u24 u25 u26 u27 u28 u29 u30 u31 u32 u33 u34 : Value),
 a' = { tmps := #[.string s, undef, .int .u64 0, .int .i64 0, .int .i64 0, .int .u64 v, .int .i64 n, u7, u8, u9, WJ, WK, WL, WM, WN, WO, u16, WQ, WR, WS, u20, u21, u22, u23, u24, u25, u26, u27, u28, u29, u30, u31, u32, u33, u34], defers := [] } ∧ lT.J s (eD s) w n v w'
theorem lT.calls (a0 : ByteArray) (r1 r2 r3 : Int) (w : World) (h : lT.f a0 = some (r1, r2, r3)) :
 Calls Tryz.prog 97 #[.string a0] w fun e w' => e = .returned (.tuple #[.int .u64 r1, .int .i64 r2, .int .i64 r3]) ∧ fG w w' := by
 have HE : aC (((eD a0).1 : Int) = r1 ∧ ((eD a0).2.1 : Int) = r2 ∧ ((eD a0).2.2 : Int) = r3) := by
  unfold lT.f at h
  simp only [Option.some.injEq, Prod.mk.injEq] at h
  exact ⟨h⟩
 clear h
 go_enter Tryz.func97, Tryz.ntmps97
 go_wp2
 refine Cv 0 (lT.Rel a0 w) (fun a' _ => match a'.tmps.getD 6 undef with | .int _ q => 10 - q.toNat | _ => 0) rfl ?_ ?_
 · intro K hK
   have HK := aC.mk hK
   clear hK
   go_wp2
   refine HK.out _ _ ⟨0, 0, _, _, _, _, _, _, _, _, _, _, _, _, _, _, _, _, _, _, _, _, _, _, _, _, _, _, _, _, rfl, ⟨by omega, by omega, by decide, rfl, fG.refl _⟩⟩
 rintro a' w' ⟨n, v, u7, u8, u9, WJ, WK, WL, WM, WN, WO, u16, WQ, WR, WS, u20, u21, u22, u23, u24, u25, u26, u27, u28, u29, u30, u31, u32, u33, u34, rfl, hJ⟩
 have hn9 := hJ.n9
 have hdr := hJ.dr
 have HJ : aC (lT.J a0 (eD a0) w n v w') := ⟨hJ⟩
 have HV : aC (v < 128 ^ n ∧ sM ((ns a0).drop n) n v = eD a0) := ⟨hJ.vlt, hJ.eq⟩
 have Ot := hJ.nle
 clear hJ
 rcases Nat.lt_or_ge n a0.size with hlt | hge
 · have hb0 : ((n : Int) == (a0.size : Int)) = false := by simp; omega
   have h7 : 0 ≤ 7 * (n : Int) := by omega
   have hw7 : wrap64 (7 * (n : Int)) = 7 * (n : Int) := by unfold wrap64; omega
   have HR : aC (sM ((ns a0).drop n) n v = eD a0) := ⟨HV.out.2⟩
   have Nf := LJ a0 n hlt
   have HR : aC (sM (a0[n].toNat :: (ns a0).drop (n + 1)) n v = eD a0) := ⟨Nf ▸ HV.out.2⟩
   clear Nf
   by_cases h9 : n = 9 ∧ 1 < a0[n].toNat
   · obtain ⟨h9, hc⟩ := h9
     have KR : ((n : Int) == 9) = true := by simp; omega
     have HQ : aC (eD a0 = (0, 0, 2)) := ⟨by rw [← HR.out, sM, ip ⟨h9, hc⟩]⟩
     have hc' : decide ((1 : Int) < (a0[n].toNat : Int)) = true := by simp; omega
     clear h9 hc
     go_wp2
     simp only [Exit.jump]
     go_ret3
     obtain ⟨e1, e2, e3⟩ := HE.out
     rw [HQ.out] at e1 e2 e3
     subst e1 e2 e3
     exact ⟨rfl, hdr⟩
   · have HO := aC.mk (aCx v a0[n].toNat n HV.out.1 hn9 (by omega))
     have HS : aC ((if a0[n].toNat < 128 then (v + a0[n].toNat * 128 ^ n, n + 1, 0) else sM ((ns a0).drop (n + 1)) (n + 1) (v + (a0[n].toNat % 128) * 128 ^ n)) = eD a0) := ⟨by rw [← XI (by omega)]; exact HR.out⟩
     have Ar : ((n : Int) == 9) = true → decide ((1 : Int) < (a0[n].toNat : Int)) = false := by simp; omega
     have Qj : aC (a0[n].toNat ≥ 128 → n < 9 ∧ v + a0[n].toNat % 128 * 128 ^ n < 128 ^ (n + 1)) := ⟨fun hge => by
      have := HV.out.1
      refine ⟨by omega, ?_⟩
      have h1 : a0[n].toNat % 128 * 128 ^ n ≤ 127 * 128 ^ n := Nat.mul_le_mul_right _ (by omega)
      rw [Nat.pow_succ]; omega⟩
     have Hc9 := aC.mk Ar
     clear h9 Ar
     by_cases hcl : a0[n].toNat < 128
     · have hcl' : decide ((128 : Int) ≤ (a0[n].toNat : Int)) = false := by simp; omega
       have HQ : aC (eD a0 = (v + a0[n].toNat * 128 ^ n, n + 1, 0)) := ⟨by rw [← HS.out, ip hcl]⟩
       have HM : aC (a0[n].toNat % 128 = a0[n].toNat) := ⟨Nat.mod_eq_of_lt hcl⟩
       clear hcl
       cases KR : ((n : Int) == 9)
       · go_wp2
         simp only [Exit.jump]
         go_ret3
         refine ⟨?_, hdr⟩
         obtain ⟨e1, e2, e3⟩ := HE.out
         rw [HQ.out] at e1 e2 e3
         subst e1 e2 e3
         have := HO.out
         rw [HM.out] at this
         rw [this]
         rfl
       · have Ar := Hc9.out KR
         go_wp2
         simp only [Exit.jump]
         go_ret3
         refine ⟨?_, hdr⟩
         obtain ⟨e1, e2, e3⟩ := HE.out
         rw [HQ.out] at e1 e2 e3
         subst e1 e2 e3
         have := HO.out
         rw [HM.out] at this
         rw [this]
         rfl
     · have hcl' : decide ((128 : Int) ≤ (a0[n].toNat : Int)) = true := by simp; omega
       have KR : ((n : Int) == 9) = false := by have := (Qj.out (by omega)).1; simp; omega
       have HN : aC (n < 9 ∧ v + a0[n].toNat % 128 * 128 ^ n < 128 ^ (n + 1)) := ⟨Qj.out (by omega)⟩
       have HT : aC (sM ((ns a0).drop (n + 1)) (n + 1) (v + (a0[n].toNat % 128) * 128 ^ n) = eD a0) := ⟨by rw [← HS.out, iN hcl]⟩
       clear hcl
       go_wp2
       go_step3
       rw [HO.out]
       refine ⟨rfl, ⟨n + 1, _, _, _, _, _, _, _, _, _, _, _, _, _, _, _, _, _, _, _, _, _, _, _, _, _, _, _, _, _, by rfl, ⟨by have := HN.out.1; omega, by omega, HN.out.2, HT.out, hdr⟩⟩, ?_⟩
       have := HN.out.1
       simp
       omega
 · have hb0 : ((n : Int) == (a0.size : Int)) = true := by simp; omega
   have HQ : aC (eD a0 = (0, 0, 1)) := ⟨by rw [← HV.out.2, NK _ _ hge, sM]⟩
   go_wp2
   simp only [Exit.jump]
   go_ret3
   obtain ⟨e1, e2, e3⟩ := HE.out
   rw [HQ.out] at e1 e2 e3
   subst e1 e2 e3
   exact ⟨rfl, hdr⟩
def DW.f (a0 : Int) (a1 : Int) : Option (Bool) := if a0 ≥ 1 then (if a0 ≤ 536870911 then (if a1 = 0 then (some true) else (if a1 = 1 then (some true) else (if a1 = 2 then (some true) else (some (a1 == 5))))) else (some false)) else (some false)
theorem DW.calls (a0 : Int) (a1 : Int) (r : Bool) (w : World) (h : DW.f a0 a1 = some r) :
 Calls Tryz.prog 93 #[.int .u64 a0, .int .u64 a1] w fun e w' => e = .returned (.bool r) ∧ fG w w' := by
 have H : (if a0 ≥ 1 then (if a0 ≤ 536870911 then (if a1 = 0 then (some true) else (if a1 = 1 then (some true) else (if a1 = 2 then (some true) else (some (a1 == 5))))) else (some false)) else (some false)) = some r := h; clear h
 by_cases c3 : a0 ≥ 1
 · rw [ip c3] at H
   have gL := dT c3; clear c3
   by_cases c4 : a0 ≤ 536870911
   · rw [ip c4] at H
     have fP := dT c4; clear c4
     by_cases c5 : a1 = 0
     · rw [ip c5] at H
       obtain ⟨iH, lF⟩ := dH c5; clear c5; obtain rfl := Option.some.inj H
       go_enter Tryz.func93, Tryz.ntmps93
       go_wp2
       go_ret
       exact dW
     · rw [iN c5] at H
       have iH := beq_eq_false_iff_ne.mpr c5; have lF := bne_iff_ne.mpr c5
       by_cases c6 : a1 = 1
       · rw [ip c6] at H
         obtain ⟨kP, wD⟩ := dH c6; clear c6; obtain rfl := Option.some.inj H
         go_enter Tryz.func93, Tryz.ntmps93
         go_wp2
         go_ret
         exact dW
       · rw [iN c6] at H
         have kP := beq_eq_false_iff_ne.mpr c6; have wD := bne_iff_ne.mpr c6
         by_cases c7 : a1 = 2
         · rw [ip c7] at H
           obtain ⟨nA, zP⟩ := dH c7; clear c7; obtain rfl := Option.some.inj H
           go_enter Tryz.func93, Tryz.ntmps93
           go_wp2
           go_ret
           exact dW
         · rw [iN c7] at H
           have nA := beq_eq_false_iff_ne.mpr c7; have zP := bne_iff_ne.mpr c7; obtain rfl := Option.some.inj H
           go_enter Tryz.func93, Tryz.ntmps93
           go_wp2
           go_ret
           exact dW
   · rw [iN c4] at H
     have fP := dF c4; clear c4; obtain rfl := Option.some.inj H
     go_enter Tryz.func93, Tryz.ntmps93
     go_wp2
     go_ret
     exact dW
 · rw [iN c3] at H
   have gL := dF c3; clear c3; obtain rfl := Option.some.inj H
   go_enter Tryz.func93, Tryz.ntmps93
   go_wp2
   go_ret
   exact dW
def wZ.l0 : Nat → ByteArray → Int → Int → Int → Option (Int)
 | 0, _, _, _, _ => none
 | k + 1, x0, x3, x6, x7 => if x7 < x6 then (if 0 ≤ x7 then (if x7 < (x0.size : Int) then (if 0 ≤ (wrap64 (8 * x7)) then (wZ.l0 k x0 (Go.bits .or .u64 x3 (shl .u64 (IntKind.u64.wrap (bt x0 x7)) (wrap64 (8 * x7)))) x6 (wrap64 (x7 + 1))) else (none)) else (none)) else (none)) else (some x3)
def wZ.f (k : Nat) (a0 : ByteArray) : Option (Int) := wZ.l0 k a0 0 (a0.size : Int) 0
theorem wZ.calls (k : Nat) (a0 : ByteArray) (r : Int) (w : World) (h : wZ.f k a0 = some r) :
 Calls Tryz.prog 100 #[.string a0] w fun e w' => e = .returned (.int .u64 r) ∧ fG w w' := by
 have H : (wZ.l0 k a0 0 (a0.size : Int) 0) = some r := h; clear h; have H' := aA H; clear H
 go_enter Tryz.func100, Tryz.ntmps100
 go_wp2
 go_loopg [3, 7] k (fun kq v3 v7 w' => ∃ (eG : Int) (aH : Int), v3 = .int .u64 eG ∧ v7 = .int .i64 aH ∧ aC (wZ.l0 kq a0 eG (a0.size : Int) aH = some r) ∧ aC (kq ≤ k) ∧ fG w w')
 case atStart => exact ⟨(0), (0), aZ, aZ, H', ⟨Nat.le_refl _⟩, dr⟩
 case round =>
  clear H'; obtain ⟨eG, aH, rfl, rfl, HA, bD, ⟨m1, rfl⟩⟩ := hrel
  cases gk with
  | zero => exact absurd HA.out (by simp [wZ.l0])
  | succ k1 =>
   have H := HA.out; clear HA
   simp only [wZ.l0] at H
   by_cases c2 : aH < (a0.size : Int)
   · rw [ip c2] at H
     have iZ := dT c2; clear c2
     by_cases c3 : 0 ≤ aH
     · rw [ip c3] at H
       have gL := dT c3; clear c3
       by_cases c4 : aH < (a0.size : Int)
       · rw [ip c4] at H
         have fP := dT c4; clear c4; obtain ⟨yP, MB⟩ : ∃ j_ : Int, (wrap64 (8 * aH)) = j_ := ⟨_, rfl⟩; replace H : (if 0 ≤ (yP) then (wZ.l0 k1 a0 (Go.bits .or .u64 eG (shl .u64 (IntKind.u64.wrap (bt a0 aH)) (yP))) (a0.size : Int) (wrap64 (aH + 1))) else (none)) = some r := by first | (rw [MB] at H; exact H) | (simp only [MB] at H ⊢; exact H)
         have aHJ : (IntKind.i64.wrap (8 * aH)) = yP := (dC _).trans MB
         by_cases c7 : 0 ≤ (yP)
         · rw [ip c7] at H
           have nA := eT c7; have zP := dT c7; clear c7; obtain ⟨_j, U4⟩ : ∃ j_ : Int, (shl .u64 (IntKind.u64.wrap (bt a0 aH)) (yP)) = j_ := ⟨_, rfl⟩; replace H : (wZ.l0 k1 a0 (Go.bits .or .u64 eG (_j)) (a0.size : Int) (wrap64 (aH + 1))) = some r := by first | (rw [U4] at H; exact H) | (simp only [U4] at H ⊢; exact H)
           have aHL : (IntKind.u64.wrap ((IntKind.u64.wrap (bt a0 aH)) * 2 ^ min (yP).toNat 64)) = _j := U4; have aHM : (yP) ≤ 64 → (IntKind.u64.wrap ((IntKind.u64.wrap (bt a0 aH)) * 2 ^ (yP).toNat)) = _j := Zm U4; have H' := aA H; clear H; have p5 : 0 ≤ (aH : Int) := aK; have q5 : aH < (a0.size : Int) := aK; have hx5 := fE a0 aH; replace p5 := eT p5; replace q5 := eT q5
           go_wp2
           go_roundg k1
           case measure => have := bD.out; omega
           case rel => exact ⟨(Go.bits .or .u64 eG (_j)), (wrap64 (aH + 1)), (by first | rfl | (simp; done) | (simp only [← U4] <;> (first | rfl | simp)) | (simp [*]; done)), aZ, H', iK bD, dr⟩
         · rw [iN c7] at H; exact uD H
       · rw [iN c4] at H; exact uD H
     · rw [iN c3] at H; exact uD H
   · rw [iN c2] at H
     have iZ := dF c2; clear c2; obtain rfl := Option.some.inj H
     go_wp2
     go_ret
     exact dW
def y7.f (a0 : ByteArray) : Option Int := if a0.size ≤ 8 then some ((o8 (ns a0) : Nat) : Int) else none
theorem Tv (s : ByteArray) (hs : s.size ≤ 8) (d : Nat) : ∀ (k i : Nat), s.size - i = d → i ≤ s.size → d < k →
 wZ.l0 k s (o8 ((ns s).take i) : Nat) (s.size : Int) (i : Int) = some ((o8 (ns s) : Nat) : Int) := by
 induction d with
 | zero =>
  intro k i hd hi hk
  obtain ⟨k, rfl⟩ : ∃ m, k = m + 1 := ⟨k - 1, by omega⟩
  simp only [wZ.l0]
  rw [iN (by omega), List.take_of_length_le (by rw [vG]; omega)]
 | succ d ih =>
  intro k i hd hi hk
  obtain ⟨k, rfl⟩ : ∃ m, k = m + 1 := ⟨k - 1, by omega⟩
  have hlt : i < s.size := by omega
  have hb : bt s (i : Int) = ((s[i]'hlt).toNat : Int) := BA s i hlt
  have hl : ((ns s).take i).length = i := by rw [List.length_take, vG]; omega
  have hv : o8 ((ns s).take i) < 256 ^ i := by
   have := Ko ((ns s).take i) (fun c hc => oz s c (List.mem_of_mem_take hc))
   rwa [hl] at this
  have ht : (ns s).take (i + 1) = (ns s).take i ++ [(s[i]'hlt).toNat] := by
   rw [List.take_succ_eq_append_getElem (by rw [vG]; exact hlt), QB s i hlt]
  simp only [wZ.l0]
  rw [ip (by omega), ip (by omega), ip (by omega), ip (by rw [fC (by omega) (by omega)]; omega), hb, Tw _ _ i hv (by omega) (s[i]'hlt).toNat_lt]
  have := ih k (i + 1) (by omega) (by omega) (by omega)
  rw [ht, Zd, hl] at this
  rw [fC (by omega) (by omega)]
  exact this
theorem y7.ev (a0 : ByteArray) (r) (h : y7.f a0 = some r) : ∃ k, wZ.f k a0 = some r := by
 unfold y7.f at h
 split at h
 · rename_i hs
   exact ⟨a0.size + 1, (Tv a0 hs a0.size (a0.size + 1) 0 (by omega) (by omega) (by omega)).trans h⟩
 · cases h
theorem y7.calls (a0 : ByteArray) (r : Int) (w : World) (h : y7.f a0 = some r) :
 Calls Tryz.prog 100 #[.string a0] w fun e w' => e = .returned (.int .u64 r) ∧ fG w w' := by
 obtain ⟨k, hk⟩ := y7.ev a0 _ h
 exact wZ.calls k a0 r w hk
def rP.j0 : Nat → ByteArray → Int → Int → Int → Bool → Int → Int → Int → ByteArray → Option (Int × Int × Int × ByteArray × Int × Int)
 | 0, _, _, _, _, _, _, _, _, _ => none
 | k + 1, x0, x6, x9, x40, x41, YS, TV, aCF, je => if x41 = true then (if 0 ≤ x6 then (if x6 ≤ (x0.size : Int) then ((lT.f (x0.extract (x6 : Int).toNat x0.size)).bind fun lQ => (if lQ.2.2 = 0 then (if TV = 0 then (some (YS, TV, lQ.1, je, wrap64 (x6 + lQ.2.1), 0)) else (if lQ.1 > (IntKind.u64.wrap (wrap64 ((x0.size : Int) - (wrap64 (x6 + lQ.2.1))))) then (some (0, 0, 0, (⟨#[]⟩ : ByteArray), 0, 1)) else (if 0 ≤ (wrap64 (x6 + lQ.2.1)) then (if (wrap64 (x6 + lQ.2.1)) ≤ (wrap64 ((wrap64 (x6 + lQ.2.1)) + (wrap64 (lQ.1)))) then (if (wrap64 ((wrap64 (x6 + lQ.2.1)) + (wrap64 (lQ.1)))) ≤ (x0.size : Int) then (some (YS, TV, aCF, x0.extract ((wrap64 (x6 + lQ.2.1)) : Int).toNat ((wrap64 ((wrap64 (x6 + lQ.2.1)) + (wrap64 (lQ.1)))) : Int).toNat, wrap64 ((wrap64 (x6 + lQ.2.1)) + (wrap64 (lQ.1))), 0)) else (none)) else (none)) else (none)))) else (some (0, 0, 0, (⟨#[]⟩ : ByteArray), 0, lQ.2.2)))) else (none)) else (none)) else (if x40 = 5 then (if (wrap64 ((x0.size : Int) - x6)) < 4 then (some (0, 0, 0, (⟨#[]⟩ : ByteArray), 0, 1)) else (if 0 ≤ x6 then (if x6 ≤ (wrap64 (x6 + 4)) then (if (wrap64 (x6 + 4)) ≤ (x0.size : Int) then ((y7.f (x0.extract (x6 : Int).toNat ((wrap64 (x6 + 4)) : Int).toNat)).bind fun t110 => (some (YS, TV, t110, je, wrap64 (x6 + 4), 0))) else (none)) else (none)) else (none))) else (if (wrap64 ((x0.size : Int) - x6)) < x9 then (some (0, 0, 0, (⟨#[]⟩ : ByteArray), 0, 1)) else (if 0 ≤ x6 then (if x6 ≤ (wrap64 (x6 + x9)) then (if (wrap64 (x6 + x9)) ≤ (x0.size : Int) then ((y7.f (x0.extract (x6 : Int).toNat ((wrap64 (x6 + x9)) : Int).toNat)).bind fun t111 => (some (YS, TV, t111, je, wrap64 (x6 + x9), 0))) else (none)) else (none)) else (none))))
def rP.f (k : Nat) (a0 : ByteArray) : Option (Int × Int × Int × ByteArray × Int × Int) := (lT.f a0).bind fun kJ => (if kJ.2.2 = 0 then ((DW.f (kJ.1 / 8) (Go.bits .and .u64 kJ.1 7)).bind fun t105 => (if t105 = true then (if (wrap64 (Go.bits .and .u64 kJ.1 7)) = 0 then (rP.j0 k a0 kJ.2.1 8 (wrap64 (Go.bits .and .u64 kJ.1 7)) ((wrap64 (Go.bits .and .u64 kJ.1 7)) == 0) (wrap64 (kJ.1 / 8)) (wrap64 (Go.bits .and .u64 kJ.1 7)) 0 (⟨#[]⟩ : ByteArray)) else (rP.j0 k a0 kJ.2.1 8 (wrap64 (Go.bits .and .u64 kJ.1 7)) ((wrap64 (Go.bits .and .u64 kJ.1 7)) == 2) (wrap64 (kJ.1 / 8)) (wrap64 (Go.bits .and .u64 kJ.1 7)) 0 (⟨#[]⟩ : ByteArray))) else (some (0, 0, 0, (⟨#[]⟩ : ByteArray), 0, 3)))) else (some (0, 0, 0, (⟨#[]⟩ : ByteArray), 0, kJ.2.2)))
theorem rP.calls (k : Nat) (a0 : ByteArray) (r1 : Int) (r2 : Int) (r3 : Int) (r4 : ByteArray) (r5 : Int) (r6 : Int) (w : World) (h : rP.f k a0 = some (r1, r2, r3, r4, r5, r6)) :
 Calls Tryz.prog 88 #[.string a0] w fun e w' => e = .returned (.tuple #[.agg #[.int .i64 r1, .int .i64 r2, .int .u64 r3, .string r4], .int .i64 r5, .int .i64 r6]) ∧ Below w.heap.size w w' := by
 have EB := Tryz.underlying95; have HB := aA (Below.refl w.heap.size w); have H : ((lT.f a0).bind fun kJ => (if kJ.2.2 = 0 then ((DW.f (kJ.1 / 8) (Go.bits .and .u64 kJ.1 7)).bind fun t105 => (if t105 = true then (if (wrap64 (Go.bits .and .u64 kJ.1 7)) = 0 then (rP.j0 k a0 kJ.2.1 8 (wrap64 (Go.bits .and .u64 kJ.1 7)) ((wrap64 (Go.bits .and .u64 kJ.1 7)) == 0) (wrap64 (kJ.1 / 8)) (wrap64 (Go.bits .and .u64 kJ.1 7)) 0 (⟨#[]⟩ : ByteArray)) else (rP.j0 k a0 kJ.2.1 8 (wrap64 (Go.bits .and .u64 kJ.1 7)) ((wrap64 (Go.bits .and .u64 kJ.1 7)) == 2) (wrap64 (kJ.1 / 8)) (wrap64 (Go.bits .and .u64 kJ.1 7)) 0 (⟨#[]⟩ : ByteArray))) else (some (0, 0, 0, (⟨#[]⟩ : ByteArray), 0, 3)))) else (some (0, 0, 0, (⟨#[]⟩ : ByteArray), 0, kJ.2.2)))) = some (r1, r2, r3, r4, r5, r6) := h; clear h; replace H := Option.bind_eq_some_iff.mp H; obtain ⟨⟨t102, t103, t104⟩, I6, H⟩ := H; replace H : (if t104 = 0 then ((DW.f (t102 / 8) (Go.bits .and .u64 t102 7)).bind fun t105 => (if t105 = true then (if (wrap64 (Go.bits .and .u64 t102 7)) = 0 then (rP.j0 k a0 t103 8 (wrap64 (Go.bits .and .u64 t102 7)) ((wrap64 (Go.bits .and .u64 t102 7)) == 0) (wrap64 (t102 / 8)) (wrap64 (Go.bits .and .u64 t102 7)) 0 (⟨#[]⟩ : ByteArray)) else (rP.j0 k a0 t103 8 (wrap64 (Go.bits .and .u64 t102 7)) ((wrap64 (Go.bits .and .u64 t102 7)) == 2) (wrap64 (t102 / 8)) (wrap64 (Go.bits .and .u64 t102 7)) 0 (⟨#[]⟩ : ByteArray))) else (some (0, 0, 0, (⟨#[]⟩ : ByteArray), 0, 3)))) else (some (0, 0, 0, (⟨#[]⟩ : ByteArray), 0, t104))) = some (r1, r2, r3, r4, r5, r6) := H; have A2 := aA I6; clear I6
 by_cases c3 : t104 = 0
 ·
  rw [ip c3] at H; obtain ⟨gL, rW⟩ := dH c3; clear c3; replace H := bnd H; obtain ⟨t105, A4, H⟩ := H
  by_cases c5 : t105 = true
  ·
   subst c5; have H1 : (if (wrap64 (Go.bits .and .u64 t102 7)) = 0 then (rP.j0 k a0 t103 8 (wrap64 (Go.bits .and .u64 t102 7)) ((wrap64 (Go.bits .and .u64 t102 7)) == 0) (wrap64 (t102 / 8)) (wrap64 (Go.bits .and .u64 t102 7)) 0 (⟨#[]⟩ : ByteArray)) else (rP.j0 k a0 t103 8 (wrap64 (Go.bits .and .u64 t102 7)) ((wrap64 (Go.bits .and .u64 t102 7)) == 2) (wrap64 (t102 / 8)) (wrap64 (Go.bits .and .u64 t102 7)) 0 (⟨#[]⟩ : ByteArray))) = some (r1, r2, r3, r4, r5, r6) := by rw [ip rfl] at H; exact H
   clear H; have H := H1; clear H1; have OP := aA H; clear H
   go_enter Tryz.func88, Tryz.ntmps88
   go_upto_if 41 with (first | ((with_reducible refine cK (N := 2) rfl ?_); refine dB (N := 2) (cs := #[.int .i64 0, .int .i64 0, .int .u64 0, .string ⟨#[]⟩]) (t := 95) ?_; intro dG hg w7 aG hb; have aD := aA aG; have lV := bB HB hg; have lU := bB HB hg; replace HB := hbS HB hb; clear hb aG hg) | ((with_reducible refine dJ (f := 97) rfl ?_); refine dV (some 15) rfl rfl Tryz.func97 (by kernel_rfl) rfl #[.string a0] rfl ?_; (with_reducible refine (lT.calls a0 t102 t103 t104 _ A2.out).mono ?_); rintro e w' ⟨rfl, ⟨nd, rfl⟩⟩; refine ⟨_, rfl, ?_⟩; (try (rw [oW w7]; generalize dQ : World.drewN w7 _ = w7; have bI : aC (w7.heap[dG]? = some (.cells #[.int .i64 0, .int .i64 0, .int .u64 0, .string ⟨#[]⟩] 95 (0, 0))) := ⟨by rw [← dQ]; exact (fZ aD)⟩; have bV : aC (Below w.heap.size w w7) := ⟨by rw [← dQ]; exact (aJ HB)⟩; clear aD HB dQ; have aD := bI; have HB := bV; clear bI bV))) | ((with_reducible refine dJ (f := 93) rfl ?_); refine dV (some 29) rfl rfl Tryz.func93 (by kernel_rfl) rfl #[.int .u64 (t102 / 8), .int .u64 (Go.bits .and .u64 t102 7)] rfl ?_; (with_reducible refine (DW.calls (t102 / 8) (Go.bits .and .u64 t102 7) true _ A4.out).mono ?_); rintro e w' ⟨rfl, ⟨nd, rfl⟩⟩; refine ⟨_, rfl, ?_⟩; (try (rw [oW w7]; generalize dQ : World.drewN w7 _ = w7; have bI : aC (w7.heap[dG]? = some (.cells #[.int .i64 0, .int .i64 0, .int .u64 0, .string ⟨#[]⟩] 95 (0, 0))) := ⟨by rw [← dQ]; exact (fZ aD)⟩; have bV : aC (Below w.heap.size w w7) := ⟨by rw [← dQ]; exact (aJ HB)⟩; clear aD HB dQ; have aD := bI; have HB := bV; clear bI bV))) | ((with_reducible refine cK (N := 8) rfl ?_); refine dB (N := 8) (cs := #[.int .i64 0, .int .i64 0, .int .u64 0, .string ⟨#[]⟩]) (t := 95) ?_; intro FN hg w8 aG hb; have gX := aA aG; have Mf := bB HB hg; have Me := bB HB hg; replace HB := hbS HB hb; have AJ := cO aD hg; have AL := dD aD hg; replace aD := aI aD hb; clear hb aG hg; have aFg := AL.out; have aFh := AJ.out; obtain ⟨G8, G9, H6, H7⟩ := aN gX; have JN := fz gX 0; have JO := fz gX 1; have JP := fz gX 2; have JQ := eZ gX.out 3))
   (try simp only [Act.put, List.setIfInBounds_toArray, List.set_cons_zero, List.set_cons_succ])
   go_cut [41] (fun v41 wc => ∃ (kq : Nat) (ZV : Bool), v41 = .bool ZV ∧ aC (rP.j0 kq a0 t103 8 (wrap64 (Go.bits .and .u64 t102 7)) ZV (wrap64 (t102 / 8)) (wrap64 (Go.bits .and .u64 t102 7)) 0 (⟨#[]⟩ : ByteArray) = some (r1, r2, r3, r4, r5, r6)) ∧ aC (kq ≤ k) ∧ aC (wc.heap[dG]? = some (.cells #[.int .i64 0, .int .i64 0, .int .u64 0, .string ⟨#[]⟩] 95 (0, 0))) ∧ aC (wc.heap[FN]? = some (.cells #[.int .i64 (wrap64 (t102 / 8)), .int .i64 (wrap64 (Go.bits .and .u64 t102 7)), .int .u64 0, .string ⟨#[]⟩] 95 (0, 0))) ∧ aC (Below w.heap.size w wc))
   case first =>
    have H := OP.out; clear OP
    by_cases c11 : (wrap64 (Go.bits .and .u64 t102 7)) = 0
    ·
     rw [ip c11] at H; obtain ⟨nJ, JZ⟩ := dH c11; clear c11
     (first | rw [nJ] | (simp only [dC, iC]; rw [nJ]) | skip)
     have H' := aA H; clear H
     go_wp2
     go_meet
     case rel => exact ⟨_, (((wrap64 (Go.bits .and .u64 t102 7)) == 0)), aZ, H', qX, ⟨aU aD⟩, ⟨aU gX⟩, ⟨aJ HB⟩⟩
    ·
     rw [iN c11] at H; have nJ := beq_eq_false_iff_ne.mpr c11; have JZ := bne_iff_ne.mpr c11
     (first | rw [nJ] | (simp only [dC, iC]; rw [nJ]) | skip)
     have H' := aA H; clear H
     go_wp2
     go_meet
     case rel => exact ⟨_, (((wrap64 (Go.bits .and .u64 t102 7)) == 2)), aZ, H', qX, ⟨aU aD⟩, ⟨aU gX⟩, ⟨aJ HB⟩⟩
   case rest =>
    clear OP; try clear c3; try clear gL; try clear rW; try clear c5; try clear G8; try clear G9; try clear H6; try clear H7; try clear JN; try clear JO; try clear JP; try clear JQ
    obtain ⟨kq, ZV, rfl, HA, EF, aD, gX, HB⟩ := hcut
    cases kq with
    | zero => exact absurd HA.out (by simp [rP.j0])
    | succ _k =>
     have H := HA.out; clear HA
     simp only [rP.j0] at H
     by_cases c12 : ZV = true
     ·
      subst c12; have H1 : (if 0 ≤ t103 then (if t103 ≤ (a0.size : Int) then ((lT.f (a0.extract (t103 : Int).toNat a0.size)).bind fun lQ => (if lQ.2.2 = 0 then (if (wrap64 (Go.bits .and .u64 t102 7)) = 0 then (some ((wrap64 (t102 / 8)), (wrap64 (Go.bits .and .u64 t102 7)), lQ.1, (⟨#[]⟩ : ByteArray), wrap64 (t103 + lQ.2.1), 0)) else (if lQ.1 > (IntKind.u64.wrap (wrap64 ((a0.size : Int) - (wrap64 (t103 + lQ.2.1))))) then (some (0, 0, 0, (⟨#[]⟩ : ByteArray), 0, 1)) else (if 0 ≤ (wrap64 (t103 + lQ.2.1)) then (if (wrap64 (t103 + lQ.2.1)) ≤ (wrap64 ((wrap64 (t103 + lQ.2.1)) + (wrap64 (lQ.1)))) then (if (wrap64 ((wrap64 (t103 + lQ.2.1)) + (wrap64 (lQ.1)))) ≤ (a0.size : Int) then (some ((wrap64 (t102 / 8)), (wrap64 (Go.bits .and .u64 t102 7)), 0, a0.extract ((wrap64 (t103 + lQ.2.1)) : Int).toNat ((wrap64 ((wrap64 (t103 + lQ.2.1)) + (wrap64 (lQ.1)))) : Int).toNat, wrap64 ((wrap64 (t103 + lQ.2.1)) + (wrap64 (lQ.1))), 0)) else (none)) else (none)) else (none)))) else (some (0, 0, 0, (⟨#[]⟩ : ByteArray), 0, lQ.2.2)))) else (none)) else (none)) = some (r1, r2, r3, r4, r5, r6) := by rw [ip rfl] at H; exact H
      clear H; have H := H1; clear H1; replace H := dU H; obtain ⟨c13, H⟩ := H; have vU := eT c13; have OB := dT c13; clear c13; replace H := dU H; obtain ⟨c14, H⟩ := H; have yB := eT c14; have QH := dT c14; clear c14; replace H := Option.bind_eq_some_iff.mp H; obtain ⟨⟨t107, t108, t109⟩, Nz, H⟩ := H; replace H : (if t109 = 0 then (if (wrap64 (Go.bits .and .u64 t102 7)) = 0 then (some ((wrap64 (t102 / 8)), (wrap64 (Go.bits .and .u64 t102 7)), t107, (⟨#[]⟩ : ByteArray), wrap64 (t103 + t108), 0)) else (if t107 > (IntKind.u64.wrap (wrap64 ((a0.size : Int) - (wrap64 (t103 + t108))))) then (some (0, 0, 0, (⟨#[]⟩ : ByteArray), 0, 1)) else (if 0 ≤ (wrap64 (t103 + t108)) then (if (wrap64 (t103 + t108)) ≤ (wrap64 ((wrap64 (t103 + t108)) + (wrap64 (t107)))) then (if (wrap64 ((wrap64 (t103 + t108)) + (wrap64 (t107)))) ≤ (a0.size : Int) then (some ((wrap64 (t102 / 8)), (wrap64 (Go.bits .and .u64 t102 7)), 0, a0.extract ((wrap64 (t103 + t108)) : Int).toNat ((wrap64 ((wrap64 (t103 + t108)) + (wrap64 (t107)))) : Int).toNat, wrap64 ((wrap64 (t103 + t108)) + (wrap64 (t107))), 0)) else (none)) else (none)) else (none)))) else (some (0, 0, 0, (⟨#[]⟩ : ByteArray), 0, t109))) = some (r1, r2, r3, r4, r5, r6) := H; have VE := aA Nz; clear Nz
      by_cases c16 : t109 = 0
      ·
       rw [ip c16] at H; obtain ⟨FE, QI⟩ := dH c16; clear c16
       by_cases c17 : (wrap64 (Go.bits .and .u64 t102 7)) = 0
       ·
        rw [ip c17] at H; obtain ⟨J2, QJ⟩ := dH c17; clear c17
        simp only [Option.some.injEq, Prod.mk.injEq] at H
        obtain ⟨rfl, rfl, rfl, rfl, rfl, rfl⟩ := H
        go_wp2_with (first | ((with_reducible refine dJ (f := 97) rfl ?_); refine dV (some 48) rfl rfl Tryz.func97 (by kernel_rfl) rfl #[.string (a0.extract (t103 : Int).toNat a0.size)] rfl ?_; (with_reducible refine (lT.calls (a0.extract (t103 : Int).toNat a0.size) t107 t108 t109 _ VE.out).mono ?_); rintro e w' ⟨rfl, ⟨nd, rfl⟩⟩; refine ⟨_, rfl, ?_⟩; (try (rw [oW wc]; generalize dQ : World.drewN wc _ = wc; have bI : aC (wc.heap[dG]? = some (.cells #[.int .i64 0, .int .i64 0, .int .u64 0, .string ⟨#[]⟩] 95 (0, 0))) := ⟨by rw [← dQ]; exact (fZ aD)⟩; have bV : aC (wc.heap[FN]? = some (.cells #[.int .i64 (wrap64 (t102 / 8)), .int .i64 (wrap64 (Go.bits .and .u64 t102 7)), .int .u64 0, .string ⟨#[]⟩] 95 (0, 0))) := ⟨by rw [← dQ]; exact (fZ gX)⟩; have gB : aC (Below w.heap.size w wc) := ⟨by rw [← dQ]; exact (aJ HB)⟩; clear aD gX HB dQ; have aD := bI; have gX := bV; have HB := gB; clear bI bV gB)); have Ng := AL.out; have Ni := AJ.out; obtain ⟨YB, YC, YD, YE⟩ := aN gX; have YH := fz gX 0; have YI := fz gX 1; have YJ := fz gX 2; have YK := fz gX 3; obtain ⟨EU, EW, H8, IA⟩ := aN aD; have EX := fz aD 0; have EY := fz aD 1; have IB := fz aD 2; have IC := eZ aD.out 3))
        refine bodyPost_ret (wX rfl _ _ dG 95 #[.int .i64 (wrap64 (t102 / 8)), .int .i64 (wrap64 (Go.bits .and .u64 t102 7)), .int .u64 t107, .string ⟨#[]⟩] (0, 0) _ rfl (aU aD) Tryz.underlying95 rfl (by kernel_rfl)) rfl ?_
        exact ⟨eH, aJ HB⟩
       ·
        rw [iN c17] at H; have J2 := beq_eq_false_iff_ne.mpr c17; have QJ := bne_iff_ne.mpr c17
        by_cases c21 : t107 > (IntKind.u64.wrap (wrap64 ((a0.size : Int) - (wrap64 (t103 + t108)))))
        ·
         rw [ip c21] at H; have vV := dT c21; clear c21
         simp only [Option.some.injEq, Prod.mk.injEq] at H
         obtain ⟨rfl, rfl, rfl, rfl, rfl, rfl⟩ := H
         go_wp2_with (first | ((with_reducible refine dJ (f := 97) rfl ?_); refine dV (some 48) rfl rfl Tryz.func97 (by kernel_rfl) rfl #[.string (a0.extract (t103 : Int).toNat a0.size)] rfl ?_; (with_reducible refine (lT.calls (a0.extract (t103 : Int).toNat a0.size) t107 t108 t109 _ VE.out).mono ?_); rintro e w' ⟨rfl, ⟨nd, rfl⟩⟩; refine ⟨_, rfl, ?_⟩; (try (rw [oW wc]; generalize dQ : World.drewN wc _ = wc; have bI : aC (wc.heap[dG]? = some (.cells #[.int .i64 0, .int .i64 0, .int .u64 0, .string ⟨#[]⟩] 95 (0, 0))) := ⟨by rw [← dQ]; exact (fZ aD)⟩; have bV : aC (wc.heap[FN]? = some (.cells #[.int .i64 (wrap64 (t102 / 8)), .int .i64 (wrap64 (Go.bits .and .u64 t102 7)), .int .u64 0, .string ⟨#[]⟩] 95 (0, 0))) := ⟨by rw [← dQ]; exact (fZ gX)⟩; have gB : aC (Below w.heap.size w wc) := ⟨by rw [← dQ]; exact (aJ HB)⟩; clear aD gX HB dQ; have aD := bI; have gX := bV; have HB := gB; clear bI bV gB)); have aHQ := AL.out; have aH0 := AJ.out; obtain ⟨NP, NQ, NS, NT⟩ := aN gX; have PW := fz gX 0; have PX := fz gX 1; have PY := fz gX 2; have PZ := fz gX 3; obtain ⟨aBa, aBb, aBc, aBd⟩ := aN aD; have aGo := fz aD 0; have aGp := fz aD 1; have aGq := fz aD 2; have aBR := eZ aD.out 3))
         refine bodyPost_ret (wX rfl _ _ dG 95 #[.int .i64 0, .int .i64 0, .int .u64 0, .string ⟨#[]⟩] (0, 0) _ rfl (aU aD) Tryz.underlying95 rfl (by kernel_rfl)) rfl ?_
         exact ⟨eH, aJ HB⟩
        ·
         rw [iN c21] at H; have vV := dF c21; clear c21; obtain ⟨I4, QW⟩ : ∃ j_ : Int, (wrap64 (t103 + t108)) = j_ := ⟨_, rfl⟩; replace H : (if 0 ≤ (I4) then (if (I4) ≤ (wrap64 ((I4) + (wrap64 (t107)))) then (if (wrap64 ((I4) + (wrap64 (t107)))) ≤ (a0.size : Int) then (some ((wrap64 (t102 / 8)), (wrap64 (Go.bits .and .u64 t102 7)), 0, a0.extract ((I4) : Int).toNat ((wrap64 ((I4) + (wrap64 (t107)))) : Int).toNat, wrap64 ((I4) + (wrap64 (t107))), 0)) else (none)) else (none)) else (none)) = some (r1, r2, r3, r4, r5, r6) := by first | (rw [QW] at H; exact H) | (simp only [QW] at H ⊢; exact H)
         (try rw [QW] at vV)
         (try rw [QW] at VE)
         have aHs : (IntKind.i64.wrap (t103 + t108)) = I4 := (dC _).trans QW; replace H := dU H; obtain ⟨oQ, H⟩ := H; have FI := eT oQ; have ng := dT oQ; clear oQ; replace H := dU H; obtain ⟨qW, H⟩ := H; have QR := eT qW; have Mm := dT qW; replace H := dU H; obtain ⟨c28, H⟩ := H; have J3 := eT c28; have J4 := dT c28
         simp only [Option.some.injEq, Prod.mk.injEq] at H
         obtain ⟨rfl, rfl, rfl, rfl, rfl, rfl⟩ := H
         go_wp2_with (first | ((with_reducible refine dJ (f := 97) rfl ?_); refine dV (some 48) rfl rfl Tryz.func97 (by kernel_rfl) rfl #[.string (a0.extract (t103 : Int).toNat a0.size)] rfl ?_; (with_reducible refine (lT.calls (a0.extract (t103 : Int).toNat a0.size) t107 t108 t109 _ VE.out).mono ?_); rintro e w' ⟨rfl, ⟨nd, rfl⟩⟩; refine ⟨_, rfl, ?_⟩; (try (rw [oW wc]; generalize dQ : World.drewN wc _ = wc; have bI : aC (wc.heap[dG]? = some (.cells #[.int .i64 0, .int .i64 0, .int .u64 0, .string ⟨#[]⟩] 95 (0, 0))) := ⟨by rw [← dQ]; exact (fZ aD)⟩; have bV : aC (wc.heap[FN]? = some (.cells #[.int .i64 (wrap64 (t102 / 8)), .int .i64 (wrap64 (Go.bits .and .u64 t102 7)), .int .u64 0, .string ⟨#[]⟩] 95 (0, 0))) := ⟨by rw [← dQ]; exact (fZ gX)⟩; have gB : aC (Below w.heap.size w wc) := ⟨by rw [← dQ]; exact (aJ HB)⟩; clear aD gX HB dQ; have aD := bI; have gX := bV; have HB := gB; clear bI bV gB)); have aEj := AL.out; have aEk := AJ.out; obtain ⟨aBq, aBr, aBs, aBt⟩ := aN gX; have aB1 := fz gX 0; have aB2 := fz gX 1; have aB3 := fz gX 2; have aB4 := fz gX 3; obtain ⟨TE, TF, TG, TH⟩ := aN aD; have ic := fz aD 0; have ig := fz aD 1; have ik := fz aD 2; have il := eZ aD.out 3))
         refine bodyPost_ret (wX rfl _ _ dG 95 #[.int .i64 (wrap64 (t102 / 8)), .int .i64 (wrap64 (Go.bits .and .u64 t102 7)), .int .u64 0, .string (a0.extract ((I4) : Int).toNat ((wrap64 ((I4) + (wrap64 (t107)))) : Int).toNat)] (0, 0) _ rfl (aU aD) Tryz.underlying95 rfl (by kernel_rfl)) rfl ?_
         exact ⟨by first | rfl | (simp [nG, nH] <;> rfl) | (simp only [← QW]; first | rfl | (simp [nG, nH] <;> rfl)) | (simp [*, nG, nH] <;> rfl), aJ HB⟩
      ·
       rw [iN c16] at H; have FE := beq_eq_false_iff_ne.mpr c16; have QI := bne_iff_ne.mpr c16
       simp only [Option.some.injEq, Prod.mk.injEq] at H
       obtain ⟨rfl, rfl, rfl, rfl, rfl, rfl⟩ := H
       go_wp2_with (first | ((with_reducible refine dJ (f := 97) rfl ?_); refine dV (some 48) rfl rfl Tryz.func97 (by kernel_rfl) rfl #[.string (a0.extract (t103 : Int).toNat a0.size)] rfl ?_; (with_reducible refine (lT.calls (a0.extract (t103 : Int).toNat a0.size) t107 t108 t109 _ VE.out).mono ?_); rintro e w' ⟨rfl, ⟨nd, rfl⟩⟩; refine ⟨_, rfl, ?_⟩; (try (rw [oW wc]; generalize dQ : World.drewN wc _ = wc; have bI : aC (wc.heap[dG]? = some (.cells #[.int .i64 0, .int .i64 0, .int .u64 0, .string ⟨#[]⟩] 95 (0, 0))) := ⟨by rw [← dQ]; exact (fZ aD)⟩; have bV : aC (wc.heap[FN]? = some (.cells #[.int .i64 (wrap64 (t102 / 8)), .int .i64 (wrap64 (Go.bits .and .u64 t102 7)), .int .u64 0, .string ⟨#[]⟩] 95 (0, 0))) := ⟨by rw [← dQ]; exact (fZ gX)⟩; have gB : aC (Below w.heap.size w wc) := ⟨by rw [← dQ]; exact (aJ HB)⟩; clear aD gX HB dQ; have aD := bI; have gX := bV; have HB := gB; clear bI bV gB)); have Nh := AJ.out; have Nj := AL.out; obtain ⟨YF, YG, fo, fq⟩ := aN aD; have Jw := fz aD 0; have Jy := fz aD 1; have aB5 := fz aD 2; have aB6 := eZ aD.out 3))
       refine bodyPost_ret (wX rfl _ _ dG 95 #[.int .i64 0, .int .i64 0, .int .u64 0, .string ⟨#[]⟩] (0, 0) _ rfl (aU aD) Tryz.underlying95 rfl (by kernel_rfl)) rfl ?_
       exact ⟨eH, aJ HB⟩
     ·
      replace c12 := Bool.eq_false_iff.mpr c12; subst c12; have H1 : (if (wrap64 (Go.bits .and .u64 t102 7)) = 5 then (if (wrap64 ((a0.size : Int) - t103)) < 4 then (some (0, 0, 0, (⟨#[]⟩ : ByteArray), 0, 1)) else (if 0 ≤ t103 then (if t103 ≤ (wrap64 (t103 + 4)) then (if (wrap64 (t103 + 4)) ≤ (a0.size : Int) then ((y7.f (a0.extract (t103 : Int).toNat ((wrap64 (t103 + 4)) : Int).toNat)).bind fun t110 => (some ((wrap64 (t102 / 8)), (wrap64 (Go.bits .and .u64 t102 7)), t110, (⟨#[]⟩ : ByteArray), wrap64 (t103 + 4), 0))) else (none)) else (none)) else (none))) else (if (wrap64 ((a0.size : Int) - t103)) < 8 then (some (0, 0, 0, (⟨#[]⟩ : ByteArray), 0, 1)) else (if 0 ≤ t103 then (if t103 ≤ (wrap64 (t103 + 8)) then (if (wrap64 (t103 + 8)) ≤ (a0.size : Int) then ((y7.f (a0.extract (t103 : Int).toNat ((wrap64 (t103 + 8)) : Int).toNat)).bind fun t111 => (some ((wrap64 (t102 / 8)), (wrap64 (Go.bits .and .u64 t102 7)), t111, (⟨#[]⟩ : ByteArray), wrap64 (t103 + 8), 0))) else (none)) else (none)) else (none)))) = some (r1, r2, r3, r4, r5, r6) := by rw [iN (show ¬ (false = true) by decide)] at H; exact H
      clear H; have H := H1; clear H1
      by_cases c34 : (wrap64 (Go.bits .and .u64 t102 7)) = 5
      ·
       rw [ip c34] at H; obtain ⟨nk, nu⟩ := dH c34; clear c34
       by_cases oU : (wrap64 ((a0.size : Int) - t103)) < 4
       ·
        rw [ip oU] at H; have FJ := dT oU; clear oU
        simp only [Option.some.injEq, Prod.mk.injEq] at H
        obtain ⟨rfl, rfl, rfl, rfl, rfl, rfl⟩ := H; have aHT := AJ.out; have aH3 := AL.out; obtain ⟨Ik, Il, Im, Io⟩ := aN aD; have Jz := fz aD 0; have Ka := fz aD 1; have Kb := fz aD 2; have Ke := fz aD 3
        go_wp2
        refine bodyPost_ret (wX rfl _ _ dG 95 #[.int .i64 0, .int .i64 0, .int .u64 0, .string ⟨#[]⟩] (0, 0) _ rfl (aU aD) Tryz.underlying95 rfl (by kernel_rfl)) rfl ?_
        exact ⟨eH, aJ HB⟩
       ·
        rw [iN oU] at H; have FJ := dF oU; clear oU; replace H := dU H; obtain ⟨wO, H⟩ := H; have ZE := eT wO; have ZF := dT wO; clear wO; replace H := dU H; obtain ⟨xN, H⟩ := H; have ZG := eT xN; have Mt := dT xN; replace H := dU H; obtain ⟨c40, H⟩ := H; have ZH := eT c40; have Mv := dT c40; replace H := bnd H; obtain ⟨t110, A41, H⟩ := H
        simp only [Option.some.injEq, Prod.mk.injEq] at H
        obtain ⟨rfl, rfl, rfl, rfl, rfl, rfl⟩ := H
        go_wp2_with (first | ((with_reducible refine dJ (f := 100) rfl ?_); refine dV (some 102) rfl rfl Tryz.func100 (by kernel_rfl) rfl #[.string (a0.extract (t103 : Int).toNat ((wrap64 (t103 + 4)) : Int).toNat)] rfl ?_; (with_reducible refine (y7.calls (a0.extract (t103 : Int).toNat ((wrap64 (t103 + 4)) : Int).toNat) t110 _ A41.out).mono ?_); rintro e w' ⟨rfl, ⟨nd, rfl⟩⟩; refine ⟨_, rfl, ?_⟩; (try (rw [oW wc]; generalize dQ : World.drewN wc _ = wc; have bI : aC (wc.heap[dG]? = some (.cells #[.int .i64 0, .int .i64 0, .int .u64 0, .string ⟨#[]⟩] 95 (0, 0))) := ⟨by rw [← dQ]; exact (fZ aD)⟩; have bV : aC (wc.heap[FN]? = some (.cells #[.int .i64 (wrap64 (t102 / 8)), .int .i64 (wrap64 (Go.bits .and .u64 t102 7)), .int .u64 0, .string ⟨#[]⟩] 95 (0, 0))) := ⟨by rw [← dQ]; exact (fZ gX)⟩; have gB : aC (Below w.heap.size w wc) := ⟨by rw [← dQ]; exact (aJ HB)⟩; clear aD gX HB dQ; have aD := bI; have gX := bV; have HB := gB; clear bI bV gB)); have aHV := AL.out; have aH5 := AJ.out; obtain ⟨gq, gu, gy, gz⟩ := aN gX; have aCh := fz gX 0; have aCi := fz gX 1; have aCj := fz gX 2; have aCk := fz gX 3; obtain ⟨aFT, aFU, aFV, aFW⟩ := aN aD; have aGL := fz aD 0; have aGM := fz aD 1; have aGN := fz aD 2; have aGO := eZ aD.out 3))
        refine bodyPost_ret (wX rfl _ _ dG 95 #[.int .i64 (wrap64 (t102 / 8)), .int .i64 (wrap64 (Go.bits .and .u64 t102 7)), .int .u64 t110, .string ⟨#[]⟩] (0, 0) _ rfl (aU aD) Tryz.underlying95 rfl (by kernel_rfl)) rfl ?_
        exact ⟨eH, aJ HB⟩
      ·
       rw [iN c34] at H; have nk := beq_eq_false_iff_ne.mpr c34; have nu := bne_iff_ne.mpr c34
       by_cases CQ : (wrap64 ((a0.size : Int) - t103)) < 8
       ·
        rw [ip CQ] at H; have om := dT CQ; clear CQ
        simp only [Option.some.injEq, Prod.mk.injEq] at H
        obtain ⟨rfl, rfl, rfl, rfl, rfl, rfl⟩ := H; have aHW := AJ.out; have aH6 := AL.out; obtain ⟨aF1, aF2, aF3, aF4⟩ := aN aD; have aGT := fz aD 0; have aGU := fz aD 1; have aGV := fz aD 2; have aGW := fz aD 3
        go_wp2
        refine bodyPost_ret (wX rfl _ _ dG 95 #[.int .i64 0, .int .i64 0, .int .u64 0, .string ⟨#[]⟩] (0, 0) _ rfl (aU aD) Tryz.underlying95 rfl (by kernel_rfl)) rfl ?_
        exact ⟨eH, aJ HB⟩
       ·
        rw [iN CQ] at H; have om := dF CQ; clear CQ; replace H := dU H; obtain ⟨RZ, H⟩ := H; have aHA := eT RZ; have aHB := dT RZ; clear RZ; replace H := dU H; obtain ⟨c49, H⟩ := H; have aHC := eT c49; have aHD := dT c49; replace H := dU H; obtain ⟨Qx, H⟩ := H; have aHE := eT Qx; have aHF := dT Qx; replace H := bnd H; obtain ⟨t111, vw, H⟩ := H
        simp only [Option.some.injEq, Prod.mk.injEq] at H
        obtain ⟨rfl, rfl, rfl, rfl, rfl, rfl⟩ := H
        go_wp2_with (first | ((with_reducible refine dJ (f := 100) rfl ?_); refine dV (some 102) rfl rfl Tryz.func100 (by kernel_rfl) rfl #[.string (a0.extract (t103 : Int).toNat ((wrap64 (t103 + 8)) : Int).toNat)] rfl ?_; (with_reducible refine (y7.calls (a0.extract (t103 : Int).toNat ((wrap64 (t103 + 8)) : Int).toNat) t111 _ vw.out).mono ?_); rintro e w' ⟨rfl, ⟨nd, rfl⟩⟩; refine ⟨_, rfl, ?_⟩; (try (rw [oW wc]; generalize dQ : World.drewN wc _ = wc; have bI : aC (wc.heap[dG]? = some (.cells #[.int .i64 0, .int .i64 0, .int .u64 0, .string ⟨#[]⟩] 95 (0, 0))) := ⟨by rw [← dQ]; exact (fZ aD)⟩; have bV : aC (wc.heap[FN]? = some (.cells #[.int .i64 (wrap64 (t102 / 8)), .int .i64 (wrap64 (Go.bits .and .u64 t102 7)), .int .u64 0, .string ⟨#[]⟩] 95 (0, 0))) := ⟨by rw [← dQ]; exact (fZ gX)⟩; have gB : aC (Below w.heap.size w wc) := ⟨by rw [← dQ]; exact (aJ HB)⟩; clear aD gX HB dQ; have aD := bI; have gX := bV; have HB := gB; clear bI bV gB)); have aHX := AL.out; have aH7 := AJ.out; obtain ⟨Ir, Iu, Iw, Iy⟩ := aN gX; have Kg := fz gX 0; have Kh := fz gX 1; have Ki := fz gX 2; have Kj := fz gX 3; obtain ⟨aF9, aF', aGa, aGb⟩ := aN aD; have aG1 := fz aD 0; have aG2 := fz aD 1; have aG3 := fz aD 2; have aG4 := eZ aD.out 3))
        refine bodyPost_ret (wX rfl _ _ dG 95 #[.int .i64 (wrap64 (t102 / 8)), .int .i64 (wrap64 (Go.bits .and .u64 t102 7)), .int .u64 t111, .string ⟨#[]⟩] (0, 0) _ rfl (aU aD) Tryz.underlying95 rfl (by kernel_rfl)) rfl ?_
        exact ⟨eH, aJ HB⟩
  ·
   replace c5 := Bool.eq_false_iff.mpr c5; subst c5; have H1 : (some (0, 0, 0, (⟨#[]⟩ : ByteArray), 0, 3)) = some (r1, r2, r3, r4, r5, r6) := by rw [iN (show ¬ (false = true) by decide)] at H; exact H
   clear H; have H := H1; clear H1
   simp only [Option.some.injEq, Prod.mk.injEq] at H
   obtain ⟨rfl, rfl, rfl, rfl, rfl, rfl⟩ := H
   go_enter Tryz.func88, Tryz.ntmps88
   go_wp2_with (first | ((with_reducible refine cK (N := 2) rfl ?_); refine dB (N := 2) (cs := #[.int .i64 0, .int .i64 0, .int .u64 0, .string ⟨#[]⟩]) (t := 95) ?_; intro dG hg JG aG hb; have aD := aA aG; have lV := bB HB hg; have lU := bB HB hg; replace HB := hbS HB hb; clear hb aG hg) | ((with_reducible refine dJ (f := 97) rfl ?_); refine dV (some 15) rfl rfl Tryz.func97 (by kernel_rfl) rfl #[.string a0] rfl ?_; (with_reducible refine (lT.calls a0 t102 t103 t104 _ A2.out).mono ?_); rintro e w' ⟨rfl, ⟨nd, rfl⟩⟩; refine ⟨_, rfl, ?_⟩; (try (rw [oW JG]; generalize dQ : World.drewN JG _ = JG; have bI : aC (JG.heap[dG]? = some (.cells #[.int .i64 0, .int .i64 0, .int .u64 0, .string ⟨#[]⟩] 95 (0, 0))) := ⟨by rw [← dQ]; exact (fZ aD)⟩; have bV : aC (Below w.heap.size w JG) := ⟨by rw [← dQ]; exact (aJ HB)⟩; clear aD HB dQ; have aD := bI; have HB := bV; clear bI bV))) | ((with_reducible refine dJ (f := 93) rfl ?_); refine dV (some 29) rfl rfl Tryz.func93 (by kernel_rfl) rfl #[.int .u64 (t102 / 8), .int .u64 (Go.bits .and .u64 t102 7)] rfl ?_; (with_reducible refine (DW.calls (t102 / 8) (Go.bits .and .u64 t102 7) false _ A4.out).mono ?_); rintro e w' ⟨rfl, ⟨nd, rfl⟩⟩; refine ⟨_, rfl, ?_⟩; (try (rw [oW JG]; generalize dQ : World.drewN JG _ = JG; have bI : aC (JG.heap[dG]? = some (.cells #[.int .i64 0, .int .i64 0, .int .u64 0, .string ⟨#[]⟩] 95 (0, 0))) := ⟨by rw [← dQ]; exact (fZ aD)⟩; have bV : aC (Below w.heap.size w JG) := ⟨by rw [← dQ]; exact (aJ HB)⟩; clear aD HB dQ; have aD := bI; have HB := bV; clear bI bV)); obtain ⟨aGc, aGd, aGe, aGf⟩ := aN aD; have aG5 := fz aD 0; have aG6 := fz aD 1; have aG7 := fz aD 2; have aG8 := eZ aD.out 3))
   refine bodyPost_ret (wX rfl _ _ dG 95 #[.int .i64 0, .int .i64 0, .int .u64 0, .string ⟨#[]⟩] (0, 0) _ rfl (aU aD) Tryz.underlying95 rfl (by kernel_rfl)) rfl ?_
   exact ⟨eH, aJ HB⟩
 ·
  rw [iN c3] at H; have gL := beq_eq_false_iff_ne.mpr c3; have rW := bne_iff_ne.mpr c3
  simp only [Option.some.injEq, Prod.mk.injEq] at H
  obtain ⟨rfl, rfl, rfl, rfl, rfl, rfl⟩ := H
  go_enter Tryz.func88, Tryz.ntmps88
  go_wp2_with (first | ((with_reducible refine cK (N := 2) rfl ?_); refine dB (N := 2) (cs := #[.int .i64 0, .int .i64 0, .int .u64 0, .string ⟨#[]⟩]) (t := 95) ?_; intro dG hg WV aG hb; have aD := aA aG; have lV := bB HB hg; have lU := bB HB hg; replace HB := hbS HB hb; clear hb aG hg) | ((with_reducible refine dJ (f := 97) rfl ?_); refine dV (some 15) rfl rfl Tryz.func97 (by kernel_rfl) rfl #[.string a0] rfl ?_; (with_reducible refine (lT.calls a0 t102 t103 t104 _ A2.out).mono ?_); rintro e w' ⟨rfl, ⟨nd, rfl⟩⟩; refine ⟨_, rfl, ?_⟩; (try (rw [oW WV]; generalize dQ : World.drewN WV _ = WV; have bI : aC (WV.heap[dG]? = some (.cells #[.int .i64 0, .int .i64 0, .int .u64 0, .string ⟨#[]⟩] 95 (0, 0))) := ⟨by rw [← dQ]; exact (fZ aD)⟩; have bV : aC (Below w.heap.size w WV) := ⟨by rw [← dQ]; exact (aJ HB)⟩; clear aD HB dQ; have aD := bI; have HB := bV; clear bI bV)); obtain ⟨aGg, aGh, aGi, aGj⟩ := aN aD; have aG9 := fz aD 0; have aG' := fz aD 1; have aHa := fz aD 2; have aHb := eZ aD.out 3))
  refine bodyPost_ret (wX rfl _ _ dG 95 #[.int .i64 0, .int .i64 0, .int .u64 0, .string ⟨#[]⟩] (0, 0) _ rfl (aU aD) Tryz.underlying95 rfl (by kernel_rfl)) rfl ?_
  exact ⟨eH, aJ HB⟩
end Go.Proofs.YtgmggompdidcoaaGreatDoor.X
