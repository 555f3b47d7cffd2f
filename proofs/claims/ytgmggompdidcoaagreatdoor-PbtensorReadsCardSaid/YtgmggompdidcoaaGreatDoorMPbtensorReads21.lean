import Derived.Test.YtgmggompdidcoaaGreatDoorMPbtensorReads20
import Derived.Test.YtgmggompdidcoaaGreatDoorMPbtensorReads7
namespace Go.Proofs.YtgmggompdidcoaaGreatDoor.X
open Go.RowKit Go.Proofs.YtgmggompdidcoaaGreatDoorW.aX Go.Proofs.YtgmggompdidcoaaGreatDoorW.bJ Go.Proofs.YtgmggompdidcoaaGreatDoorW.bK
attribute [local go_sem] bO bQ bS bU bM bN bP bR
set_option linter.unusedVariables false
set_option linter.unusedSimpArgs false
set_option maxHeartbeats 8000000
set_option maxRecDepth 100000
def KW.f (a0 : ByteArray) : Option (List (dP) × Int) := if a0.size ≤ 140737488351232 then some ((eX a0).1.map toR, ((eX a0).2 : Int)) else none
theorem ax (k : Nat) (a0 : ByteArray) (acc : List (dP)) (i size num ty v : Nat) (hs : a0.size ≤ 1048576) (hi : i ≤ a0.size) (hv : size < 18446744073709551616) (hl : acc.length ≤ 1048576)
 (h8 : ty ≠ 0 → ty ≠ 2 → size ≤ 8) (h0 : ty = 0 → size = 0) (h2 : ty ≠ 0 → v = 0) :
 dY.j5 (k + 1) a0 acc i size num ty v ⟨#[]⟩ =
  if a0.size - i < size then some ([], 1) else
   dY.l0 k a0 (acc ++ [toR (num, ty, if ty = 0 then v else if ty = 2 then 0 else (o8 (ns (a0.extract i (i + size))) : Nat), if ty = 2 then a0.extract i (i + size) else ⟨#[]⟩)]) ((i + size : Nat) : Int) := by
 simp only [dY.j5]
 rw [fC (x := (a0.size : Int) - (i : Int)) (by omega) (by omega), uM (x := (a0.size : Int) - (i : Int)) (by omega) (by omega)]
 by_cases hb : a0.size - i < size
 · rw [ip (by omega), ip hb]
 · have ew : wrap64 ((i : Int) + wrap64 (size : Int)) = ((i + size : Nat) : Int) := by
    rw [fC (x := (size : Int)) (by omega) (by omega), fC (by omega) (by omega)]; omega
   rw [iN (by omega), iN hb, ip (by omega), ew, ip (by omega), ip (by omega), Int.toNat_natCast, Int.toNat_natCast]
   by_cases t2 : ty = 2
   · subst t2
     obtain rfl := h2 (by decide)
     rw [ip (by rfl), ip (by omega)]
     rfl
   · by_cases t0 : ty = 0
     · subst t0
       rw [iN (by decide), ip (by rfl), ip (by omega)]
       rfl
     · have el : JK.f (a0.extract i (i + size)) = some ((o8 (ns (a0.extract i (i + size))) : Nat) : Int) := ip (by rw [ByteArray.size_extract]; have := h8 t0 t2; omega)
       rw [iN (by omega), iN (by omega), el, Option.bind_some, ip (by omega), iN t0, iN t2, iN t2]
       rfl
theorem aAH (k : Nat) (a0 : ByteArray) (acc : List (dP)) (p num ty : Nat) (t : Int) (hs : a0.size ≤ 1048576) (hp : p ≤ a0.size) (hl : acc.length ≤ 1048576) (hty : ty = 0 ∨ ty = 2)
 (Q5 : wrap64 (IntKind.u64.wrap (Int.tdiv t 8)) = (num : Int)) :
 dY.j1 (k + 5) a0 acc p t false 0 ty 0 ⟨#[]⟩ =
  if (eD (a0.extract p a0.size)).2.2 ≠ 0 then some ([], ((eD (a0.extract p a0.size)).2.2 : Int))
  else if ty = 0 then dY.l0 k a0 (acc ++ [toR (num, 0, (eD (a0.extract p a0.size)).1, ⟨#[]⟩)]) ((p + (eD (a0.extract p a0.size)).2.1 : Nat) : Int)
  else if a0.size - (p + (eD (a0.extract p a0.size)).2.1) < (eD (a0.extract p a0.size)).1 then some ([], 1)
  else dY.l0 k a0 (acc ++ [toR (num, 2, 0, a0.extract (p + (eD (a0.extract p a0.size)).2.1) (p + (eD (a0.extract p a0.size)).2.1 + (eD (a0.extract p a0.size)).1))]) ((p + (eD (a0.extract p a0.size)).2.1 + (eD (a0.extract p a0.size)).1 : Nat) : Int) := by
 have hsz := EN a0 p hp
 obtain ⟨⟨y, m, f⟩, hq⟩ : ∃ x, eD (a0.extract p a0.size) = x := ⟨_, rfl⟩
 have e1 : dY.j1 (k + 5) a0 acc p t false 0 ty 0 ⟨#[]⟩ = dY.j4 (k + 2) a0 acc p 0 true num ty 0 ⟨#[]⟩ := by
  rw [dY.j1, Q5, iN (by decide)]
  rcases hty with rfl | rfl
  · rw [iN (by decide), dY.j2, iN (by decide), dY.j3, ip (by rfl)]
  · rw [iN (by decide), dY.j2, iN (by decide), dY.j3, iN (by decide)]; rfl
 rw [e1, dY.j4, ip rfl, ip (by omega), ip (by omega)]
 simp only [qJ.f, Option.bind_some, Int.toNat_natCast, hq]
 by_cases hf : f = 0
 · subst hf
   have g2 := G5 (a0.extract p a0.size) (by rw [hq])
   rw [hq, hsz] at g2
   simp only at g2
   have OX : wrap64 ((p : Int) + (m : Int)) = ((p + m : Nat) : Int) := by rw [fC (by omega) (by omega)]; omega
   rw [ip (by rfl), OX]
   rcases hty with rfl | rfl
   · rw [ip (by rfl)]
     have key := ax k a0 acc (p + m) 0 num 0 y hs (by omega) (by omega) hl (by omega) (by omega) (by omega)
     rw [iN (by omega)] at key
     exact key
   · rw [iN (by decide)]
     have key := ax k a0 acc (p + m) y num 2 0 hs (by omega) (by omega) hl (by omega) (by omega) (by omega)
     exact key
 · rw [iN (by omega), ip hf]
theorem aCz (k : Nat) (a0 : ByteArray) (acc : List (dP)) (p num ty : Nat) (t : Int) (hs : a0.size ≤ 1048576) (hp : p ≤ a0.size) (hl : acc.length ≤ 1048576) (hty : ty = 1 ∨ ty = 5)
 (Q5 : wrap64 (IntKind.u64.wrap (Int.tdiv t 8)) = (num : Int)) :
 dY.j1 (k + 5) a0 acc p t false 0 ty 0 ⟨#[]⟩ =
  if a0.size - p < (if ty = 5 then 4 else 8) then some ([], 1)
  else dY.l0 k a0 (acc ++ [toR (num, (ty : Nat), (o8 (ns (a0.extract p (p + (if ty = 5 then 4 else 8)))) : Nat), ⟨#[]⟩)]) ((p + (if ty = 5 then 4 else 8) : Nat) : Int) := by
 have e1 : dY.j1 (k + 5) a0 acc p t false 0 ty 0 ⟨#[]⟩ = dY.j5 (k + 1) a0 acc p ((if ty = 5 then 4 else 8 : Nat) : Int) num ty ((0 : Nat) : Int) ⟨#[]⟩ := by
  rw [dY.j1, Q5, iN (by decide)]
  rcases hty with rfl | rfl
  · rw [ip (by rfl), dY.j2, iN (by decide), dY.j3, iN (by decide), dY.j4, iN (by decide)]; rfl
  · rw [iN (by decide), dY.j2, ip (by rfl), dY.j3, iN (by decide), dY.j4, iN (by decide)]; rfl
 rw [e1, ax k a0 acc p (if ty = 5 then 4 else 8) num ty 0 hs hp (by split <;> omega) hl (by intros; split <;> omega) (by omega) (by omega)]
 rw [iN (show ¬ ty = 0 by omega), iN (show ¬ ty = 2 by omega), iN (show ¬ ty = 2 by omega)]
theorem Kt (k : Nat) (a0 : ByteArray) (acc : List (dP)) (p t z w : Int) : dY.j1 (k + 5) a0 acc p t true 0 z w ⟨#[]⟩ = some ([], 3) := by
 rw [dY.j1]; rfl
theorem aAG (k : Nat) (a0 : ByteArray) (acc : List (dP)) (i : Nat) (t n e : Nat) (hs : a0.size ≤ 1048576) (hi : i < a0.size) (hr : eD (a0.extract i a0.size) = (t, n, e)) :
 dY.l0 (k + 6) a0 acc i =
  if e ≠ 0 then some ([], (e : Int)) else if ¬ (1 ≤ t / 8 ∧ t / 8 ≤ 536870911 ∧ (t % 8 = 0 ∨ t % 8 = 1 ∨ t % 8 = 2 ∨ t % 8 = 5)) then some ([], 3)
  else dY.j1 (k + 5) a0 acc ((i + n : Nat) : Int) t false 0 ((t % 8 : Nat) : Int) 0 ⟨#[]⟩ := by
 have hsz := EN a0 i (by omega)
 rw [dY.l0, ip (by omega), ip (by omega), ip (by omega)]
 simp only [qJ.f, Option.bind_some, Int.toNat_natCast, hr]
 by_cases he : e = 0
 · subst he
   have g := G5 (a0.extract i a0.size) (by rw [hr])
   rw [hr, hsz] at g
   simp only at g
   have et : Int.tdiv (t : Int) 8 = ((t / 8 : Nat) : Int) := by rw [Int.tdiv_eq_ediv_of_nonneg (by omega)]; omega
   have em : Int.tmod (t : Int) 8 = ((t % 8 : Nat) : Int) := by rw [Int.tmod_eq_emod_of_nonneg (by omega)]; omega
   have ew : wrap64 ((i : Int) + (n : Int)) = ((i + n : Nat) : Int) := by rw [fC (by omega) (by omega)]; omega
   rw [et, em, ew, uM (x := ((t / 8 : Nat) : Int)) (by omega) (by omega), fC (x := ((t % 8 : Nat) : Int)) (by omega) (by omega), ip (by rfl)]
   simp only [Kt]
   by_cases hm : 1 ≤ t / 8 ∧ t / 8 ≤ 536870911 ∧ (t % 8 = 0 ∨ t % 8 = 1 ∨ t % 8 = 2 ∨ t % 8 = 5)
   · rw [iN (by omega), iN (by omega), iN (by omega), iN (by omega), dF (by omega)]
     rw [iN (by simp), iN (fun h => h hm)]
   · rw [show ∀ x y : Option (List (dP) × Int), (if (0 : Nat) ≠ 0 then x else y) = y from fun _ _ => iN (by simp)]
     rw [show ∀ x y : Option (List (dP) × Int), (if ¬ (1 ≤ t / 8 ∧ t / 8 ≤ 536870911 ∧ (t % 8 = 0 ∨ t % 8 = 1 ∨ t % 8 = 2 ∨ t % 8 = 5)) then x else y) = x from fun _ _ => ip hm]
     by_cases g1 : ((t / 8 : Nat) : Int) = 0
     · rw [ip g1]
     · by_cases g2 : ((t / 8 : Nat) : Int) > 536870911
       · rw [iN g1, ip g2]
       · by_cases g3 : ((t % 8 : Nat) : Int) = 3
         · rw [iN g1, iN g2, ip g3]
         · by_cases g4 : ((t % 8 : Nat) : Int) = 4
           · rw [iN g1, iN g2, iN g3, ip g4]
           · rw [iN g1, iN g2, iN g3, iN g4, dT (by omega), Kt]
 · rw [iN (by omega), ip he]
theorem Zl (k : Nat) (a0 : ByteArray) (acc : List (dP)) (i : Nat) (hs : a0.size ≤ 1048576) (hi : i < a0.size) (hl : acc.length ≤ 1048576) :
 dY.l0 (k + 6) a0 acc i =
  if (l6 (a0.extract i a0.size)).2.2 ≠ 0 then some ([], ((l6 (a0.extract i a0.size)).2.2 : Int)) else
   dY.l0 k a0 (acc ++ [toR (l6 (a0.extract i a0.size)).1]) ((i + (l6 (a0.extract i a0.size)).2.1 : Nat) : Int) := by
 have hsz := EN a0 i (by omega)
 obtain ⟨⟨t, n, e⟩, hr⟩ : ∃ x, eD (a0.extract i a0.size) = x := ⟨_, rfl⟩
 rw [aAG k a0 acc i t n e hs hi hr]
 unfold l6
 simp only [hr]
 by_cases he : e = 0
 · subst he
   have g := G5 (a0.extract i a0.size) (by rw [hr])
   rw [hr, hsz] at g
   simp only at g
   by_cases hm : 1 ≤ t / 8 ∧ t / 8 ≤ 536870911 ∧ (t % 8 = 0 ∨ t % 8 = 1 ∨ t % 8 = 2 ∨ t % 8 = 5)
   · have Q5 : wrap64 (IntKind.u64.wrap (Int.tdiv (t : Int) 8)) = ((t / 8 : Nat) : Int) := by
      rw [Int.tdiv_eq_ediv_of_nonneg (by omega), uM (by omega) (by omega), fC (by omega) (by omega)]; omega
     have ex : (a0.extract i a0.size).extract n (a0.extract i a0.size).size = a0.extract (i + n) a0.size := by
      rw [hsz, WZ _ _ _ _ (by omega), show i + (a0.size - i) = a0.size by omega]
     by_cases h2 : t % 8 = 0 ∨ t % 8 = 2
     · rw [aAH k a0 acc (i + n) (t / 8) (t % 8) t hs (by omega) hl h2 Q5]
       simp only [ne_eq, not_true_eq_false, if_false, hm, ip h2, ex]
       obtain ⟨⟨y, m, f⟩, hq⟩ : ∃ x, eD (a0.extract (i + n) a0.size) = x := ⟨_, rfl⟩
       simp only [hq, hsz]
       by_cases hf : f = 0
       · subst hf
         have g2 := G5 (a0.extract (i + n) a0.size) (by rw [hq])
         rw [hq, EN a0 (i + n) (by omega)] at g2
         simp only at g2
         simp only [not_true_eq_false, if_false]
         by_cases h3 : t % 8 = 0
         · simp only [h3, if_true]
           simp [Nat.add_assoc]
         · simp only [h3, if_false]
           have Ac : (a0.extract i a0.size).extract (n + m) (n + m + y) = a0.extract (i + n + m) (i + n + m + y) ∨ a0.size - i - (n + m) < y := by
            by_cases hb : a0.size - i - (n + m) < y
            · exact .inr hb
            · left; rw [WZ _ _ _ _ (by omega)]; congr 1 <;> omega
           have hbe : a0.size - (i + n + m) = a0.size - i - (n + m) := by omega
           rw [hbe]
           by_cases hb : a0.size - i - (n + m) < y
           · simp [hb]
           · rw [Ac.resolve_right hb]
             simp [hb, Nat.add_assoc]
       · simp [hf]
     · rw [aCz k a0 acc (i + n) (t / 8) (t % 8) t hs (by omega) hl (by omega) Q5]
       simp only [ne_eq, not_true_eq_false, if_false, hm, iN h2, hsz]
       generalize hz : (if t % 8 = 5 then 4 else 8) = z
       have hbe : a0.size - (i + n) = a0.size - i - n := by omega
       rw [hbe]
       by_cases hb : a0.size - i - n < z
       · simp [hb]
       · have Ac : (a0.extract i a0.size).extract n (n + z) = a0.extract (i + n) (i + n + z) := by
          rw [WZ _ _ _ _ (by omega)]; congr 1 <;> omega
         rw [Ac]
         simp [hb, Nat.add_assoc]
   · simp only [ne_eq, not_true_eq_false, if_false, hm, not_false_eq_true, if_true]
     rfl
 · simp [he]
theorem Sn (a0 : ByteArray) (hs : a0.size ≤ 1048576) (d : Nat) : ∀ (k i : Nat) (acc : List (dP)), a0.size - i ≤ d → i ≤ a0.size → acc.length ≤ i → 6 * d < k →
 dY.l0 k a0 acc i = some (if (lX d (a0.extract i a0.size)).2 ≠ 0 then ([], ((lX d (a0.extract i a0.size)).2 : Int)) else (acc ++ (lX d (a0.extract i a0.size)).1.map toR, 0)) := by
 induction d with
 | zero =>
  intro k i acc hb hi hl hk
  obtain ⟨k, rfl⟩ : ∃ m, k = m + 1 := ⟨k - 1, by omega⟩
  simp only [dY.l0]
  rw [iN (by omega)]
  simp [lX]
 | succ d ih =>
  intro k i acc hb hi hl hk
  have hsz := EN a0 i hi
  by_cases h0 : i = a0.size
  · obtain ⟨k, rfl⟩ : ∃ m, k = m + 1 := ⟨k - 1, by omega⟩
    simp only [dY.l0]
    rw [iN (by omega)]
    have : (a0.extract i a0.size).size = 0 := by omega
    simp [lX, this]
  · obtain ⟨k, rfl⟩ : ∃ m, k = m + 6 := ⟨k - 6, by omega⟩
    rw [Zl k a0 acc i hs (by omega) (by omega), lX, iN (show ¬ (a0.extract i a0.size).size = 0 by omega)]
    by_cases hc : (l6 (a0.extract i a0.size)).2.2 = 0
    · have g := Gl (a0.extract i a0.size) hc
      have ex : (a0.extract i a0.size).extract (l6 (a0.extract i a0.size)).2.1 (a0.extract i a0.size).size = a0.extract (i + (l6 (a0.extract i a0.size)).2.1) a0.size := by
       rw [hsz, WZ _ _ _ _ (by omega), show i + (a0.size - i) = a0.size by omega]
      have hcn : ¬ (l6 (a0.extract i a0.size)).2.2 ≠ 0 := fun h => h hc
      rw [ex, iN hcn, ih k _ _ (by omega) (by omega) (by simp; omega) (by omega), iN hcn]
      generalize hF : lX d (a0.extract (i + (l6 (a0.extract i a0.size)).2.1) a0.size) = F
      by_cases hq : F.2 = 0
      · simp [hq]
      · simp [hq]
    · rw [ip hc, ip hc]
      simp [hc]
theorem KW.ev (a0 : ByteArray) (r) (h : KW.f a0 = some r) : ∃ k, dY.f k a0 = some r := by
 unfold KW.f at h
 split at h
 · rename_i hs
   rw [← h]
   unfold dY.f eX
   by_cases hg : a0.size > 1048576
   · exact ⟨0, by rw [ip (by omega), ip hg]; rfl⟩
   · refine ⟨6 * a0.size + 1, ?_⟩
     have := Sn a0 (by omega) a0.size (6 * a0.size + 1) 0 [] (by omega) (by omega) (by simp) (by omega)
     rw [Vm] at this
     rw [iN (by omega), iN hg]
     refine this.trans ?_
     by_cases hq : (lX a0.size a0).2 = 0
     · simp [hq]
     · simp [hq, Cy _ _ hq]
 · cases h
theorem KW.calls (a0 : ByteArray) (r1 : List (dP)) (r2 : Int) (w : World) (h : KW.f a0 = some (r1, r2)) :
 Calls Tryz.prog 24 #[.string a0] w fun e w' => ∃ gW : Value, e = .returned (.tuple #[gW, .int .i64 r2]) ∧ Kd.R oF 68 w' w.heap.size (fun _ => True) gW r1 ∧ Below w.heap.size w w' := by
 obtain ⟨k, hk⟩ := KW.ev a0 _ h
 exact dY.calls k a0 r1 r2 w hk
section
mutual
def gJ.l0 : Nat → List (dP) → Int → List Int → Int → Option (List Int × Int)
 | 0, _, _, _, _ => none
 | k + 1, x0, x1, x6, x7 => if x7 < (x0.length : Int) then (if 0 ≤ x7 then (if ((cB x0 x7).f0) = x1 then (if ((cB x0 x7).f1) = 0 then (gJ.j1 k x0 x1 x6 x7 false ((cB x0 x7).f0) ((cB x0 x7).f1) ((cB x0 x7).f2) ((cB x0 x7).f3)) else (gJ.j1 k x0 x1 x6 x7 (((cB x0 x7).f1) != 2) ((cB x0 x7).f0) ((cB x0 x7).f1) ((cB x0 x7).f2) ((cB x0 x7).f3))) else (gJ.l0 k x0 x1 x6 (wrap64 (x7 + 1)))) else (none)) else (some (x6, 0))
def gJ.j1 : Nat → List (dP) → Int → List Int → Int → Bool → Int → Int → Int → ByteArray → Option (List Int × Int)
 | 0, _, _, _, _, _, _, _, _, _ => none
 | k + 1, x0, x1, x6, x7, x36, zI, uL, vN, xZ => if x36 = true then (some (([] : List Int), 3)) else (gJ.l1 k x0 x1 x6 x7 xZ 0 zI uL vN xZ)
def gJ.l1 : Nat → List (dP) → Int → List Int → Int → ByteArray → Int → Int → Int → Int → ByteArray → Option (List Int × Int)
 | 0, _, _, _, _, _, _, _, _, _, _ => none
 | k + 1, x0, x1, x6, x7, x9, jJ, zI, uL, vN, xZ => if uL = 0 then (if jJ < 1 then (gJ.j3 k x0 x1 x6 x7 x9 jJ true zI uL vN xZ) else (if uL = 2 then (gJ.j3 k x0 x1 x6 x7 x9 jJ (decide ((x9.size : Int) > 0)) zI uL vN xZ) else (gJ.j3 k x0 x1 x6 x7 x9 jJ false zI uL vN xZ))) else (if uL = 2 then (gJ.j3 k x0 x1 x6 x7 x9 jJ (decide ((x9.size : Int) > 0)) zI uL vN xZ) else (gJ.j3 k x0 x1 x6 x7 x9 jJ false zI uL vN xZ))
def gJ.j3 : Nat → List (dP) → Int → List Int → Int → ByteArray → Int → Bool → Int → Int → Int → ByteArray → Option (List Int × Int)
 | 0, _, _, _, _, _, _, _, _, _, _, _ => none
 | k + 1, x0, x1, x6, x7, x9, jJ, x55, zI, uL, vN, xZ => if x55 = true then (if uL = 2 then ((qJ.f x9).bind fun o5 => (if o5.2.2 = 0 then (if 0 ≤ o5.2.1 then (if o5.2.1 ≤ (x9.size : Int) then (if (x6.length : Int) = 65536 then (some (([] : List Int), 7)) else (if x6.length < 17592186044416 then (gJ.l1 k x0 x1 (x6 ++ [wrap64 (o5.1)]) x7 (x9.extract (o5.2.1 : Int).toNat x9.size) (wrap64 (jJ + 1)) zI uL vN xZ) else (none))) else (none)) else (none)) else (some (([] : List Int), o5.2.2)))) else (if (x6.length : Int) = 65536 then (some (([] : List Int), 7)) else (if x6.length < 17592186044416 then (gJ.l1 k x0 x1 (x6 ++ [wrap64 (vN)]) x7 x9 (wrap64 (jJ + 1)) zI uL vN xZ) else (none)))) else (gJ.l0 k x0 x1 x6 (wrap64 (x7 + 1)))
end
def gJ.f (k : Nat) (l0 : List (dP)) (a1 : Int) : Option (List Int × Int) := gJ.l0 k l0 a1 ([] : List Int) 0
theorem gJ.calls (k : Nat) (A0 : Option Addr) (c0 : Nat) (l0 : List (dP)) (a1 : Int) (r1 : List Int) (r2 : Int) (w : World) (hr0 : Kd.C oF w A0 l0.length l0) (hc0 : l0.length ≤ c0) (h : gJ.f k l0 a1 = some (r1, r2)) :
 Calls Tryz.prog 26 #[.slice A0 l0.length c0, .int .i64 a1] w fun e w' => ∃ gW : Value, e = .returned (.tuple #[gW, .int .i64 r2]) ∧ Kd.R (Kd.int .i64) 2 w' w.heap.size (fun _ => True) gW r1 ∧ Below w.heap.size w w' := by
 have U9 := Tryz.underlying68; have fF := aA hr0; have oO := aA hc0; clear hr0 hc0; have HB := aA (Below.refl w.heap.size w); have H : (gJ.l0 k l0 a1 ([] : List Int) 0) = some (r1, r2) := h; clear h; have H' := aA H; clear H
 go_enter Tryz.func26, Tryz.ntmps26
 go_wp2
 go_loopg [6, 7] k (fun kq v6 v7 w' => ∃ (bH : List Int) (aH : Int), v7 = .int .i64 aH ∧ aC (gJ.l0 kq l0 a1 bH aH = some (r1, r2)) ∧ aC (kq ≤ k) ∧ aC (Kd.R (Kd.int .i64) 2 w' w.heap.size (fun _ => True) v6 bH) ∧ aC (Below w.heap.size w w'))
 case atStart => exact ⟨(([] : List Int)), (0), aZ, H', ⟨Nat.le_refl _⟩, ⟨nC⟩, ⟨aJ HB⟩⟩
 case round =>
  clear H'; obtain ⟨bH, aH, rfl, HA, bD, fH, HB⟩ := hrel
  cases gk with
  | zero => exact absurd HA.out (by simp [gJ.l0])
  | succ k1 =>
   have H := HA.out; clear HA
   simp only [gJ.l0] at H
   by_cases c3 : aH < (l0.length : Int)
   ·
    rw [ip c3] at H; have gL := dT c3; clear c3; replace H := dU H; obtain ⟨c4, H⟩ := H; have fP := dT c4; clear c4
    by_cases c5 : ((cB l0 aH).f0) = a1
    ·
     rw [ip c5] at H; obtain ⟨iH, lF⟩ := dH c5; clear c5; have OP := aA H; clear H; have dL : 0 ≤ (aH : Int) := aK; have dM : aH < (l0.length : Int) := aK; obtain ⟨lD, iM, gD, kR, pJ, pK⟩ := AQ fF.out aH dL dM; cases iM; replace gD := hbc HB gD; replace kR := hbc HB kR; replace pJ := hbc HB pJ; replace pK := hbc HB pK; replace dL := eT dL; replace dM := eT dM
     go_upto_region 7 with (first | ((with_reducible refine cK (N := 8) rfl ?_); (try (refine uG (by rfl) ?_; dsimp only)); refine dB (N := 8) (cs := #[.int .i64 0, .int .i64 0, .int .u64 0, .string ⟨#[]⟩]) (t := 68) ?_; intro iY hg w7 aG hb; replace fH := aA (Kd.gU (dZ fH) hb); have bX := aA aG; have LU := bB HB hg; have LP := bB HB hg; replace HB := hbS HB hb; clear hb aG hg; obtain ⟨jw, jy, kg, kr⟩ := aN bX; have ky := fz bX 0; have kz := fz bX 1; have lg := fz bX 2; have lh := eZ bX.out 3))
     (try simp only [Act.put, List.setIfInBounds_toArray, List.set_cons_zero, List.set_cons_succ])
     go_cut [36] (fun v36 wc => ∃ (kq : Nat) (ZU : Bool), v36 = .bool ZU ∧ aC (gJ.j1 kq l0 a1 bH aH ZU ((cB l0 aH).f0) ((cB l0 aH).f1) ((cB l0 aH).f2) ((cB l0 aH).f3) = some (r1, r2)) ∧ aC (kq ≤ k1) ∧ aC (Kd.R (Kd.int .i64) 2 wc w.heap.size (fun _ => True) u6 bH) ∧ aC (wc.heap[iY]? = some (.cells #[.int .i64 ((cB l0 aH).f0), .int .i64 ((cB l0 aH).f1), .int .u64 ((cB l0 aH).f2), .string ((cB l0 aH).f3)] 68 (0, 0))) ∧ aC (Below w.heap.size w wc))
     case first =>
      have H := OP.out; clear OP
      by_cases c9 : ((cB l0 aH).f1) = 0
      ·
       rw [ip c9] at H; obtain ⟨mO, xI⟩ := dH c9; clear c9
       (first | rw [mO] | (simp only [dC, iC]; rw [mO]) | skip)
       have H' := aA H; clear H; obtain ⟨G8, G9, H6, H7⟩ := aN bX; have JN := fz bX 0; have JO := fz bX 1; have JP := fz bX 2; have JQ := fz bX 3
       go_wp2
       go_meet
       case rel => exact ⟨_, (false), aZ, H', ⟨by have := bD.out; first | omega | exact Nat.le_refl _⟩, ⟨by (with_reducible repeat (first | apply Kd.kI | apply Kd.kD | apply Kd.jX)); exact Kd.eO (Kd.dE (p := ⟨iY, 3, none⟩) (Kd.dE (p := ⟨iY, 2, none⟩) (Kd.dE (p := ⟨iY, 1, none⟩) (Kd.dE (p := ⟨iY, 0, none⟩) (Kd.ET fH.out bX.out (by decide)) (fun _ hk => hk.2) (.int .i64 ((cB l0 aH).f0))) (fun _ hk => hk.2) (.int .i64 ((cB l0 aH).f1))) (fun _ hk => hk.2) (.int .u64 ((cB l0 aH).f2))) (fun _ hk => hk.2) (.string ((cB l0 aH).f3))) (fun _ hk => trivial)⟩, ⟨aU bX⟩, ⟨aJ HB⟩⟩
      ·
       rw [iN c9] at H; have mO := beq_eq_false_iff_ne.mpr c9; have xI := bne_iff_ne.mpr c9
       (first | rw [mO] | (simp only [dC, iC]; rw [mO]) | skip)
       have H' := aA H; clear H; obtain ⟨Ho, Hq, Hr, Ht⟩ := aN bX; have Iz := fz bX 0; have Ja := fz bX 1; have Jb := fz bX 2; have Jc := fz bX 3
       go_wp2
       go_meet
       case rel => exact ⟨_, ((((cB l0 aH).f1) != 2)), aZ, H', ⟨by have := bD.out; first | omega | exact Nat.le_refl _⟩, ⟨by (with_reducible repeat (first | apply Kd.kI | apply Kd.kD | apply Kd.jX)); exact Kd.eO (Kd.dE (p := ⟨iY, 3, none⟩) (Kd.dE (p := ⟨iY, 2, none⟩) (Kd.dE (p := ⟨iY, 1, none⟩) (Kd.dE (p := ⟨iY, 0, none⟩) (Kd.ET fH.out bX.out (by decide)) (fun _ hk => hk.2) (.int .i64 ((cB l0 aH).f0))) (fun _ hk => hk.2) (.int .i64 ((cB l0 aH).f1))) (fun _ hk => hk.2) (.int .u64 ((cB l0 aH).f2))) (fun _ hk => hk.2) (.string ((cB l0 aH).f3))) (fun _ hk => trivial)⟩, ⟨aU bX⟩, ⟨aJ HB⟩⟩
     case rest =>
      clear OP; try clear c3; try clear gL; try clear c4; try clear fP; try clear c5; try clear iH; try clear lF; try clear jw; try clear jy; try clear kg; try clear kr; try clear ky; try clear kz; try clear lg; try clear lh; try clear gD; try clear kR; try clear pJ; try clear pK; try clear dL; try clear dM
      obtain ⟨kq, ZU, rfl, HA, EF, fH, bX, HB⟩ := hcut
      cases kq with
      | zero => exact absurd HA.out (by simp [gJ.j1])
      | succ _k =>
       have H := HA.out; clear HA
       simp only [gJ.j1] at H
       by_cases c12 : ZU = true
       ·
        subst c12; have H1 : (some (([] : List Int), 3)) = some (r1, r2) := by rw [ip rfl] at H; exact H
        clear H; have H := H1; clear H1
        simp only [Option.some.injEq, Prod.mk.injEq] at H
        obtain ⟨rfl, rfl⟩ := H
        go_wp2
        go_ret2
        exact ⟨_, eH, nC, aJ HB⟩
       ·
        replace c12 := Bool.eq_false_iff.mpr c12; subst c12; have H1 : (gJ.l1 _k l0 a1 bH aH ((cB l0 aH).f3) 0 ((cB l0 aH).f0) ((cB l0 aH).f1) ((cB l0 aH).f2) ((cB l0 aH).f3)) = some (r1, r2) := by rw [iN (show ¬ (false = true) by decide)] at H; exact H
        clear H; have H := H1; clear H1; have H' := aA H; clear H; obtain ⟨Hu, Hy, Ia, Ib⟩ := aN bX; have Jd := fz bX 0; have Je := fz bX 1; have Jf := fz bX 2; have Jg := fz bX 3
        go_wp2
        go_loopg [6, 9, 10] _k (fun kq v6 v9 v10 w' => ∃ (qG : List Int) (o9 : ByteArray) (D9 : Int), v9 = .string o9 ∧ v10 = .int .i64 D9 ∧ aC (gJ.l1 kq l0 a1 qG aH o9 D9 ((cB l0 aH).f0) ((cB l0 aH).f1) ((cB l0 aH).f2) ((cB l0 aH).f3) = some (r1, r2)) ∧ aC (kq ≤ _k) ∧ aC (Kd.R (Kd.int .i64) 2 w' w.heap.size (fun _ => True) v6 qG) ∧ aC (w'.heap[iY]? = some (.cells #[.int .i64 ((cB l0 aH).f0), .int .i64 ((cB l0 aH).f1), .int .u64 ((cB l0 aH).f2), .string ((cB l0 aH).f3)] 68 (0, 0))) ∧ aC (Below w.heap.size w w'))
        case atStart => exact ⟨(bH), (((cB l0 aH).f3)), (0), aZ, aZ, H', ⟨Nat.le_refl _⟩, ⟨dZ fH⟩, ⟨fZ bX⟩, ⟨aJ HB⟩⟩
        case round =>
         clear H'; obtain ⟨qG, o9, D9, rfl, rfl, HA, F4, fH, bX, HB⟩ := hrel
         cases gk with
         | zero => exact absurd HA.out (by simp [gJ.l1])
         | succ k3 =>
          have H := HA.out; clear HA
          simp only [gJ.l1] at H
          have OE := aA H; clear H
          go_upto_region 11 with (fail)
          go_cut [55] (fun v55 wc => ∃ (kq : Nat) (Y3 : Bool), v55 = .bool Y3 ∧ aC (gJ.j3 kq l0 a1 qG aH o9 D9 Y3 ((cB l0 aH).f0) ((cB l0 aH).f1) ((cB l0 aH).f2) ((cB l0 aH).f3) = some (r1, r2)) ∧ aC (kq ≤ k3) ∧ aC (Kd.R (Kd.int .i64) 2 wc w.heap.size (fun _ => True) u6 qG) ∧ aC (wc.heap[iY]? = some (.cells #[.int .i64 ((cB l0 aH).f0), .int .i64 ((cB l0 aH).f1), .int .u64 ((cB l0 aH).f2), .string ((cB l0 aH).f3)] 68 (0, 0))) ∧ aC (Below w.heap.size w wc))
          case first =>
           have H := OE.out; clear OE
           by_cases c15 : ((cB l0 aH).f1) = 0
           ·
            rw [ip c15] at H; obtain ⟨qP, FD⟩ := dH c15; clear c15
            (first | rw [qP] | (simp only [dC, iC]; rw [qP]) | skip)
            by_cases c16 : D9 < 1
            ·
             rw [ip c16] at H; have FE := dT c16; clear c16; have H' := aA H; clear H; obtain ⟨dz, ek, eu, fe⟩ := aN bX; have Jo := fz bX 0; have Jp := fz bX 1; have Jq := fz bX 2; have Jr := fz bX 3
             go_wp2
             go_meet
             case rel => exact ⟨_, (true), aZ, H', ⟨by have := bD.out; have := EF.out; have := F4.out; first | omega | exact Nat.le_refl _⟩, ⟨dZ fH⟩, ⟨fZ bX⟩, ⟨aJ HB⟩⟩
            ·
             rw [iN c16] at H; have FE := dF c16; clear c16
             by_cases c18 : ((cB l0 aH).f1) = 2
             ·
              rw [ip c18] at H; obtain ⟨LW, QK⟩ := dH c18; clear c18; have H' := aA H; clear H; obtain ⟨YB, YC, YD, YE⟩ := aN bX; have YH := fz bX 0; have YI := fz bX 1; have YJ := fz bX 2; have YK := fz bX 3
              go_wp2
              go_meet
              case rel => exact ⟨_, (decide ((o9.size : Int) > 0)), aZ, H', ⟨by have := bD.out; have := EF.out; have := F4.out; first | omega | exact Nat.le_refl _⟩, ⟨dZ fH⟩, ⟨fZ bX⟩, ⟨aJ HB⟩⟩
             ·
              rw [iN c18] at H; have LW := beq_eq_false_iff_ne.mpr c18; have QK := bne_iff_ne.mpr c18; have H' := aA H; clear H; obtain ⟨EU, EW, H8, IA⟩ := aN bX; have EX := fz bX 0; have EY := fz bX 1; have IB := fz bX 2; have IC := fz bX 3
              go_wp2
              go_meet
              case rel => exact ⟨_, (false), aZ, H', ⟨by have := bD.out; have := EF.out; have := F4.out; first | omega | exact Nat.le_refl _⟩, ⟨dZ fH⟩, ⟨fZ bX⟩, ⟨aJ HB⟩⟩
           ·
            rw [iN c15] at H; have qP := beq_eq_false_iff_ne.mpr c15; have FD := bne_iff_ne.mpr c15
            (first | rw [qP] | (simp only [dC, iC]; rw [qP]) | skip)
            by_cases c21 : ((cB l0 aH).f1) = 2
            ·
             rw [ip c21] at H; obtain ⟨vV, QN⟩ := dH c21; clear c21; have H' := aA H; clear H; obtain ⟨Ic, Ie, aA9, aA'⟩ := aN bX; have aBP := fz bX 0; have aBQ := fz bX 1; have aGm := fz bX 2; have aGn := fz bX 3
             go_wp2
             go_meet
             case rel => exact ⟨_, (decide ((o9.size : Int) > 0)), aZ, H', ⟨by have := bD.out; have := EF.out; have := F4.out; first | omega | exact Nat.le_refl _⟩, ⟨dZ fH⟩, ⟨fZ bX⟩, ⟨aJ HB⟩⟩
            ·
             rw [iN c21] at H; have vV := beq_eq_false_iff_ne.mpr c21; have QN := bne_iff_ne.mpr c21; have H' := aA H; clear H; obtain ⟨NP, NQ, NS, NT⟩ := aN bX; have PW := fz bX 0; have PX := fz bX 1; have PY := fz bX 2; have PZ := fz bX 3
             go_wp2
             go_meet
             case rel => exact ⟨_, (false), aZ, H', ⟨by have := bD.out; have := EF.out; have := F4.out; first | omega | exact Nat.le_refl _⟩, ⟨dZ fH⟩, ⟨fZ bX⟩, ⟨aJ HB⟩⟩
          case rest =>
           clear OE; try clear c3; try clear gL; try clear c4; try clear fP; try clear c5; try clear iH; try clear lF; try clear c12; try clear Hu; try clear Hy; try clear Ia; try clear Ib; try clear jw; try clear jy; try clear kg; try clear kr; try clear Jd; try clear Je; try clear Jf; try clear Jg; try clear ky; try clear kz; try clear lg; try clear lh; try clear gD; try clear kR; try clear pJ; try clear pK; try clear dL; try clear dM
           obtain ⟨kq, Y3, rfl, HA, FV, fH, bX, HB⟩ := hcut
           cases kq with
           | zero => exact absurd HA.out (by simp [gJ.j3])
           | succ xK =>
            have H := HA.out; clear HA
            simp only [gJ.j3] at H
            by_cases c24 : Y3 = true
            ·
             subst c24; have H1 : (if ((cB l0 aH).f1) = 2 then ((qJ.f o9).bind fun o5 => (if o5.2.2 = 0 then (if 0 ≤ o5.2.1 then (if o5.2.1 ≤ (o9.size : Int) then (if (qG.length : Int) = 65536 then (some (([] : List Int), 7)) else (if qG.length < 17592186044416 then (gJ.l1 xK l0 a1 (qG ++ [wrap64 (o5.1)]) aH (o9.extract (o5.2.1 : Int).toNat o9.size) (wrap64 (D9 + 1)) ((cB l0 aH).f0) ((cB l0 aH).f1) ((cB l0 aH).f2) ((cB l0 aH).f3)) else (none))) else (none)) else (none)) else (some (([] : List Int), o5.2.2)))) else (if (qG.length : Int) = 65536 then (some (([] : List Int), 7)) else (if qG.length < 17592186044416 then (gJ.l1 xK l0 a1 (qG ++ [wrap64 (((cB l0 aH).f2))]) aH o9 (wrap64 (D9 + 1)) ((cB l0 aH).f0) ((cB l0 aH).f1) ((cB l0 aH).f2) ((cB l0 aH).f3)) else (none)))) = some (r1, r2) := by rw [ip rfl] at H; exact H
             clear H; have H := H1; clear H1
             by_cases nD : ((cB l0 aH).f1) = 2
             ·
              rw [ip nD] at H; obtain ⟨LZ, QQ⟩ := dH nD; clear nD; replace H := Option.bind_eq_some_iff.mp H; obtain ⟨⟨t103, t104, t105⟩, Ob, H⟩ := H; replace H : (if t105 = 0 then (if 0 ≤ t104 then (if t104 ≤ (o9.size : Int) then (if (qG.length : Int) = 65536 then (some (([] : List Int), 7)) else (if qG.length < 17592186044416 then (gJ.l1 xK l0 a1 (qG ++ [wrap64 (t103)]) aH (o9.extract (t104 : Int).toNat o9.size) (wrap64 (D9 + 1)) ((cB l0 aH).f0) ((cB l0 aH).f1) ((cB l0 aH).f2) ((cB l0 aH).f3)) else (none))) else (none)) else (none)) else (some (([] : List Int), t105))) = some (r1, r2) := H; have vk := aA Ob; clear Ob
              by_cases qW : t105 = 0
              ·
               rw [ip qW] at H; obtain ⟨QR, Mm⟩ := dH qW; clear qW; replace H := dU H; obtain ⟨c28, H⟩ := H; have J3 := eT c28; have J4 := dT c28; clear c28; replace H := dU H; obtain ⟨wN, H⟩ := H; have ZB := eT wN; have ZC := dT wN; clear wN
               by_cases nP : (qG.length : Int) = 65536
               ·
                rw [ip nP] at H; obtain ⟨QS, QT⟩ := dH nP; clear nP
                simp only [Option.some.injEq, Prod.mk.injEq] at H
                obtain ⟨rfl, rfl⟩ := H; obtain ⟨TE, TF, TG, TH⟩ := aN bX; have ic := fz bX 0; have ig := fz bX 1; have ik := fz bX 2; have il := fz bX 3
                go_wp2_with (first | ((with_reducible refine dJ (f := 62) rfl ?_); refine dV (some 65) rfl rfl Tryz.func62 (by kernel_rfl) rfl #[.string o9] rfl ?_; (with_reducible refine (qJ.calls o9 t103 t104 t105 _ vk.out).mono ?_); rintro e w' ⟨rfl, ⟨nd, rfl⟩⟩; refine ⟨_, rfl, ?_⟩; obtain ⟨ZY, Z9, ug⟩ := Kd.jF fH.out; subst ug))
                go_ret2
                exact ⟨_, eH, nC, aJ HB⟩
               ·
                rw [iN nP] at H; have QS := beq_eq_false_iff_ne.mpr nP; have QT := bne_iff_ne.mpr nP; replace H := dU H; obtain ⟨CL, H⟩ := H; have aDz := aA CL; clear CL; obtain ⟨MG, vX⟩ : ∃ y_ : List Int, y_ = (qG ++ [wrap64 (t103)]) := ⟨_, rfl⟩; replace H : (gJ.l1 xK l0 a1 MG aH (o9.extract (t104 : Int).toNat o9.size) (wrap64 (D9 + 1)) ((cB l0 aH).f0) ((cB l0 aH).f1) ((cB l0 aH).f2) ((cB l0 aH).f3)) = some (r1, r2) := by first | (rw [vX]; with_reducible exact H) | (have fI := (Option.bind_some _ _).symm.trans H; rw [vX]; with_reducible exact fI) | (have fI := (Option.bind_some _ _).symm.trans H; with_reducible exact fI) | with_reducible exact H | (rw [vX]; exact H) | exact H
                have UN := aA vX; clear vX; have H' := aA H; clear H; obtain ⟨aBu, aBv, aBw, aBx⟩ := aN bX; have aB7 := fz bX 0; have aB8 := fz bX 1; have aB9 := fz bX 2; have aB' := fz bX 3
                go_wp2_with (first | ((with_reducible refine dJ (f := 62) rfl ?_); refine dV (some 65) rfl rfl Tryz.func62 (by kernel_rfl) rfl #[.string o9] rfl ?_; (with_reducible refine (qJ.calls o9 t103 t104 t105 _ vk.out).mono ?_); rintro e w' ⟨rfl, ⟨nd, rfl⟩⟩; refine ⟨_, rfl, ?_⟩; obtain ⟨aEv, aEX, aE9⟩ := Kd.jF fH.out; subst aE9) | ((with_reducible refine qD (b := .append) (xs := #[.tmp 79, .tmp 82]) rfl ?_); (try (refine uG (by rfl) ?_; dsimp only)); at_builtin; refine Kd.qZ (Kd.int .i64) (w0 := w) w.heap.size rfl (.tmp 79) (.tmp 82) 31 2 (.int .i64 0) 8 rfl Tryz.underlying31 FT rfl (by decide) (by omega) (.slice aEv qG.length aEX) qG (wrap64 (t103)) [.int .i64 (wrap64 (t103))] (fun _ => True) (fun _ => False) rfl rfl ?aP (fun _ hk => hk.elim) ?aF ?aO ?aB ?aS ?aL ?_; (case aP => exact rfl); (case aB => exact (aJ HB)); (case aF => exact (fun _ _ => trivial)); (case aO => exact (dZ fH)); (case aS => exact (iI (aJ HB))); (case aL => have := aDz.out; omega); intro v107 Rz ho hb hg hat; rw [← UN.out] at ho; replace bX := aA (GZ (g := iY) (fZ bX) hg (Kd.OI fH.out bX.out (by decide))); replace HB := aA hb; have UL := aA ho; clear fH; clear ho hb hg hat))
                go_roundg xK
                case measure => have := bD.out; have := EF.out; have := F4.out; have := FV.out; omega
                case rel => exact ⟨(MG), (o9.extract (t104 : Int).toNat o9.size), (wrap64 (D9 + 1)), aZ, aZ, H', ⟨by have := bD.out; have := EF.out; have := F4.out; have := FV.out; omega⟩, ⟨dZ UL⟩, ⟨fZ bX⟩, ⟨aJ HB⟩⟩
              ·
               rw [iN qW] at H; have QR := beq_eq_false_iff_ne.mpr qW; have Mm := bne_iff_ne.mpr qW
               simp only [Option.some.injEq, Prod.mk.injEq] at H
               obtain ⟨rfl, rfl⟩ := H; obtain ⟨Ik, Il, Im, Io⟩ := aN bX; have Jz := fz bX 0; have Ka := fz bX 1; have Kb := fz bX 2; have Ke := fz bX 3
               go_wp2_with (first | ((with_reducible refine dJ (f := 62) rfl ?_); refine dV (some 65) rfl rfl Tryz.func62 (by kernel_rfl) rfl #[.string o9] rfl ?_; (with_reducible refine (qJ.calls o9 t103 t104 t105 _ vk.out).mono ?_); rintro e w' ⟨rfl, ⟨nd, rfl⟩⟩; refine ⟨_, rfl, ?_⟩))
               go_ret2
               exact ⟨_, eH, nC, aJ HB⟩
             ·
              rw [iN nD] at H; have LZ := beq_eq_false_iff_ne.mpr nD; have QQ := bne_iff_ne.mpr nD
              by_cases wO : (qG.length : Int) = 65536
              ·
               rw [ip wO] at H; obtain ⟨ZE, ZF⟩ := dH wO; clear wO
               simp only [Option.some.injEq, Prod.mk.injEq] at H
               obtain ⟨rfl, rfl⟩ := H; obtain ⟨aBy, aBz, aBA, aBB⟩ := aN bX; have aCd := fz bX 0; have aCe := fz bX 1; have aCf := fz bX 2; have aCg := fz bX 3; obtain ⟨aIb, aIC, aE'⟩ := Kd.jF fH.out; subst aE'
               go_wp2
               go_ret2
               exact ⟨_, eH, nC, aJ HB⟩
              ·
               rw [iN wO] at H; have ZE := beq_eq_false_iff_ne.mpr wO; have ZF := bne_iff_ne.mpr wO; replace H := dU H; obtain ⟨EJ, H⟩ := H; have aDA := aA EJ; clear EJ; obtain ⟨VC, FR⟩ : ∃ y_ : List Int, y_ = (qG ++ [wrap64 (((cB l0 aH).f2))]) := ⟨_, rfl⟩; replace H : (gJ.l1 xK l0 a1 VC aH o9 (wrap64 (D9 + 1)) ((cB l0 aH).f0) ((cB l0 aH).f1) ((cB l0 aH).f2) ((cB l0 aH).f3)) = some (r1, r2) := by first | (rw [FR]; with_reducible exact H) | (have fI := (Option.bind_some _ _).symm.trans H; rw [FR]; with_reducible exact fI) | (have fI := (Option.bind_some _ _).symm.trans H; with_reducible exact fI) | with_reducible exact H | (rw [FR]; exact H) | exact H
               have Y6 := aA FR; clear FR; have H' := aA H; clear H; obtain ⟨aFP, aFQ, aFR, aFS⟩ := aN bX; have aGH := fz bX 0; have aGI := fz bX 1; have aGJ := fz bX 2; have aGK := fz bX 3; obtain ⟨aEw, aEY, aFa⟩ := Kd.jF fH.out; subst aFa
               go_wp2_with (first | ((with_reducible refine qD (b := .append) (xs := #[.tmp 79, .tmp 82]) rfl ?_); (try (refine uG (by rfl) ?_; dsimp only)); at_builtin; refine Kd.qZ (Kd.int .i64) (w0 := w) w.heap.size rfl (.tmp 79) (.tmp 82) 31 2 (.int .i64 0) 8 rfl Tryz.underlying31 FT rfl (by decide) (by omega) (.slice aEw qG.length aEY) qG (wrap64 (((cB l0 aH).f2))) [.int .i64 (wrap64 (((cB l0 aH).f2)))] (fun _ => True) (fun _ => False) rfl rfl ?aP (fun _ hk => hk.elim) ?aF ?aO ?aB ?aS ?aL ?_; (case aP => exact rfl); (case aB => exact (aJ HB)); (case aF => exact (fun _ _ => trivial)); (case aO => exact (dZ fH)); (case aS => exact (iI (aJ HB))); (case aL => have := aDA.out; omega); intro uz Sb ho hb hg hat; rw [← Y6.out] at ho; replace bX := aA (GZ (g := iY) (fZ bX) hg (Kd.OI fH.out bX.out (by decide))); replace HB := aA hb; have LV := aA ho; clear fH; clear ho hb hg hat))
               go_roundg xK
               case measure => have := bD.out; have := EF.out; have := F4.out; have := FV.out; omega
               case rel => exact ⟨(VC), (o9), (wrap64 (D9 + 1)), aZ, aZ, H', ⟨by have := bD.out; have := EF.out; have := F4.out; have := FV.out; omega⟩, ⟨dZ LV⟩, ⟨fZ bX⟩, ⟨aJ HB⟩⟩
            ·
             replace c24 := Bool.eq_false_iff.mpr c24; subst c24; have H1 : (gJ.l0 xK l0 a1 qG (wrap64 (aH + 1))) = some (r1, r2) := by rw [iN (show ¬ (false = true) by decide)] at H; exact H
             clear H; have H := H1; clear H1; have H' := aA H; clear H
             go_wp2
             go_roundg xK
             case measure => have := bD.out; have := EF.out; have := F4.out; have := FV.out; omega
             case rel => exact ⟨(qG), (wrap64 (aH + 1)), aZ, H', ⟨by have := bD.out; have := EF.out; have := F4.out; have := FV.out; omega⟩, ⟨dZ fH⟩, ⟨aJ HB⟩⟩
    ·
     rw [iN c5] at H; have iH := beq_eq_false_iff_ne.mpr c5; have lF := bne_iff_ne.mpr c5; have H' := aA H; clear H; have dL : 0 ≤ (aH : Int) := aK; have dM : aH < (l0.length : Int) := aK; obtain ⟨lD, iM, gD, kR, pJ, pK⟩ := AQ fF.out aH dL dM; cases iM; replace gD := hbc HB gD; replace kR := hbc HB kR; replace pJ := hbc HB pJ; replace pK := hbc HB pK; replace dL := eT dL; replace dM := eT dM
     go_wp2_with (first | ((with_reducible refine cK (N := 8) rfl ?_); (try (refine uG (by rfl) ?_; dsimp only)); refine dB (N := 8) (cs := #[.int .i64 0, .int .i64 0, .int .u64 0, .string ⟨#[]⟩]) (t := 68) ?_; intro iY hg w45 aG hb; replace fH := aA (Kd.gU (dZ fH) hb); have bX := aA aG; have LU := bB HB hg; have LP := bB HB hg; replace HB := hbS HB hb; clear hb aG hg; obtain ⟨aFX, aFY, aFZ, aF0⟩ := aN bX; have aGP := fz bX 0; have aGQ := fz bX 1; have aGR := fz bX 2; have aGS := eZ bX.out 3))
     go_roundg k1
     case measure => have := bD.out; omega
     case rel => exact ⟨(bH), (wrap64 (aH + 1)), aZ, H', iK bD, ⟨by (with_reducible repeat (first | apply Kd.kI | apply Kd.kD | apply Kd.jX)); exact Kd.eO (Kd.dE (p := ⟨iY, 3, none⟩) (Kd.dE (p := ⟨iY, 2, none⟩) (Kd.dE (p := ⟨iY, 1, none⟩) (Kd.dE (p := ⟨iY, 0, none⟩) (Kd.ET fH.out bX.out (by decide)) (fun _ hk => hk.2) (.int .i64 ((cB l0 aH).f0))) (fun _ hk => hk.2) (.int .i64 ((cB l0 aH).f1))) (fun _ hk => hk.2) (.int .u64 ((cB l0 aH).f2))) (fun _ hk => hk.2) (.string ((cB l0 aH).f3))) (fun _ hk => trivial)⟩, ⟨aJ HB⟩⟩
   ·
    rw [iN c3] at H; have gL := dF c3; clear c3
    simp only [Option.some.injEq, Prod.mk.injEq] at H
    obtain ⟨rfl, rfl⟩ := H
    go_wp2
    go_ret2
    exact ⟨_, eH, dZ fH, aJ HB⟩
end
def EM.f (l0 : List (dP)) (a1 : Int) : Option (List Int × Int) := if l0.length ≤ 3518437208883 ∧ ∀ x ∈ l0, x.f3.size ≤ 140737488351232 then some ((mF ((l0.filter fun x => x.f0 == a1).map uX) []).1, ((mF ((l0.filter fun x => x.f0 == a1).map uX) []).2 : Int)) else none
theorem Uv (l : List (dP)) (a1 : Int) (i : Int) (f0 f2 : Int) (f3 : ByteArray) (d : Nat) : ∀ (out : List Int) (b : ByteArray) (cnt : Int), b.size ≤ d → b.size ≤ 140737488351232 → out.length ≤ 65536 →
 ((mJ d out b).2 ≠ 0 → ∃ k, gJ.l1 k l a1 out i b cnt f0 2 f2 f3 = some ([], ((mJ d out b).2 : Int))) ∧
 ((mJ d out b).2 = 0 → ∀ k0 r, gJ.l0 k0 l a1 (mJ d out b).1 (wrap64 (i + 1)) = some r → ∃ k, gJ.l1 k l a1 out i b cnt f0 2 f2 f3 = some r) := by
 induction d with
 | zero =>
  intro out b cnt hb hs ho
  refine ⟨fun h => absurd rfl h, fun _ k0 r h => ⟨k0 + 2, ?_⟩⟩
  rw [gJ.l1, iN (by decide), ip rfl, gJ.j3, iN (by rw [decide_eq_true_iff]; omega)]
  exact h
 | succ d ih =>
  intro out b cnt hb hs ho
  rw [mJ]
  by_cases h0 : b.size = 0
  · rw [ip h0]
    refine ⟨fun h => absurd rfl h, fun _ k0 r h => ⟨k0 + 2, ?_⟩⟩
    rw [gJ.l1, iN (by decide), ip rfl, gJ.j3, iN (by rw [decide_eq_true_iff]; omega)]
    exact h
  · rw [iN h0]
    have hg := G5 b
    have step : ∀ k, gJ.l1 (k + 2) l a1 out i b cnt f0 2 f2 f3 = (qJ.f b).bind fun o5 => (if o5.2.2 = 0 then (if 0 ≤ o5.2.1 then (if o5.2.1 ≤ (b.size : Int) then (if (out.length : Int) = 65536 then (some (([] : List Int), 7)) else (if out.length < 17592186044416 then (gJ.l1 k l a1 (out ++ [wrap64 (o5.1)]) i (b.extract (o5.2.1 : Int).toNat b.size) (wrap64 (cnt + 1)) f0 2 f2 f3) else (none))) else (none)) else (none)) else (some (([] : List Int), o5.2.2))) := by
     intro k
     rw [gJ.l1, iN (by decide), ip rfl, gJ.j3, ip (by rw [decide_eq_true_iff]; omega), ip rfl]
    obtain ⟨⟨y, n, e⟩, hr⟩ : ∃ x, eD b = x := ⟨_, rfl⟩
    simp only [qJ.f, Option.bind_some, hr] at hg step ⊢
    by_cases he : e = 0
    · subst he
      have g := hg rfl
      rw [iN (show ¬ ((0 : Nat) ≠ 0) by simp)]
      by_cases hl : 65536 ≤ out.length
      · rw [ip hl]
        refine ⟨fun _ => ⟨2, ?_⟩, fun h => absurd h (by decide)⟩
        rw [step 0, ip (by rfl), ip (by omega), ip (by omega), ip (by omega)]; rfl
      · rw [iN hl]
        have hsz := EN b n g.2.1
        obtain ⟨i1, i2⟩ := ih (out ++ [wrap64 (y : Int)]) (b.extract n b.size) (wrap64 (cnt + 1)) (by rw [hsz]; omega) (by rw [hsz]; omega) (by simp; omega)
        have hst : ∀ k, gJ.l1 (k + 2) l a1 out i b cnt f0 2 f2 f3 = gJ.l1 k l a1 (out ++ [wrap64 (y : Int)]) i (b.extract n b.size) (wrap64 (cnt + 1)) f0 2 f2 f3 := by
         intro k
         rw [step k, ip (by rfl), ip (by omega), ip (by omega), iN (by omega), ip (by omega), Int.toNat_natCast]
        refine ⟨fun h => ?_, fun h k0 r hk => ?_⟩
        · obtain ⟨k, hk⟩ := i1 h
          exact ⟨k + 2, (hst k).trans hk⟩
        · obtain ⟨k, hk⟩ := i2 h k0 r hk
          exact ⟨k + 2, (hst k).trans hk⟩
    · rw [ip he]
      refine ⟨fun _ => ⟨2, ?_⟩, fun h => absurd h he⟩
      rw [step 0, iN (by omega)]
theorem Vt (l : List (dP)) (a1 : Int) (hl : l.length ≤ 3518437208883) (hs : ∀ x ∈ l, x.f3.size ≤ 140737488351232) (d : Nat) : ∀ (i : Nat) (out : List Int), l.length - i = d → i ≤ l.length → out.length ≤ 65536 →
 ∃ k, gJ.l0 k l a1 out i = some ((mF (((l.drop i).filter fun x => x.f0 == a1).map uX) out).1, ((mF (((l.drop i).filter fun x => x.f0 == a1).map uX) out).2 : Int)) := by
 induction d with
 | zero =>
  intro i out hd hi ho
  refine ⟨1, ?_⟩
  rw [gJ.l0, iN (by omega), List.drop_of_length_le (by omega)]
  rfl
 | succ d ih =>
  intro i out hd hi ho
  have h0 : i < l.length := by omega
  have hsx := hs l[i] (List.getElem_mem _)
  have ew : wrap64 ((i : Int) + 1) = ((i + 1 : Nat) : Int) := by rw [fC (by omega) (by omega)]; omega
  have step : ∀ k, gJ.l0 (k + 1) l a1 out i = if l[i].f0 = a1 then (if l[i].f1 = 0 then gJ.j1 k l a1 out i false l[i].f0 l[i].f1 l[i].f2 l[i].f3 else gJ.j1 k l a1 out i (l[i].f1 != 2) l[i].f0 l[i].f1 l[i].f2 l[i].f3) else gJ.l0 k l a1 out (wrap64 ((i : Int) + 1)) := by
   intro k
   rw [gJ.l0, ip (by omega), ip (by omega)]
   simp only [Bh l i h0]
  rw [List.drop_eq_getElem_cons h0]
  generalize l[i] = x at *
  by_cases hx : x.f0 = a1
  · rw [List.filter_cons_of_pos (by simp [hx]), List.map_cons, mF]
    by_cases t0 : x.f1 = 0
    · rw [ip (show (uX x).2.1 = 0 from t0)]
      have one : ∀ k, gJ.l0 (k + 6) l a1 out i = if (out.length : Int) = 65536 then some (([] : List Int), 7) else (if out.length < 17592186044416 then gJ.l0 k l a1 (out ++ [wrap64 x.f2]) (wrap64 ((i : Int) + 1)) else none) := by
       intro k
       have w1 : wrap64 (0 + 1) = 1 := fC (by decide) (by decide)
       rw [step (k + 5), ip hx, ip t0, gJ.j1, iN (by decide), t0, gJ.l1, ip rfl, ip (by decide), gJ.j3, ip rfl, iN (by decide), w1]
       by_cases hf : (out.length : Int) = 65536
       · rw [ip hf, ip hf]
       · rw [iN hf, iN hf]
         by_cases hq : out.length < 17592186044416
         · rw [ip hq, ip hq, gJ.l1, ip rfl, iN (by decide), iN (by decide), gJ.j3, iN (by decide)]
         · rw [iN hq, iN hq]
      by_cases hf : 65536 ≤ out.length
      · rw [ip hf]
        exact ⟨6, by rw [one 0, ip (by omega)]; rfl⟩
      · rw [iN hf]
        obtain ⟨k, hk⟩ := ih (i + 1) (out ++ [wrap64 x.f2]) (by omega) (by omega) (by simp; omega)
        exact ⟨k + 6, by rw [one k, iN (by omega), ip (by omega), ew]; exact hk⟩
    · rw [iN (show ¬ (uX x).2.1 = 0 from t0)]
      by_cases t2 : x.f1 = 2
      · rw [ip (show (uX x).2.1 = 2 from t2)]
        have hcv : (uX x).2.2.2 = x.f3 := rfl
        simp only [hcv]
        obtain ⟨i1, i2⟩ := Uv l a1 i x.f0 x.f2 x.f3 x.f3.size out x.f3 0 (Nat.le_refl _) hsx ho
        have two : ∀ k, gJ.l0 (k + 2) l a1 out i = gJ.l1 k l a1 out i x.f3 0 x.f0 2 x.f2 x.f3 := by
         intro k
         rw [step (k + 1), ip hx, iN t0, gJ.j1, t2, iN (by decide)]
        by_cases hz : (mJ x.f3.size out x.f3).2 = 0
        · rw [iN (fun h => h hz)]
          obtain ⟨k0, hk0⟩ := ih (i + 1) (mJ x.f3.size out x.f3).1 (by omega) (by omega) (_Q _ _ _ ho)
          obtain ⟨k, hk⟩ := i2 hz k0 _ (by rw [ew]; exact hk0)
          exact ⟨k + 2, (two k).trans hk⟩
        · rw [ip hz]
          obtain ⟨k, hk⟩ := i1 hz
          exact ⟨k + 2, (two k).trans hk⟩
      · rw [iN (show ¬ (uX x).2.1 = 2 from t2)]
        refine ⟨2, ?_⟩
        rw [step 1, ip hx, iN t0, gJ.j1, ip (by simp [t2])]; rfl
  · rw [List.filter_cons_of_neg (by simp [hx])]
    obtain ⟨k, hk⟩ := ih (i + 1) out (by omega) (by omega) ho
    exact ⟨k + 1, by rw [step k, iN hx, ew]; exact hk⟩
theorem EM.ev (l0 : List (dP)) (a1 : Int) (r) (h : EM.f l0 a1 = some r) : ∃ k, gJ.f k l0 a1 = some r := by
 unfold EM.f at h
 split at h
 · rename_i hs
   rw [← h]
   exact Vt l0 a1 hs.1 hs.2 l0.length 0 [] (by omega) (by omega) (by simp)
 · cases h
theorem EM.calls (A0 : Option Addr) (c0 : Nat) (l0 : List (dP)) (a1 : Int) (r1 : List Int) (r2 : Int) (w : World) (hr0 : Kd.C oF w A0 l0.length l0) (hc0 : l0.length ≤ c0) (h : EM.f l0 a1 = some (r1, r2)) :
 Calls Tryz.prog 26 #[.slice A0 l0.length c0, .int .i64 a1] w fun e w' => ∃ gW : Value, e = .returned (.tuple #[gW, .int .i64 r2]) ∧ Kd.R (Kd.int .i64) 2 w' w.heap.size (fun _ => True) gW r1 ∧ Below w.heap.size w w' := by
 obtain ⟨k, hk⟩ := EM.ev l0 a1 _ h
 exact gJ.calls k A0 c0 l0 a1 r1 r2 w hr0 hc0 hk
section
mutual
def mE.l0 : Nat → List (dP) → Int → List ByteArray → Int → Option (List ByteArray × Int)
 | 0, _, _, _, _ => none
 | k + 1, x0, x1, x6, x7 => if x7 < (x0.length : Int) then (if 0 ≤ x7 then (if ((cB x0 x7).f0) = x1 then (mE.j1 k x0 x1 x6 x7 (((cB x0 x7).f1) != 2)) else (mE.j1 k x0 x1 x6 x7 false)) else (none)) else (some (x6, 0))
def mE.j1 : Nat → List (dP) → Int → List ByteArray → Int → Bool → Option (List ByteArray × Int)
 | 0, _, _, _, _, _ => none
 | k + 1, x0, x1, x6, x7, x28 => if x28 = true then (some (([] : List ByteArray), 3)) else (if 0 ≤ x7 then (if x7 < (x0.length : Int) then (if ((cB x0 x7).f0) = x1 then (if x6.length < 8796093022208 then (mE.l0 k x0 x1 (x6 ++ [(cB x0 x7).f3]) (wrap64 (x7 + 1))) else (none)) else (mE.l0 k x0 x1 x6 (wrap64 (x7 + 1)))) else (none)) else (none))
end
def mE.f (k : Nat) (l0 : List (dP)) (a1 : Int) : Option (List ByteArray × Int) := mE.l0 k l0 a1 ([] : List ByteArray) 0
theorem mE.calls (k : Nat) (A0 : Option Addr) (c0 : Nat) (l0 : List (dP)) (a1 : Int) (r1 : List ByteArray) (r2 : Int) (w : World) (hr0 : Kd.C oF w A0 l0.length l0) (hc0 : l0.length ≤ c0) (h : mE.f k l0 a1 = some (r1, r2)) :
 Calls Tryz.prog 27 #[.slice A0 l0.length c0, .int .i64 a1] w fun e w' => ∃ gW : Value, e = .returned (.tuple #[gW, .int .i64 r2]) ∧ Kd.R Kd.string 9 w' w.heap.size (fun _ => True) gW r1 ∧ Below w.heap.size w w' := by
 have fF := aA hr0; have oO := aA hc0; clear hr0 hc0; have HB := aA (Below.refl w.heap.size w); have H : (mE.l0 k l0 a1 ([] : List ByteArray) 0) = some (r1, r2) := h; clear h; have H' := aA H; clear H
 go_enter Tryz.func27, Tryz.ntmps27
 go_wp2
 go_loopg [6, 7] k (fun kq v6 v7 w' => ∃ (bH : List ByteArray) (aH : Int), v7 = .int .i64 aH ∧ aC (mE.l0 kq l0 a1 bH aH = some (r1, r2)) ∧ aC (kq ≤ k) ∧ aC (Kd.R Kd.string 9 w' w.heap.size (fun _ => True) v6 bH) ∧ aC (Below w.heap.size w w'))
 case atStart => exact ⟨(([] : List ByteArray)), (0), aZ, H', ⟨Nat.le_refl _⟩, ⟨nC⟩, ⟨aJ HB⟩⟩
 case round =>
  clear H'; obtain ⟨bH, aH, rfl, HA, bD, fH, HB⟩ := hrel
  cases gk with
  | zero => exact absurd HA.out (by simp [mE.l0])
  | succ k1 =>
   have H := HA.out; clear HA
   simp only [mE.l0] at H
   by_cases c3 : aH < (l0.length : Int)
   ·
    rw [ip c3] at H; have gL := dT c3; clear c3; have OO := aA H; clear H
    go_upto_region 5 with (fail)
    go_cut [28] (fun v28 wc => ∃ (kq : Nat) (ZR : Bool), v28 = .bool ZR ∧ aC (mE.j1 kq l0 a1 bH aH ZR = some (r1, r2)) ∧ aC (kq ≤ k1) ∧ aC (Kd.R Kd.string 9 wc w.heap.size (fun _ => True) u6 bH) ∧ aC (Below w.heap.size w wc))
    case first =>
     have H := OO.out; clear OO; replace H := dU H; obtain ⟨c5, H⟩ := H; have iH := dT c5; clear c5
     (first | rw [iH] | (simp only [dC, iC]; rw [iH]) | skip)
     by_cases c6 : ((cB l0 aH).f0) = a1
     ·
      rw [ip c6] at H; obtain ⟨kP, wD⟩ := dH c6; clear c6; have H' := aA H; clear H; have dL : 0 ≤ (aH : Int) := aK; have dM : aH < (l0.length : Int) := aK; obtain ⟨lD, iM, gD, kR, pJ, pK⟩ := AQ fF.out aH dL dM; cases iM; replace gD := hbc HB gD; replace kR := hbc HB kR; replace pJ := hbc HB pJ; replace pK := hbc HB pK; replace dL := eT dL; replace dM := eT dM; have jO : 0 ≤ (aH : Int) := aK; have jP : aH < (l0.length : Int) := aK; obtain ⟨vT, qU, rQ, JR, TP, TQ⟩ := AQ fF.out aH jO jP; obtain rfl : lD = vT := (by injection qU); replace rQ := hbc HB rQ; replace JR := hbc HB JR; replace TP := hbc HB TP; replace TQ := hbc HB TQ; replace jO := eT jO; replace jP := eT jP
      go_wp2
      go_meet
      case rel => exact ⟨_, ((((cB l0 aH).f1) != 2)), aZ, H', ⟨by have := bD.out; first | omega | exact Nat.le_refl _⟩, ⟨dZ fH⟩, ⟨aJ HB⟩⟩
     ·
      rw [iN c6] at H; have kP := beq_eq_false_iff_ne.mpr c6; have wD := bne_iff_ne.mpr c6; have H' := aA H; clear H; have dL : 0 ≤ (aH : Int) := aK; have dM : aH < (l0.length : Int) := aK; obtain ⟨lD, iM, gD, kR, pJ, pK⟩ := AQ fF.out aH dL dM; cases iM; replace gD := hbc HB gD; replace kR := hbc HB kR; replace pJ := hbc HB pJ; replace pK := hbc HB pK; replace dL := eT dL; replace dM := eT dM
      go_wp2
      go_meet
      case rel => exact ⟨_, (false), aZ, H', ⟨by have := bD.out; first | omega | exact Nat.le_refl _⟩, ⟨dZ fH⟩, ⟨aJ HB⟩⟩
    case rest =>
     clear OO; try clear c3; try clear gL
     obtain ⟨kq, ZR, rfl, HA, KI, fH, HB⟩ := hcut
     cases kq with
     | zero => exact absurd HA.out (by simp [mE.j1])
     | succ M5 =>
      have H := HA.out; clear HA
      simp only [mE.j1] at H
      by_cases c7 : ZR = true
      ·
       subst c7; have H1 : (some (([] : List ByteArray), 3)) = some (r1, r2) := by rw [ip rfl] at H; exact H
       clear H; have H := H1; clear H1
       simp only [Option.some.injEq, Prod.mk.injEq] at H
       obtain ⟨rfl, rfl⟩ := H
       go_wp2
       go_ret2
       exact ⟨_, eH, nC, aJ HB⟩
      ·
       replace c7 := Bool.eq_false_iff.mpr c7; subst c7; have H1 : (if 0 ≤ aH then (if aH < (l0.length : Int) then (if ((cB l0 aH).f0) = a1 then (if bH.length < 8796093022208 then (mE.l0 M5 l0 a1 (bH ++ [(cB l0 aH).f3]) (wrap64 (aH + 1))) else (none)) else (mE.l0 M5 l0 a1 bH (wrap64 (aH + 1)))) else (none)) else (none)) = some (r1, r2) := by rw [iN (show ¬ (false = true) by decide)] at H; exact H
       clear H; have H := H1; clear H1; replace H := dU H; obtain ⟨c8, H⟩ := H; have mG := dT c8; clear c8; replace H := dU H; obtain ⟨c9, H⟩ := H; have mO := dT c9; clear c9
       by_cases c10 : ((cB l0 aH).f0) = a1
       ·
        rw [ip c10] at H; obtain ⟨qO, zN⟩ := dH c10; clear c10; replace H := dU H; obtain ⟨c11, H⟩ := H; have aDx := aA c11; clear c11; obtain ⟨Oz, UT⟩ : ∃ y_ : List ByteArray, y_ = (bH ++ [(cB l0 aH).f3]) := ⟨_, rfl⟩; replace H : (mE.l0 M5 l0 a1 Oz (wrap64 (aH + 1))) = some (r1, r2) := by first | (rw [UT]; with_reducible exact H) | (have fI := (Option.bind_some _ _).symm.trans H; rw [UT]; with_reducible exact fI) | (have fI := (Option.bind_some _ _).symm.trans H; with_reducible exact fI) | with_reducible exact H | (rw [UT]; exact H) | exact H
        have aDG := aA UT; clear UT; have H' := aA H; clear H; have j6 : 0 ≤ (aH : Int) := aK; have kC : aH < (l0.length : Int) := aK; obtain ⟨uN, rY, uI, IE, TR, TS⟩ := AQ fF.out aH j6 kC; cases rY; replace uI := hbc HB uI; replace IE := hbc HB IE; replace TR := hbc HB TR; replace TS := hbc HB TS; replace j6 := eT j6; replace kC := eT kC; have jC : 0 ≤ (aH : Int) := aK; have jD : aH < (l0.length : Int) := aK; obtain ⟨uO, pV, uJ, EZ, JS, JU⟩ := AQ fF.out aH jC jD; obtain rfl : uN = uO := (by injection pV); replace uJ := hbc HB uJ; replace EZ := hbc HB EZ; replace JS := hbc HB JS; replace JU := hbc HB JU; replace jC := eT jC; replace jD := eT jD
        go_wp2_with (first | ((with_reducible refine qD (b := .append) (xs := #[.tmp 36, .tmp 42]) rfl ?_); at_builtin; refine Kd.qZ Kd.string (w0 := w) w.heap.size rfl (.tmp 36) (.tmp 42) 56 9 (.string ⟨#[]⟩) 16 rfl Tryz.underlying56 Nk rfl (by decide) (by omega) u6 bH ((cB l0 aH).f3) [.string ((cB l0 aH).f3)] (fun _ => True) (fun _ => False) rfl rfl ?aP (fun _ hk => hk.elim) ?aF ?aO ?aB ?aS ?aL ?_; (case aP => exact rfl); (case aB => exact (aJ HB)); (case aF => exact (fun _ _ => trivial)); (case aO => exact (dZ fH)); (case aS => exact (iI (aJ HB))); (case aL => have := aDx.out; omega); intro RF O4 ho hb hg hat; rw [← aDG.out] at ho; replace HB := aA hb; have rD := aA ho; clear fH; clear ho hb hg hat))
        go_roundg M5
        case measure => have := bD.out; have := KI.out; omega
        case rel => exact ⟨(Oz), (wrap64 (aH + 1)), aZ, H', ⟨by have := bD.out; have := KI.out; omega⟩, ⟨dZ rD⟩, ⟨aJ HB⟩⟩
       ·
        rw [iN c10] at H; have qO := beq_eq_false_iff_ne.mpr c10; have zN := bne_iff_ne.mpr c10; have H' := aA H; clear H; have j6 : 0 ≤ (aH : Int) := aK; have kC : aH < (l0.length : Int) := aK; obtain ⟨uN, rY, uI, IE, TR, TS⟩ := AQ fF.out aH j6 kC; cases rY; replace uI := hbc HB uI; replace IE := hbc HB IE; replace TR := hbc HB TR; replace TS := hbc HB TS; replace j6 := eT j6; replace kC := eT kC
        go_wp2
        go_roundg M5
        case measure => have := bD.out; have := KI.out; omega
        case rel => exact ⟨(bH), (wrap64 (aH + 1)), aZ, H', ⟨by have := bD.out; have := KI.out; omega⟩, ⟨dZ fH⟩, ⟨aJ HB⟩⟩
   ·
    rw [iN c3] at H; have gL := dF c3; clear c3
    simp only [Option.some.injEq, Prod.mk.injEq] at H
    obtain ⟨rfl, rfl⟩ := H
    go_wp2
    go_ret2
    exact ⟨_, eH, dZ fH, aJ HB⟩
end
end Go.Proofs.YtgmggompdidcoaaGreatDoor.X
