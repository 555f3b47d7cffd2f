import Derived.Test.YtgmggompdidcoaaGreatDoorMPbtensorReads13
import Derived.Test.YtgmggompdidcoaaGreatDoorMPbtensorReads17
namespace Go.Proofs.YtgmggompdidcoaaGreatDoor.X
open Go.RowKit Go.Proofs.YtgmggompdidcoaaGreatDoorW.aX Go.Proofs.YtgmggompdidcoaaGreatDoorW.bJ Go.Proofs.YtgmggompdidcoaaGreatDoorW.bK
attribute [local go_sem] bO bQ bS bU bM bN bP bR
set_option linter.unusedVariables false
set_option linter.unusedSimpArgs false
set_option maxHeartbeats 8000000
set_option maxRecDepth 100000
def aDL (w : World) (e : Ending) (w' : World) : Prop := e = .returned (.bool true) ∧ Below w.heap.size w w'
structure MP (w w' : World) (g8 g12 : Nat) (a : ByteArray) (k : Int) (d : List Int) (x : ByteArray) (A5 : Option Addr) (c5 : Nat) (sF : Option Addr) (c10 : Nat) : Prop where
 b : Below w.heap.size w w'
 m : w'.heap[g8]? = some (.cells #[.string a, .int .i64 k, .slice A5 d.length c5, .string x] 38 (0, 0))
 u : w'.heap[g12]? = some (.cells #[.string a, .int .i64 k, .slice sF d.length c10, .string x] 33 (0, 0))
 l5 : d.length ≤ c5
 l10 : d.length ≤ c10
 r5 : Kd.F (Kd.int .i64) w' (fun _ => True) A5 d.length d
 Bf : Kd.F (Kd.int .i64) w' (fun _ => True) sF d.length d
theorem MP.step {w w' V : World} {g8 g12 : Nat} {a : ByteArray} {k : Int} {d : List Int} {x : ByteArray} {A5 : Option Addr} {c5 : Nat} {sF : Option Addr} {c10 : Nat} (h : MP w w' g8 g12 a k d x A5 c5 sF c10) (hB : Below w'.heap.size w' V) : MP w V g8 g12 a k d x A5 c5 sF c10 :=
 ⟨jV h.b hB, oK h.m hB, oK h.u hB, h.l5, h.l10, kZ h.r5 hB, kZ h.Bf hB⟩
theorem MP.drew {w w' : World} {g8 g12 : Nat} {a : ByteArray} {k : Int} {d : List Int} {x : ByteArray} {A5 : Option Addr} {c5 : Nat} {sF : Option Addr} {c10 : Nat} (h : MP w w' g8 g12 a k d x A5 c5 sF c10) : MP w w'.drew g8 g12 a k d x A5 c5 sF c10 :=
 ⟨iO h.b, kU h.m, kU h.u, h.l5, h.l10, Kd.jf h.r5, Kd.jf h.Bf⟩
def vB.l0 : Nat → List (dP) → Int → List (dP) → Int → Option ((List (dP)))
 | 0, _, _, _, _ => none
 | k + 1, x0, x1, x5, x6 => if x6 < (x0.length : Int) then (if 0 ≤ x6 then (if ((cB x0 x6).f0) = x1 then (if x5.length < 3518437208883 then (vB.l0 k x0 x1 (x5 ++ [(⟨(cB x0 x6).f0, (cB x0 x6).f1, (cB x0 x6).f2, (cB x0 x6).f3⟩ : dP)]) (wrap64 (x6 + 1))) else (none)) else (vB.l0 k x0 x1 x5 (wrap64 (x6 + 1)))) else (none)) else (some x5)
def vB.f (k : Nat) (l0 : List (dP)) (a1 : Int) : Option ((List (dP))) := vB.l0 k l0 a1 ([] : List (dP)) 0
theorem vB.calls (k : Nat) (A0 : Option Addr) (c0 : Nat) (l0 : List (dP)) (a1 : Int) (r : List (dP)) (w : World) (hr0 : Kd.C oF w A0 l0.length l0) (hc0 : l0.length ≤ c0) (h : vB.f k l0 a1 = some r) :
 Calls Tryz.prog 64 #[.slice A0 l0.length c0, .int .i64 a1] w fun e w' => ∃ gW : Value, e = .returned (gW) ∧ Kd.R oF 68 w' w.heap.size (fun _ => True) gW r ∧ Below w.heap.size w w' := by
 have U9 := Tryz.underlying68; have fF := aA hr0; have oO := aA hc0; clear hr0 hc0; have HB := aA (Below.refl w.heap.size w); have H : (vB.l0 k l0 a1 ([] : List (dP)) 0) = some r := h; clear h; have H' := aA H; clear H
 go_enter Tryz.func64, Tryz.ntmps64
 go_wp2
 go_loopg [5, 6] k (fun kq v5 v6 w' => ∃ (eU : List (dP)) (bH : Int), v6 = .int .i64 bH ∧ aC (vB.l0 kq l0 a1 eU bH = some r) ∧ aC (kq ≤ k) ∧ aC (Kd.R oF 68 w' w.heap.size (fun _ => True) v5 eU) ∧ aC (Below w.heap.size w w'))
 case atStart => exact ⟨(([] : List (dP))), (0), aZ, H', ⟨Nat.le_refl _⟩, ⟨nC⟩, ⟨aJ HB⟩⟩
 case round =>
  clear H'; obtain ⟨eU, bH, rfl, HA, bD, qQ, HB⟩ := hrel
  cases gk with
  | zero => exact absurd HA.out (by simp [vB.l0])
  | succ k1 =>
   have H := HA.out; clear HA
   simp only [vB.l0] at H
   by_cases c3 : bH < (l0.length : Int)
   ·
    rw [ip c3] at H; have gL := dT c3; clear c3; replace H := dU H; obtain ⟨c4, H⟩ := H; have fP := dT c4; clear c4
    by_cases c5 : ((cB l0 bH).f0) = a1
    ·
     rw [ip c5] at H; obtain ⟨iH, lF⟩ := dH c5; clear c5; replace H := dU H; obtain ⟨c6, H⟩ := H; have U0 := aA c6; clear c6; obtain ⟨MF, vW⟩ : ∃ y_ : List (dP), y_ = (eU ++ [(⟨(cB l0 bH).f0, (cB l0 bH).f1, (cB l0 bH).f2, (cB l0 bH).f3⟩ : dP)]) := ⟨_, rfl⟩; replace H : (vB.l0 k1 l0 a1 MF (wrap64 (bH + 1))) = some r := by first | (rw [vW]; with_reducible exact H) | (have fI := (Option.bind_some _ _).symm.trans H; rw [vW]; with_reducible exact fI) | (have fI := (Option.bind_some _ _).symm.trans H; with_reducible exact fI) | with_reducible exact H | (rw [vW]; exact H) | exact H
     have UM := aA vW; clear vW; have H' := aA H; clear H; have dL : 0 ≤ (bH : Int) := aK; have dM : bH < (l0.length : Int) := aK; obtain ⟨lD, iM, gD, kR, pJ, pK⟩ := AQ fF.out bH dL dM; cases iM; replace gD := hbc HB gD; replace kR := hbc HB kR; replace pJ := hbc HB pJ; replace pK := hbc HB pK; replace dL := eT dL; replace dM := eT dM; have jO : 0 ≤ (bH : Int) := aK; have jP : bH < (l0.length : Int) := aK; obtain ⟨vT, qU, rQ, JR, TP, TQ⟩ := AQ fF.out bH jO jP; obtain rfl : lD = vT := (by injection qU); replace rQ := hbc HB rQ; replace JR := hbc HB JR; replace TP := hbc HB TP; replace TQ := hbc HB TQ; replace jO := eT jO; replace jP := eT jP
     go_wp2_with (first | ((with_reducible refine qD (b := .append) (xs := #[.tmp 20, .tmp 25]) rfl ?_); at_builtin; refine Kd.qZ oF (w0 := w) w.heap.size rfl (.tmp 20) (.tmp 25) 64 68 (.agg #[(.int .i64 0), (.int .i64 0), (.int .u64 0), (.string ⟨#[]⟩)]) 40 rfl Tryz.underlying64 YX rfl (by decide) (by omega) u5 eU (⟨(cB l0 bH).f0, (cB l0 bH).f1, (cB l0 bH).f2, (cB l0 bH).f3⟩ : dP) [.int .i64 ((cB l0 bH).f0), .int .i64 ((cB l0 bH).f1), .int .u64 ((cB l0 bH).f2), .string ((cB l0 bH).f3)] (fun _ => True) (fun _ => False) rfl rfl ?aP (fun _ hk => hk.elim) ?aF ?aO ?aB ?aS ?aL ?_; (case aP => exact YN _ _ _ (⟨(cB l0 bH).f0, (cB l0 bH).f1, (cB l0 bH).f2, (cB l0 bH).f3⟩ : dP)); (case aB => exact (aJ HB)); (case aF => exact (fun _ _ => trivial)); (case aO => exact (dZ qQ)); (case aS => exact (iI (aJ HB))); (case aL => have := U0.out; omega); intro Oy w7 ho hb hg hat; rw [← UM.out] at ho; replace HB := aA hb; have UK := aA ho; clear qQ; clear ho hb hg hat))
     go_roundg k1
     case measure => have := bD.out; omega
     case rel => exact ⟨(MF), (wrap64 (bH + 1)), aZ, H', iK bD, ⟨dZ UK⟩, ⟨aJ HB⟩⟩
    ·
     rw [iN c5] at H; have iH := beq_eq_false_iff_ne.mpr c5; have lF := bne_iff_ne.mpr c5; have H' := aA H; clear H; have dL : 0 ≤ (bH : Int) := aK; have dM : bH < (l0.length : Int) := aK; obtain ⟨lD, iM, gD, kR, pJ, pK⟩ := AQ fF.out bH dL dM; cases iM; replace gD := hbc HB gD; replace kR := hbc HB kR; replace pJ := hbc HB pJ; replace pK := hbc HB pK; replace dL := eT dL; replace dM := eT dM
     go_wp2
     go_roundg k1
     case measure => have := bD.out; omega
     case rel => exact ⟨(eU), (wrap64 (bH + 1)), aZ, H', iK bD, ⟨dZ qQ⟩, ⟨aJ HB⟩⟩
   ·
    rw [iN c3] at H; have gL := dF c3; clear c3; obtain rfl := Option.some.inj H
    go_wp2
    go_ret
    exact ⟨_, eH, dZ qQ, aJ HB⟩
def DR.f (l0 : List (dP)) (a1 : Int) : Option (List (dP)) := if l0.length ≤ 3518437208883 then some (l0.filter fun x => x.f0 == a1) else none
theorem Sy (l0 : List (dP)) (a1 : Int) (hb : l0.length ≤ 3518437208883) (d : Nat) : ∀ (k i : Nat) (acc : List (dP)), l0.length - i = d → i ≤ l0.length → acc.length ≤ i → d < k →
 vB.l0 k l0 a1 acc i = some (acc ++ (l0.drop i).filter fun x => x.f0 == a1) := by
 induction d with
 | zero =>
  intro k i acc hd hi ha hk
  obtain ⟨k, rfl⟩ : ∃ m, k = m + 1 := ⟨k - 1, by omega⟩
  simp only [vB.l0]
  rw [iN (by omega), List.drop_of_length_le (by omega)]
  simp
 | succ d ih =>
  intro k i acc hd hi ha hk
  obtain ⟨k, rfl⟩ : ∃ m, k = m + 1 := ⟨k - 1, by omega⟩
  have h0 : i < l0.length := by omega
  have e0 : cB l0 (i : Int) = l0[i] := by simp [cB, List.getD_eq_getElem?_getD, h0]
  simp only [vB.l0, e0]
  rw [ip (by omega), ip (by omega), List.drop_eq_getElem_cons h0, fC (by omega) (by omega)]
  try rw [ip (show (i : Int) < (l0.length : Int) by omega)]
  by_cases h : l0[i].f0 = a1
  · rw [ip h, ip (by omega)]
    have := ih k (i + 1) (acc ++ [l0[i]]) (by omega) (by omega) (by simp; omega) (by omega)
    refine this.trans ?_
    rw [List.filter_cons_of_pos (by simp [h]), List.append_assoc]; rfl
  · rw [iN h]
    have := ih k (i + 1) acc (by omega) (by omega) (by omega) (by omega)
    refine this.trans ?_
    rw [List.filter_cons_of_neg (by simp [h])]
theorem DR.ev (l0 : List (dP)) (a1 : Int) (r) (h : DR.f l0 a1 = some r) : ∃ k, vB.f k l0 a1 = some r := by
 unfold DR.f at h
 split at h
 · rename_i hb
   rw [← h]
   refine ⟨l0.length + 1, ?_⟩
   unfold vB.f
   simpa using Sy l0 a1 hb l0.length (l0.length + 1) 0 [] (by omega) (by omega) (by simp) (by omega)
 · cases h
theorem DR.calls (A0 : Option Addr) (c0 : Nat) (l0 : List (dP)) (a1 : Int) (r : List (dP)) (w : World) (hr0 : Kd.C oF w A0 l0.length l0) (hc0 : l0.length ≤ c0) (h : DR.f l0 a1 = some r) :
 Calls Tryz.prog 64 #[.slice A0 l0.length c0, .int .i64 a1] w fun e w' => ∃ gW : Value, e = .returned (gW) ∧ Kd.R oF 68 w' w.heap.size (fun _ => True) gW r ∧ Below w.heap.size w w' := by
 obtain ⟨k, hk⟩ := DR.ev l0 a1 _ h
 exact vB.calls k A0 c0 l0 a1 r w hr0 hc0 hk
def GQ.f (l0 : List (dP)) (a1 : Int) (a2 : Int) : Option (Int × Int × Int × ByteArray × Bool × Int) := (DR.f l0 a1).bind fun t102 => (if (t102.length : Int) = 0 then (some (0, 0, 0, (⟨#[]⟩ : ByteArray), false, 0)) else (if 0 ≤ (wrap64 ((t102.length : Int) - 1)) then (if (wrap64 ((t102.length : Int) - 1)) < (t102.length : Int) then (if ((cB t102 (wrap64 ((t102.length : Int) - 1))).f1) = a2 then (some ((cB t102 (wrap64 ((t102.length : Int) - 1))).f0, (cB t102 (wrap64 ((t102.length : Int) - 1))).f1, (cB t102 (wrap64 ((t102.length : Int) - 1))).f2, (cB t102 (wrap64 ((t102.length : Int) - 1))).f3, true, 0)) else (some (0, 0, 0, (⟨#[]⟩ : ByteArray), true, 3))) else (none)) else (none)))
theorem GQ.calls (A0 : Option Addr) (c0 : Nat) (l0 : List (dP)) (a1 : Int) (a2 : Int) (r1 : Int) (r2 : Int) (r3 : Int) (r4 : ByteArray) (r5 : Bool) (r6 : Int) (w : World) (hr0 : Kd.C oF w A0 l0.length l0) (hc0 : l0.length ≤ c0) (h : GQ.f l0 a1 a2 = some (r1, r2, r3, r4, r5, r6)) :
 Calls Tryz.prog 25 #[.slice A0 l0.length c0, .int .i64 a1, .int .i64 a2] w fun e w' => e = .returned (.tuple #[.agg #[.int .i64 r1, .int .i64 r2, .int .u64 r3, .string r4], .bool r5, .int .i64 r6]) ∧ Below w.heap.size w w' := by
 have U9 := Tryz.underlying68; have fF := aA hr0; have oO := aA hc0; clear hr0 hc0; have HB := aA (Below.refl w.heap.size w); have H : ((DR.f l0 a1).bind fun t102 => (if (t102.length : Int) = 0 then (some (0, 0, 0, (⟨#[]⟩ : ByteArray), false, 0)) else (if 0 ≤ (wrap64 ((t102.length : Int) - 1)) then (if (wrap64 ((t102.length : Int) - 1)) < (t102.length : Int) then (if ((cB t102 (wrap64 ((t102.length : Int) - 1))).f1) = a2 then (some ((cB t102 (wrap64 ((t102.length : Int) - 1))).f0, (cB t102 (wrap64 ((t102.length : Int) - 1))).f1, (cB t102 (wrap64 ((t102.length : Int) - 1))).f2, (cB t102 (wrap64 ((t102.length : Int) - 1))).f3, true, 0)) else (some (0, 0, 0, (⟨#[]⟩ : ByteArray), true, 3))) else (none)) else (none)))) = some (r1, r2, r3, r4, r5, r6) := h; clear h; replace H := bnd H; obtain ⟨t102, A4, H⟩ := H
 by_cases c5 : (t102.length : Int) = 0
 ·
  rw [ip c5] at H; obtain ⟨iH, lF⟩ := dH c5; clear c5
  simp only [Option.some.injEq, Prod.mk.injEq] at H
  obtain ⟨rfl, rfl, rfl, rfl, rfl, rfl⟩ := H
  go_enter Tryz.func25, Tryz.ntmps25
  go_wp2_with (first | ((with_reducible refine cK (N := 6) rfl ?_); refine dB (N := 6) (cs := #[.int .i64 0, .int .i64 0, .int .u64 0, .string ⟨#[]⟩]) (t := 68) ?_; intro dG hg w6 aG hb; have aD := aA aG; have lV := bB HB hg; have lU := bB HB hg; replace HB := hbS HB hb; clear hb aG hg) | ((with_reducible refine dJ (f := 64) rfl ?_); refine dV (some 13) rfl rfl Tryz.func64 (by kernel_rfl) rfl #[.slice A0 l0.length c0, .int .i64 a1] rfl ?_; (with_reducible refine (DR.calls _ _ l0 a1 t102 _ ?iU ?iV A4.out).mono ?_); (case iU => exact uY fF HB); (case iV => exact oO.out); rintro e w7 ⟨KD, rfl, ho0, hb⟩; refine ⟨_, rfl, ?_⟩; have lY := aA (Kd.nV (Kd.T9 ho0 (g := dG) (o := .cells #[.int .i64 0, .int .i64 0, .int .u64 0, .string ⟨#[]⟩] 68 (0, 0)) (fZ aD)) (iI (aJ HB))); replace aD := aI aD hb; replace HB := hbS HB hb; (try clear hb); (try clear ho0); obtain ⟨VF, V3, V4⟩ := Kd.jF lY.out; subst V4; obtain ⟨Lh, Li, Lj, Ll⟩ := aN aD; have aC8 := fz aD 0; have aC9 := fz aD 1; have aC' := fz aD 2; have aDa := eZ aD.out 3))
  refine bodyPost_ret (wX rfl _ _ dG 68 #[.int .i64 0, .int .i64 0, .int .u64 0, .string ⟨#[]⟩] (0, 0) _ rfl (aU aD) Tryz.underlying68 rfl (by kernel_rfl)) rfl ?_
  exact ⟨eH, aJ HB⟩
 ·
  rw [iN c5] at H; have iH := beq_eq_false_iff_ne.mpr c5; have lF := bne_iff_ne.mpr c5; have aIy : ¬ (t102 = []) := fun h_ => c5 (by rw [h_]; rfl); obtain ⟨tQ, QU⟩ : ∃ j_ : Int, (wrap64 ((t102.length : Int) - 1)) = j_ := ⟨_, rfl⟩; replace H : (if 0 ≤ (tQ) then (if (tQ) < (t102.length : Int) then (if ((cB t102 (tQ)).f1) = a2 then (some ((cB t102 (tQ)).f0, (cB t102 (tQ)).f1, (cB t102 (tQ)).f2, (cB t102 (tQ)).f3, true, 0)) else (some (0, 0, 0, (⟨#[]⟩ : ByteArray), true, 3))) else (none)) else (none)) = some (r1, r2, r3, r4, r5, r6) := by first | (rw [QU] at H; exact H) | (simp only [QU] at H ⊢; exact H)
  (try rw [QU] at A4)
  have aHo : (IntKind.i64.wrap ((t102.length : Int) - 1)) = tQ := (dC _).trans QU; replace H := dU H; obtain ⟨c11, H⟩ := H; have nJ := dT c11; clear c11; replace H := dU H; obtain ⟨c12, H⟩ := H; have tH := dT c12; clear c12
  by_cases c13 : ((cB t102 (tQ)).f1) = a2
  ·
   rw [ip c13] at H; obtain ⟨vU, OB⟩ := dH c13; clear c13
   simp only [Option.some.injEq, Prod.mk.injEq] at H
   obtain ⟨rfl, rfl, rfl, rfl, rfl, rfl⟩ := H
   go_enter Tryz.func25, Tryz.ntmps25
   go_wp2_with (first | ((with_reducible refine cK (N := 6) rfl ?_); refine dB (N := 6) (cs := #[.int .i64 0, .int .i64 0, .int .u64 0, .string ⟨#[]⟩]) (t := 68) ?_; intro dG hg R6 aG hb; have aD := aA aG; have lV := bB HB hg; have lU := bB HB hg; replace HB := hbS HB hb; clear hb aG hg) | ((with_reducible refine dJ (f := 64) rfl ?_); refine dV (some 13) rfl rfl Tryz.func64 (by kernel_rfl) rfl #[.slice A0 l0.length c0, .int .i64 a1] rfl ?_; (with_reducible refine (DR.calls _ _ l0 a1 t102 _ ?iU ?iV A4.out).mono ?_); (case iU => exact uY fF HB); (case iV => exact oO.out); rintro e O5 ⟨KD, rfl, ho0, hb⟩; refine ⟨_, rfl, ?_⟩; have lY := aA (Kd.nV (Kd.T9 ho0 (g := dG) (o := .cells #[.int .i64 0, .int .i64 0, .int .u64 0, .string ⟨#[]⟩] 68 (0, 0)) (fZ aD)) (iI (aJ HB))); replace aD := aI aD hb; replace HB := hbS HB hb; (try clear hb); (try clear ho0); obtain ⟨aH', aIA, aE5⟩ := Kd.jF lY.out; subst aE5; have tT : 0 ≤ ((tQ) : Int) := aK; have tV : (tQ) < (t102.length : Int) := aK; obtain ⟨Y8, J9, YL, Kk, Kl, Km⟩ := AQ (Kd.jA lY.out).2.2 (tQ) tT tV; cases J9; replace tT := eT tT; replace tV := eT tV) | ((with_reducible refine cK (N := 10) rfl ?_); refine dB (N := 10) (cs := #[.int .i64 0, .int .i64 0, .int .u64 0, .string ⟨#[]⟩]) (t := 68) ?_; intro FN hg qI aG hb; replace lY := aA (Kd.gU (Kd.zB (dZ lY) FN (Nat.le_of_eq hg.symm)) hb); have gX := aA aG; have Mf := bB HB hg; have Me := bB HB hg; replace HB := hbS HB hb; have AJ := cO aD hg; have AL := dD aD hg; replace aD := aI aD hb; clear hb aG hg; have Ng := AL.out; have Ni := AJ.out; obtain ⟨YB, YC, YD, YE⟩ := aN gX; have YH := fz gX 0; have YI := fz gX 1; have YJ := fz gX 2; have YK := fz gX 3; obtain ⟨EU, EW, H8, IA⟩ := aN aD; have EX := fz aD 0; have EY := fz aD 1; have IB := fz aD 2; have IC := eZ aD.out 3))
   refine bodyPost_ret (wX rfl _ _ dG 68 #[.int .i64 ((cB t102 (tQ)).f0), .int .i64 ((cB t102 (tQ)).f1), .int .u64 ((cB t102 (tQ)).f2), .string ((cB t102 (tQ)).f3)] (0, 0) _ rfl (aU aD) Tryz.underlying68 rfl (by kernel_rfl)) rfl ?_
   exact ⟨by first | rfl | (simp [nG, nH] <;> rfl) | (simp only [← QU]; first | rfl | (simp [nG, nH] <;> rfl)) | (simp [*, nG, nH] <;> rfl), aJ HB⟩
  ·
   rw [iN c13] at H; have vU := beq_eq_false_iff_ne.mpr c13; have OB := bne_iff_ne.mpr c13
   simp only [Option.some.injEq, Prod.mk.injEq] at H
   obtain ⟨rfl, rfl, rfl, rfl, rfl, rfl⟩ := H
   go_enter Tryz.func25, Tryz.ntmps25
   go_wp2_with (first | ((with_reducible refine cK (N := 6) rfl ?_); refine dB (N := 6) (cs := #[.int .i64 0, .int .i64 0, .int .u64 0, .string ⟨#[]⟩]) (t := 68) ?_; intro dG hg oG aG hb; have aD := aA aG; have lV := bB HB hg; have lU := bB HB hg; replace HB := hbS HB hb; clear hb aG hg) | ((with_reducible refine dJ (f := 64) rfl ?_); refine dV (some 13) rfl rfl Tryz.func64 (by kernel_rfl) rfl #[.slice A0 l0.length c0, .int .i64 a1] rfl ?_; (with_reducible refine (DR.calls _ _ l0 a1 t102 _ ?iU ?iV A4.out).mono ?_); (case iU => exact uY fF HB); (case iV => exact oO.out); rintro e R7 ⟨KD, rfl, ho0, hb⟩; refine ⟨_, rfl, ?_⟩; have lY := aA (Kd.nV (Kd.T9 ho0 (g := dG) (o := .cells #[.int .i64 0, .int .i64 0, .int .u64 0, .string ⟨#[]⟩] 68 (0, 0)) (fZ aD)) (iI (aJ HB))); replace aD := aI aD hb; replace HB := hbS HB hb; (try clear hb); (try clear ho0); obtain ⟨aIa, aIB, aE7⟩ := Kd.jF lY.out; subst aE7; have tT : 0 ≤ ((tQ) : Int) := aK; have tV : (tQ) < (t102.length : Int) := aK; obtain ⟨Y8, J9, YL, Kk, Kl, Km⟩ := AQ (Kd.jA lY.out).2.2 (tQ) tT tV; cases J9; replace tT := eT tT; replace tV := eT tV) | ((with_reducible refine cK (N := 10) rfl ?_); refine dB (N := 10) (cs := #[.int .i64 0, .int .i64 0, .int .u64 0, .string ⟨#[]⟩]) (t := 68) ?_; intro FN hg yS aG hb; replace lY := aA (Kd.gU (Kd.zB (dZ lY) FN (Nat.le_of_eq hg.symm)) hb); have gX := aA aG; have Mf := bB HB hg; have Me := bB HB hg; replace HB := hbS HB hb; have AJ := cO aD hg; have AL := dD aD hg; replace aD := aI aD hb; clear hb aG hg; have aHR := AL.out; have aH1 := AJ.out; obtain ⟨aFz, aFA, aFB, aFC⟩ := aN gX; have aGu := fz gX 0; have aGv := fz gX 1; have aGw := fz gX 2; have aGx := fz gX 3; obtain ⟨Ig, Ih, Ii, Ij⟩ := aN aD; have Js := fz aD 0; have Jt := fz aD 1; have Ju := fz aD 2; have Jv := eZ aD.out 3))
   refine bodyPost_ret (wX rfl _ _ dG 68 #[.int .i64 0, .int .i64 0, .int .u64 0, .string ⟨#[]⟩] (0, 0) _ rfl (aU aD) Tryz.underlying68 rfl (by kernel_rfl)) rfl ?_
   exact ⟨by first | rfl | (simp [nG, nH] <;> rfl) | (simp only [← QU]; first | rfl | (simp [nG, nH] <;> rfl)) | (simp [*, nG, nH] <;> rfl), aJ HB⟩
abbrev Lt := Int × Int × Int × ByteArray × Bool
def lW (t : Lt) (kind : Int) : Int := if t.2.2.2.2 = true then (if t.2.1 = kind then 0 else 3) else 0
theorem AO (t : Lt) (kind : Int) : lW t kind = 0 ∨ lW t kind = 3 := by
 unfold lW
 split
 · split
   · exact .inl rfl
   · exact .inr rfl
 · exact .inl rfl
theorem PG (t : Lt) (kind e : Int) : kT t.2.2.2.2 t.2.1 kind e = if e = 0 then lW t kind else e := by
 unfold kT lW
 by_cases h : t.2.2.2.2 = true
 · rw [ip h]
   by_cases h2 : t.2.1 = kind
   · rw [ip h2, ip h, ip h2]
     by_cases h3 : e = 0
     · rw [ip h3, h3]
     · rw [iN h3]
   · rw [iN h2, ip h, iN h2]
 · rw [iN h, iN h]
   by_cases h3 : e = 0
   · rw [ip h3, h3]
   · rw [iN h3]
def eQ (l : List Fl) (num : Int) : Lt := pM (((l.map toP).filter fun x => x.f0 == num).getLast?)
def BC (t : Lt) (kind : Int) : Int × Int × Int × ByteArray × Bool × Int := if lW t kind = 0 then (t.1, t.2.1, t.2.2.1, t.2.2.2.1, t.2.2.2.2, 0) else (0, 0, 0, ⟨#[]⟩, true, 3)
theorem P5 (l : List Fl) (hl : l.length ≤ 3518437208883) (num kind : Int) : GQ.f (l.map toR) num kind = some (BC (eQ l num) kind) := by
 have e1 : (l.map toR).filter (fun x => x.f0 == num) = (l.filter (fun x : Fl => x.1 == num)).map toR := W9 toR _ l
 have e2 : (l.map toP).filter (fun x => x.f0 == num) = (l.filter (fun x : Fl => x.1 == num)).map toP := W9 toP _ l
 have hle : (l.filter (fun x : Fl => x.1 == num)).length ≤ l.length := List.length_filter_le _ _
 unfold GQ.f DR.f eQ
 rw [ip (by rw [List.length_map]; exact hl), Option.bind_some, e1, e2]
 generalize l.filter (fun x : Fl => x.1 == num) = F at hle
 rcases List.eq_nil_or_concat F with rfl | ⟨I, x, rfl⟩
 · rfl
 · rw [List.concat_eq_append] at hle ⊢
   have hn : ((I ++ [x]).map toR).length = I.length + 1 := by rw [List.length_map, List.length_append]; rfl
   have hle2 : I.length + 1 ≤ l.length := by rw [List.length_append] at hle; exact hle
   have hw : wrap64 ((((I ++ [x]).map toR).length : Int) - 1) = (I.length : Int) := by rw [hn, fC (by omega) (by omega)]; omega
   have hrd : cB ((I ++ [x]).map toR) (I.length : Int) = toR x := by
    unfold cB
    rw [Int.toNat_natCast, List.getD_eq_getElem?_getD, List.getElem?_map, List.getElem?_append_right (Nat.le_refl _), Nat.sub_self]; rfl
   have hg : ((I ++ [x]).map toP).getLast? = some (toP x) := by rw [List.map_append, List.map_singleton, List.getLast?_append]; rfl
   rw [hw, iN (by rw [hn]; omega), ip (by omega), ip (by rw [hn]; omega), hrd, hg]
   unfold BC lW pM
   rw [ip rfl]
   by_cases hk : (toR x).f1 = kind
   · rw [ip hk, ip (show (toP x).f1 = kind from hk)]; rfl
   · rw [iN hk, iN (show ¬ (toP x).f1 = kind from hk)]; rfl
theorem _8 (k v q : ByteArray) : ∀ m : List (ByteArray × ByteArray), fB (kK m k v) q = if (q == k) = true then some v else fB m q
 | [] => rfl
 | p :: t => by
  rw [kK]
  by_cases h : (k == p.1) = true
  · rw [ip h, fB]
    by_cases h2 : (q == k) = true
    · rw [ip h2, ip h2]
    · rw [iN h2, iN h2, fB]
      have e := (MapKept.bytes_beq k p.1).1 h
      rw [← e, iN h2]
  · rw [iN h, fB, fB, _8 k v q t]
    by_cases h2 : (q == p.1) = true
    · have e := (MapKept.bytes_beq q p.1).1 h2
      have h3 : ¬ (q == k) = true := fun h3 => by
       have e2 := (MapKept.bytes_beq q k).1 h3
       exact h ((MapKept.bytes_beq k p.1).2 (e2.symm.trans e))
      rw [ip h2, ip h2, iN h3]
    · rw [iN h2, iN h2]
theorem av {k v : ByteArray} {p : ByteArray × ByteArray} : ∀ m : List (ByteArray × ByteArray), p ∈ kK m k v → p.2 = v ∨ p ∈ m
 | [], h => by rw [kK] at h; exact .inl (by rw [List.mem_singleton.1 h])
 | q :: t, h => by
  rw [kK] at h
  by_cases c : (k == q.1) = true
  · rw [ip c] at h
    rcases List.mem_cons.1 h with e | h
    · exact .inl (by rw [e])
    · exact .inr (List.mem_cons_of_mem _ h)
  · rw [iN c] at h
    rcases List.mem_cons.1 h with e | h
    · exact .inr (by rw [e]; exact List.mem_cons_self ..)
    · rcases av t h with h | h
      · exact .inl h
      · exact .inr (List.mem_cons_of_mem _ h)
theorem X4 {k d : ByteArray} : ∀ m : List (ByteArray × ByteArray), fB m k = some d → ∃ p ∈ m, p.2 = d
 | [], h => by cases h
 | q :: t, h => by
  rw [fB] at h
  by_cases c : (k == q.1) = true
  · rw [ip c] at h; exact ⟨q, List.mem_cons_self .., Option.some.inj h⟩
  · rw [iN c] at h
    obtain ⟨p, hp, e⟩ := X4 t h
    exact ⟨p, List.mem_cons_of_mem _ hp, e⟩
theorem PK (s : ByteArray) (num : Int) : (eQ (eX s).1 num).2.2.2.1.size ≤ s.size := by
 unfold eQ
 cases hg : (((eX s).1.map toP).filter fun x => x.f0 == num).getLast? with
 | none => exact Nat.zero_le _
 | some z =>
  have hz := (List.mem_filter.1 (List.mem_of_getLast? hg)).1
  obtain ⟨y, hy, rfl⟩ := List.mem_map.1 hz
  show y.2.2.2.size ≤ _
  unfold eX at hy
  by_cases h : s.size > 1048576
  · rw [ip h] at hy; cases hy
  · rw [iN h] at hy
    exact _H _ s y hy
theorem El (B : Nat) : ∀ (ext : List ByteArray) (m : List (ByteArray × ByteArray)), (∀ s ∈ ext, s.size ≤ B) → (∀ p ∈ m, p.2.size ≤ B) → ∀ p ∈ (o7 ext m).1, p.2.size ≤ B
 | [], m, _, hm => hm
 | s :: t, m, he, hm => by
  rw [o7]
  split
  · intro p hp; cases hp
  · dsimp only
    split
    · intro p hp; cases hp
    · refine El B t _ (fun x hx => he x (List.mem_cons_of_mem _ hx)) (fun p hp => ?_)
      rcases av m hp with e | h
      · rw [e]; exact Nat.le_trans (PK s 2) (he s (List.mem_cons_self ..))
      · exact hm p h
theorem Za (s : ByteArray) (t : List ByteArray) (m : List (ByteArray × ByteArray)) : o7 (s :: t) m = if (eX s).2 ≠ 0 then ([], ((eX s).2 : Int)) else if lW (eQ (eX s).1 1) 2 = 0 ∧ lW (eQ (eX s).1 2) 2 = 0 then o7 t (kK m (eQ (eX s).1 1).2.2.2.1 (eQ (eX s).1 2).2.2.2.1) else ([], 3) := by
 rw [o7]
 show (if (eX s).2 ≠ 0 then _ else if kT (eQ (eX s).1 2).2.2.2.2 (eQ (eX s).1 2).2.1 2 (kT (eQ (eX s).1 1).2.2.2.2 (eQ (eX s).1 1).2.1 2 0) ≠ 0 then _ else _) = _
 have e : kT (eQ (eX s).1 2).2.2.2.2 (eQ (eX s).1 2).2.1 2 (kT (eQ (eX s).1 1).2.2.2.2 (eQ (eX s).1 1).2.1 2 0) = if lW (eQ (eX s).1 1) 2 = 0 ∧ lW (eQ (eX s).1 2) 2 = 0 then 0 else 3 := by
  rw [PG, PG, ip rfl]
  rcases AO (eQ (eX s).1 1) 2 with h1 | h1 <;> rcases AO (eQ (eX s).1 2) 2 with h2 | h2 <;> rw [h1, h2] <;> decide
 by_cases h0 : (eX s).2 ≠ 0
 · rw [ip h0, ip h0]
 · rw [iN h0, iN h0]
   by_cases hc : lW (eQ (eX s).1 1) 2 = 0 ∧ lW (eQ (eX s).1 2) 2 = 0
   · rw [ip hc] at e ⊢
     rw [iN (by rw [e]; decide)]; rfl
   · rw [iN hc] at e ⊢
     rw [ip (by rw [e]; decide)]
     exact congrArg (fun z : Int => (([] : List (ByteArray × ByteArray)), z)) e
def rZ (m : List (ByteArray × ByteArray)) (need : Int) (L : List (ByteArray × ByteArray)) : ByteArray × Int :=
 match fB m qM with
  | none => (⟨#[]⟩, 18)
  | some key => match pF (fB m rT) 0 with
   | none => (⟨#[]⟩, 17)
   | some o => match pF (fB m mX) need with
    | none => (⟨#[]⟩, 17)
    | some n => if n ≠ need then (⟨#[]⟩, 7) else sJ L key o n
theorem Yk (m : uQ) (L : List (ByteArray × ByteArray)) : UI m L = if m.raw = true ∨ 0 < m.few.length + m.many.length then (⟨#[]⟩, 19) else if (o7 m.ext []).2 ≠ 0 then (⟨#[]⟩, (o7 m.ext []).2) else rZ (o7 m.ext []).1 (m.els * gF m.kind) L := rfl
theorem O9 (a b : ByteArray) : a.toList = b.toList ↔ a = b := by
 constructor
 · intro h
   rw [ByteArray.toList_eq, ByteArray.toList_eq] at h
   cases a; cases b
   congr 1
   exact Array.toList_inj.1 h
 · rintro rfl; rfl
structure ql (name : ByteArray) (need : Int) (l : List jK) : Prop where
 nm : name.size ≤ 140737488351232
 n0 : 0 ≤ need
 n1 : need ≤ 1000000000
 few : l.length ≤ 100
 short : ∀ f ∈ l, f.f0.size + f.f1.size ≤ 10000
def Q9 : ByteArray := ⟨#[48]⟩
def zR (full : Bool) (ext : List ByteArray) (need : Int) (L : List (ByteArray × ByteArray)) : ByteArray × Int :=
 if full = true then (⟨#[]⟩, 19) else if (o7 ext []).2 ≠ 0 then (⟨#[]⟩, (o7 ext []).2) else rZ (o7 ext []).1 need L
theorem Yz : uR Q9 = some 0 := by decide +kernel
theorem aA5 (x : Option ByteArray) : (pF x 0 = none ∧ rX (x.getD Q9) = -1) ∨ ∃ n : Nat, pF x 0 = some (n : Int) ∧ rX (x.getD Q9) = (n : Int) ∧ n < 1000000000000000000 := by
 cases x with
 | none => exact .inr ⟨0, rfl, by show rX Q9 = _; unfold rX; rw [Yz], by decide⟩
 | some b =>
  show ((uR b).map (fun n : Nat => (n : Int)) = none ∧ rX b = -1) ∨ ∃ n : Nat, (uR b).map (fun n : Nat => (n : Int)) = some (n : Int) ∧ rX b = (n : Int) ∧ _
  unfold rX
  cases h : uR b with
  | none => exact .inl ⟨rfl, rfl⟩
  | some m => exact .inr ⟨m, rfl, rfl, Hg h⟩
theorem aj (b : ByteArray) (d : Int) : (pF (some b) d = none ∧ rX b = -1) ∨ ∃ n : Nat, pF (some b) d = some (n : Int) ∧ rX b = (n : Int) ∧ n < 1000000000000000000 := by
 show ((uR b).map (fun n : Nat => (n : Int)) = none ∧ rX b = -1) ∨ ∃ n : Nat, (uR b).map (fun n : Nat => (n : Int)) = some (n : Int) ∧ rX b = (n : Int) ∧ _
 unfold rX
 cases h : uR b with
 | none => exact .inl ⟨rfl, rfl⟩
 | some m => exact .inr ⟨m, rfl, rfl, Hg h⟩
theorem xX (name : ByteArray) (kd : Int) (bE : List Int) {d : ByteArray} {c : Int} (h : c ≠ 0) : o6 name kd bE (d, c) = (iJ, c) := by
 unfold o6 lG
 rw [ip (show (d, c).2 ≠ 0 from h)]
 show (if c ≠ 0 then _ else _) = _
 rw [ip h]
theorem XO (name : ByteArray) (kd : Int) (bE : List Int) (d : ByteArray) : o6 name kd bE (d, 0) = if qR name kd bE d ≠ 0 then (iJ, qR name kd bE d) else ((name, kd, bE, d), 0) := by
 unfold o6 lG
 rw [iN (show ¬ (d, (0 : Int)).2 ≠ 0 from fun h => h rfl)]
theorem XD {L : List (ByteArray × ByteArray)} {key : ByteArray} {o n : Int} (hn : n ≤ 1000000000) (hn0 : 0 ≤ n) : (sJ L key o n).1.size ≤ 1000000000 := by
 unfold sJ
 split
 · split
   · exact Nat.zero_le _
   · split
     · exact Nat.zero_le _
     · split
       · exact Nat.zero_le _
       · show (ByteArray.extract _ _ _).size ≤ _
         rw [ByteArray.size_extract]; omega
 · exact Nat.zero_le _
theorem Lf {mm L : List (ByteArray × ByteArray)} {need : Int} (h : fB mm qM = none) : rZ mm need L = (⟨#[]⟩, 18) := by unfold rZ; rw [h]
theorem Hm {mm L : List (ByteArray × ByteArray)} {need : Int} {K : ByteArray} (h : fB mm qM = some K) (h2 : pF (fB mm rT) 0 = none) : rZ mm need L = (⟨#[]⟩, 17) := by unfold rZ; rw [h]; dsimp only; rw [h2]
theorem bz {mm L : List (ByteArray × ByteArray)} {need o : Int} {K : ByteArray} (h : fB mm qM = some K) (h2 : pF (fB mm rT) 0 = some o) (h3 : pF (fB mm mX) need = none) : rZ mm need L = (⟨#[]⟩, 17) := by unfold rZ; rw [h]; dsimp only; rw [h2]; dsimp only; rw [h3]
theorem oq {mm L : List (ByteArray × ByteArray)} {need o n : Int} {K : ByteArray} (h : fB mm qM = some K) (h2 : pF (fB mm rT) 0 = some o) (h3 : pF (fB mm mX) need = some n) (h4 : n ≠ need) : rZ mm need L = (⟨#[]⟩, 7) := by unfold rZ; rw [h]; dsimp only; rw [h2]; dsimp only; rw [h3]; exact ip h4
theorem YW {mm L : List (ByteArray × ByteArray)} {need o : Int} {K : ByteArray} (h : fB mm qM = some K) (h2 : pF (fB mm rT) 0 = some o) (h3 : pF (fB mm mX) need = some need) : rZ mm need L = sJ L K o need := by unfold rZ; rw [h]; dsimp only; rw [h2]; dsimp only; rw [h3]; exact iN (fun g => g rfl)
theorem Ky {α : Type} {x : Option α} (h : x.isSome = false) : x = none := by
 cases x with
 | none => rfl
 | some _ => cases h
theorem Gu {α : Type} {x : Option α} {d K : α} (h : x.isSome = true) (hk : x.getD d = K) : x = some K := by
 cases x with
 | none => cases h
 | some _ => exact congrArg some hk
theorem wU {w w' : World} (h : fG w w') : Below w.heap.size w w' := by
 obtain ⟨n, rfl⟩ := h
 exact nS (Below.refl _ _) n
theorem PM {kd : Int} {data : ByteArray} {few many : List Int} (h : ¬ ((0 < few.length ∧ kd ≠ 2 ∧ kd ≠ 9) ∨ (0 < many.length ∧ kd ≠ 7))) : oL kd data few many false = if (vP few (tJ kd)).2 ≠ 0 then (⟨#[]⟩, (vP few (tJ kd)).2) else (if kd = 7 then iE many else (vP few (tJ kd)).1, 0) := by
 unfold oL
 rw [iN (by decide), iN h]
theorem K9 {kd : Int} {data : ByteArray} {few many : List Int} (h : (0 < few.length ∧ kd ≠ 2 ∧ kd ≠ 9) ∨ (0 < many.length ∧ kd ≠ 7)) : oL kd data few many false = (⟨#[]⟩, 5) := by
 unfold oL
 rw [iN (by decide), ip h]
theorem Vo (name : ByteArray) (kd : Int) (P : Nat → Prop) (A1 : Option Addr) (c1 : Nat) (bE : List Int) (data : ByteArray) (A2 : Option Addr) (c2 : Nat) (few : List Int) (A3 : Option Addr) (c3 : Nat) (many : List Int) (A4 : Option Addr) (c4 : Nat) (ext : List ByteArray) (wh els : Int) (w : World)
 (h1 : Kd.F (Kd.int .i64) w P A1 bE.length bE) (h1c : bE.length ≤ c1) (h2 : Kd.C (Kd.int .i64) w A2 few.length few) (MZ : few.length ≤ c2) (h3 : Kd.C (Kd.int .i64) w A3 many.length many) (X_ : many.length ≤ c3) (hf : few.length ≤ 65536) (hm : many.length ≤ 65536) (hn : name.size ≤ 140737488351232) (hd : data.size ≤ 140737488351232) :
 Calls Tryz.prog 22 #[.agg #[.string name, .int .i64 kd, .slice A1 bE.length c1, .string data, .slice A2 few.length c2, .slice A3 many.length c3, .bool false, .slice A4 ext.length c4, .int .u64 wh, .int .i64 els]] w (G7 w P (lG name kd bE (oL kd data few many false))) := by
 have tN := Tryz.underlying59
 have lZ := Tryz.underlying33
 have H1 := aA h1
 have yH := aA h1c
 have HF2 := aA h2
 have aEF := aA MZ
 have HF3 := aA h3
 have aEG := aA X_
 have Pt := aA hf
 have Qc := aA hm
 have HN := aA (And.intro hn hd)
 have hfd : ∀ (v0 v1 v2 v3 : Value) (W_ : World), (Instr.field 33 (.agg #[v0, v1, v2, v3]) 3).run Tryz.prog W_ = .ok v3 W_ := fun _ _ _ _ _ => by simp [Instr.field, run_underlying Tryz.underlying33, asAgg, part, Tryz.isAgg9, Result.andThen]
 have HB := aC.mk (Below.refl w.heap.size w)
 clear h1 h1c hf hm hn hd h2 MZ h3 X_
 go_enter Tryz.func22, Tryz.ntmps22
 go_upto_block 0 with (first | ((with_reducible refine cK (N := 1) rfl ?_); refine dB (N := 1) (cs := #[.string name, .int .i64 kd, .slice A1 bE.length c1, .string data, .slice A2 few.length c2, .slice A3 many.length c3, .bool false, .slice A4 ext.length c4, .int .u64 wh, .int .i64 els]) (t := 59) ?_; intro gm hg w1 aG hb; have BM := aA aG; have GM := bB HB hg; replace HB := hbS HB hb; clear hb aG hg) | ((with_reducible refine cK (N := 2) rfl ?_); refine dB (N := 2) (cs := #[.string ⟨#[]⟩, .int .i64 0, .slice none 0 0, .string ⟨#[]⟩]) (t := 33) ?_; intro gr hg w2 aG hb; have BR := aA aG; have GR := bB HB hg; have wL := cO BM hg; have wM := dD BM hg; replace BM := aI BM hb; replace HB := hbS HB hb; clear hb aG hg; obtain ⟨hm0, hm1, hm2, kG, jQ, jR, kH, jL, jS, jE⟩ := pU BM) | ((with_reducible refine cK (N := 4) rfl ?_); refine dB (N := 4) (cs := #[.string ⟨#[]⟩, .int .i64 0, .slice none 0 0, .string ⟨#[]⟩]) (t := 33) ?_; intro gt hg w3 aG hb; have BT := aA aG; have GT := bB HB hg; have zT := cO BM hg; have zU := dD BM hg; have lM := cO BR hg; have l9 := dD BR hg; replace BM := aI BM hb; replace BR := aI BR hb; replace HB := hbS HB hb; clear hb aG hg hm0 hm1 hm2 kG jQ jR kH jL jS jE; obtain ⟨hm0, hm1, hm2, kG, jQ, jR, kH, jL, jS, jE⟩ := pU BM; obtain ⟨ht0, ht1, ht2, ht3⟩ := aN BT; have CY := fz BT 0; have CZ := fz BT 1; have C8 := fz BT 2; have qB := fz BT 3; obtain ⟨hr0, hr1, hr2, hr3⟩ := aN BR; have fJ := fz BR 0; have fQ := fz BR 1; have fT := fz BR 2; have fU := fz BR 3; have n1 := zT.out; have n2 := zU.out; have n3 := lM.out; have n4 := l9.out; have n5 := wL.out; have n6 := wM.out))
 obtain ⟨wa, hw⟩ : ∃ wb, wb = (((w3.setCell ⟨gt, 0, none⟩ (.string name)).setCell ⟨gt, 1, none⟩ (.int .i64 kd)).setCell ⟨gt, 2, none⟩ (.slice A1 bE.length c1)).setCell ⟨gt, 3, none⟩ (.string data) := ⟨_, rfl⟩
 rw [← hw]
 replace BM := aA (show wa.heap[gm]? = some _ from by rw [hw]; exact aU BM)
 replace BR := aA (show wa.heap[gr]? = some _ from by rw [hw]; exact aU BR)
 replace BT := aA (show wa.heap[gt]? = some (.cells #[.string name, .int .i64 kd, .slice A1 bE.length c1, .string data] 33 (0, 0)) from by rw [hw]; exact aU BT)
 replace HB := aA (show Below w.heap.size w wa from by rw [hw]; exact dR HB.out GT.out)
 clear hw hm0 hm1 hm2 kG jQ jR kH jL jS jE ht0 ht1 ht2 ht3 CY CZ C8 qB hr0 hr1 hr2 hr3 fJ fQ fT fU n1 n2 n3 n4 n5 n6
 go_cut [] (fun wc => aC (lG name kd bE (oL kd data few many false) = lG name kd bE (if (vP few (tJ kd)).2 ≠ 0 then (⟨#[]⟩, (vP few (tJ kd)).2) else (if kd = 7 then iE many else (vP few (tJ kd)).1, 0))) ∧ aC (wc.heap[gm]? = some (.cells #[.string name, .int .i64 kd, .slice A1 bE.length c1, .string data, .slice A2 few.length c2, .slice A3 many.length c3, .bool false, .slice A4 ext.length c4, .int .u64 wh, .int .i64 els] 59 (0, 0))) ∧ aC (wc.heap[gr]? = some (.cells #[.string ⟨#[]⟩, .int .i64 0, .slice none 0 0, .string ⟨#[]⟩] 33 (0, 0))) ∧ aC (wc.heap[gt]? = some (.cells #[.string name, .int .i64 kd, .slice A1 bE.length c1, .string data] 33 (0, 0))) ∧ aC (Below w.heap.size w wc))
 case first =>
  obtain ⟨hm0, hm1, hm2, kG, jQ, jR, kH, jL, jS, jE⟩ := pU BM
  obtain ⟨ht0, ht1, ht2, ht3⟩ := aN BT
  have qB := fz BT 3
  have n1 := zT.out
  have n2 := zU.out
  obtain ⟨hr0, hr1, hr2, hr3⟩ := aN BR
  have fJ := fz BR 0
  have fQ := fz BR 1
  have fT := fz BR 2
  have fU := fz BR 3
  have n3 := lM.out
  have n4 := l9.out
  by_cases f0 : 0 < few.length
  · have bf : decide (0 < (few.length : Int)) = true := dT (by omega)
    by_cases k2 : kd = 2
    · have e2 : (kd != 2) = false := bne_eq_false_iff_eq.2 k2
      by_cases m0 : 0 < many.length
      · have bm : decide (0 < (many.length : Int)) = true := dT (by omega)
        have e7 : (kd != 7) = true := bne_iff_ne.2 (by omega)
        have HR := aA (show lG name kd bE (oL kd data few many false) = (iJ, 5) from by rw [K9 (.inr ⟨m0, by omega⟩)]; exact ip (by decide))
        go_wp2
        refine bodyPost_ret (eP rfl _ _ gr 33 #[.string ⟨#[]⟩, .int .i64 0, .slice none 0 0, .string ⟨#[]⟩] (0, 0) _ rfl (aU BR) lZ rfl (by kernel_rfl)) rfl ?_
        exact jH HR.out (dR HB.out GR.out)
      · have bm : decide (0 < (many.length : Int)) = false := dF (by omega)
        have CE := aA (congrArg (lG name kd bE) (PM (kd := kd) (data := data) (few := few) (many := many) (fun h => h.elim (fun h => h.2.1 k2) (fun h => m0 h.1))))
        go_wp2
        go_meet
        case rel => exact ⟨CE, BM, BR, BT, HB⟩
    · have e2 : (kd != 2) = true := bne_iff_ne.2 k2
      by_cases k9 : kd = 9
      · have e9 : (kd != 9) = false := bne_eq_false_iff_eq.2 k9
        by_cases m0 : 0 < many.length
        · have bm : decide (0 < (many.length : Int)) = true := dT (by omega)
          have e7 : (kd != 7) = true := bne_iff_ne.2 (by omega)
          have HR := aA (show lG name kd bE (oL kd data few many false) = (iJ, 5) from by rw [K9 (.inr ⟨m0, by omega⟩)]; exact ip (by decide))
          go_wp2
          refine bodyPost_ret (eP rfl _ _ gr 33 #[.string ⟨#[]⟩, .int .i64 0, .slice none 0 0, .string ⟨#[]⟩] (0, 0) _ rfl (aU BR) lZ rfl (by kernel_rfl)) rfl ?_
          exact jH HR.out (dR HB.out GR.out)
        · have bm : decide (0 < (many.length : Int)) = false := dF (by omega)
          have CE := aA (congrArg (lG name kd bE) (PM (kd := kd) (data := data) (few := few) (many := many) (fun h => h.elim (fun h => h.2.2 k9) (fun h => m0 h.1))))
          go_wp2
          go_meet
          case rel => exact ⟨CE, BM, BR, BT, HB⟩
      · have e9 : (kd != 9) = true := bne_iff_ne.2 k9
        have HR := aA (show lG name kd bE (oL kd data few many false) = (iJ, 5) from by rw [K9 (.inl ⟨f0, k2, k9⟩)]; exact ip (by decide))
        go_wp2
        refine bodyPost_ret (eP rfl _ _ gr 33 #[.string ⟨#[]⟩, .int .i64 0, .slice none 0 0, .string ⟨#[]⟩] (0, 0) _ rfl (aU BR) lZ rfl (by kernel_rfl)) rfl ?_
        exact jH HR.out (dR HB.out GR.out)
  · have bf : decide (0 < (few.length : Int)) = false := dF (by omega)
    by_cases m0 : 0 < many.length
    · have bm : decide (0 < (many.length : Int)) = true := dT (by omega)
      by_cases k7 : kd = 7
      · have e7 : (kd != 7) = false := bne_eq_false_iff_eq.2 k7
        have CE := aA (congrArg (lG name kd bE) (PM (kd := kd) (data := data) (few := few) (many := many) (fun h => h.elim (fun h => f0 h.1) (fun h => h.2 k7))))
        go_wp2
        go_meet
        case rel => exact ⟨CE, BM, BR, BT, HB⟩
      · have e7 : (kd != 7) = true := bne_iff_ne.2 k7
        have HR := aA (show lG name kd bE (oL kd data few many false) = (iJ, 5) from by rw [K9 (.inr ⟨m0, k7⟩)]; exact ip (by decide))
        go_wp2
        refine bodyPost_ret (eP rfl _ _ gr 33 #[.string ⟨#[]⟩, .int .i64 0, .slice none 0 0, .string ⟨#[]⟩] (0, 0) _ rfl (aU BR) lZ rfl (by kernel_rfl)) rfl ?_
        exact jH HR.out (dR HB.out GR.out)
    · have bm : decide (0 < (many.length : Int)) = false := dF (by omega)
      have CE := aA (congrArg (lG name kd bE) (PM (kd := kd) (data := data) (few := few) (many := many) (fun h => h.elim (fun h => f0 h.1) (fun h => m0 h.1))))
      go_wp2
      go_meet
      case rel => exact ⟨CE, BM, BR, BT, HB⟩
 case rest =>
  clear BM BR BT HB
  obtain ⟨CE, BM, BR, BT, HB⟩ := hcut
  obtain ⟨hm0, hm1, hm2, kG, jQ, jR, kH, jL, jS, jE⟩ := pU BM
  obtain ⟨ht0, ht1, ht2, ht3⟩ := aN BT
  go_wp2_with (first | fail)
  clear hm0 hm1 hm2 kG jQ jR kH jL jS jE ht0 ht1 ht2 ht3
  obtain ⟨bd, bc, hbd⟩ : ∃ bd bc, vP few (tJ kd) = (bd, bc) := ⟨_, _, rfl⟩
  refine (pI.calls (few.length + 2) A2 c2 few kd bd bc _ (Kd.gN HF2.out HB.out) aEF.out (by rw [aA4 few (by have := Pt.out; omega) kd _ (Nat.le_refl _), hbd])).mono ?_
  rintro e wb ⟨rfl, hb⟩
  replace BM := aI BM hb
  replace BR := aI BR hb
  replace BT := aI BT hb
  replace HB := hbS HB hb
  clear hb
  have HBd := aA (show bd.size ≤ few.length from by have := Wo few (tJ kd); rw [hbd] at this; exact this)
  have HG := aA (CE.out.trans (by rw [hbd]))
  clear hbd CE
  by_cases h0 : bc ≠ 0
  · have b0 : (bc != 0) = true := bne_iff_ne.2 h0
    have HR := aA (show lG name kd bE (oL kd data few many false) = (iJ, bc) from HG.out.trans (by dsimp only; rw [ip h0]; exact LC _ _ _ h0))
    clear h0
    obtain ⟨hr0, hr1, hr2, hr3⟩ := aN BR
    have fJ := fz BR 0
    have fQ := fz BR 1
    have fT := fz BR 2
    have fU := fz BR 3
    have n3 := lM.out
    have n4 := l9.out
    go_wp2
    refine bodyPost_ret (eP rfl _ _ gr 33 #[.string ⟨#[]⟩, .int .i64 0, .slice none 0 0, .string ⟨#[]⟩] (0, 0) _ rfl (aU BR) lZ rfl (by kernel_rfl)) rfl ?_
    exact jH HR.out (dR HB.out GR.out)
  · have b0 : (bc != 0) = false := bne_eq_false_iff_eq.2 (Classical.not_not.1 h0)
    have HG2 := aA (show lG name kd bE (oL kd data few many false) = lG name kd bE (if kd = 7 then iE many else bd, 0) from HG.out.trans (by dsimp only; rw [iN h0]))
    clear HG h0
    obtain ⟨hm0, hm1, hm2, kG, jQ, jR, kH, jL, jS, jE⟩ := pU BM
    obtain ⟨ht0, ht1, ht2, ht3⟩ := aN BT
    have qB := fz BT 3
    have n1 := zT.out
    have n2 := zU.out
    by_cases k7 : kd = 7
    · have b7 : (kd == 7) = true := beq_iff_eq.2 k7
      have HR := aA (show lG name kd bE (oL kd data few many false) = ((name, kd, bE, iE many), qR name kd bE (iE many)) from HG2.out.trans (by rw [ip k7]; exact jc _ _ _ _))
      have VP := aC.mk (ZI name kd bE (iE many) HN.out.1 (by rw [NJ]; have := Qc.out; omega))
      clear k7 HG2
      go_wp2_with (first | fail)
      obtain ⟨wc, hw⟩ : ∃ wx, wx = wb.setCell ⟨gt, 3, none⟩ (.string bd) := ⟨_, rfl⟩
      rw [← hw]
      replace BM := aA (show wc.heap[gm]? = some _ from by rw [hw]; exact aU BM)
      replace BR := aA (show wc.heap[gr]? = some _ from by rw [hw]; exact aU BR)
      replace BT := aA (show wc.heap[gt]? = some (.cells #[.string name, .int .i64 kd, .slice A1 bE.length c1, .string bd] 33 (0, 0)) from by rw [hw]; exact aU BT)
      replace HB := aA (show Below w.heap.size w wc from by rw [hw]; exact fD HB.out GT.out)
      clear hw hm0 hm1 hm2 kG jQ jR kH jL jS jE ht0 ht1 ht2 ht3 qB
      refine (SH.calls (⟨#[]⟩ : ByteArray) none 0 [] A3 c3 many _ _ _ _ _ (Kd.Ma _ _) (Nat.le_refl _) (Kd.gN HF3.out HB.out) aEG.out (aAz many (by have := Qc.out; omega))).mono ?_
      rintro e wd' ⟨v2, rfl, _, hb⟩
      replace BR := aI BR hb
      replace BT := aI BT hb
      replace HB := hbS HB hb
      clear hb BM
      obtain ⟨ht0, ht1, ht2, ht3⟩ := aN BT
      have qB := fz BT 3
      go_wp2_with (first | fail)
      obtain ⟨w4, hw⟩ : ∃ wx, wx = wd'.setCell ⟨gt, 3, none⟩ (.string (iE many)) := ⟨_, rfl⟩
      rw [← hw]
      replace BR := aA (show w4.drew.heap[gr]? = some _ from by rw [hw]; exact kU (aU BR))
      replace BT := aA (show w4.drew.heap[gt]? = some (.cells #[.string name, .int .i64 kd, .slice A1 bE.length c1, .string (iE many)] 33 (0, 0)) from by rw [hw]; exact kU (aU BT))
      replace HB := aA (show Below w.heap.size w w4.drew from by rw [hw]; exact iO (fD HB.out GT.out))
      clear hw ht0 ht1 ht2 ht3 qB n1 n2
      refine vQ (n := 5) (S := fun w' => w'.heap[gt]? = some (.cells #[.string name, .int .i64 kd, .slice A1 bE.length c1, .string (iE many)] 33 (0, 0))) (ds := []) (bA 5 0) (by kernel_rfl) rfl rfl BT.out (fun hHeld => ?_)
      generalize w4.drew = wd at BR BT HB hHeld ⊢
      refine yC (i := 0) (N := some 78) (v := ?_) (a' := ?_) (bA 5 1) rfl rfl (by kernel_rfl) (fun _ _ _ h => h) (Or.inl ⟨by rfl, ?_⟩) hHeld ?_ ?_
      rotate_left
      · intro w' hs
        obtain ⟨s0, s1, s2, s3⟩ := aN (aA hs)
        go_simp
        with_reducible rfl
      rotate_left
      · simp only [Act.put, List.setIfInBounds_toArray, List.set_cons_zero, List.set_cons_succ, dC, iC]
        rfl
      refine yC (i := 1) (N := some 79) (v := ?_) (a' := ?_) (bA 5 3) rfl rfl (by kernel_rfl) (fun _ _ _ h => h) (Or.inl ⟨by rfl, ?_⟩) hHeld ?_ ?_
      rotate_left
      · intro w' hs
        obtain ⟨s0, s1, s2, s3⟩ := aN (aA hs)
        go_simp
        with_reducible rfl
      rotate_left
      · simp only [Act.put, List.setIfInBounds_toArray, List.set_cons_zero, List.set_cons_succ, dC, iC]
        rfl
      refine sN (i := 2) (N := some 80) (bA 5 7) rfl rfl (by kernel_rfl) (by decide) (fun K hK => ?_)
      refine xO Tryz.func34 (by kernel_rfl) rfl #[.agg #[.string name, .int .i64 kd, .slice A1 bE.length c1, .string (iE many)]] (by rfl) rfl rfl ?_
      refine (xQ.calls name kd A1 c1 bE (iE many) _ wd (Kd.gN (Kd.mK H1.out) HB.out) yH.out VP.out).mono ?_
      rintro e w5 ⟨rfl, hb⟩
      refine ⟨_, rfl, ?_⟩
      replace BR := aI BR hb
      replace BT := aI BT hb
      replace HB := hbS HB hb
      clear hb hHeld
      refine hK.out _ _ BT.out (fun hHeld => ?_)
      clear hK K
      refine xP 80 ?_
      refine sN (i := 3) (N := none) (bA 5 15) rfl rfl (by kernel_rfl) (by decide) (fun K hK => ?_)
      obtain ⟨hr0, hr1, hr2, hr3⟩ := aN BR
      have fJ := fz BR 0
      have fQ := fz BR 1
      have fT := fz BR 2
      have fU := fz BR 3
      have n3 := lM.out
      have n4 := l9.out
      refine J6 (w1 := ?_) (by rfl) rfl ?_ ?_
      rotate_left
      · go_simp
        rfl
      refine hK.out _ _ (aU BT) (fun hHeld => ?_)
      clear hK K
      refine JC (i := 4) (N := some 3) (bA 5 31) ?_
      refine FL (by kernel_rfl) ?_
      go_wp2
      refine bodyPost_ret (eP rfl _ _ gr 33 #[.string name, .int .i64 kd, .slice A1 bE.length c1, .string (iE many)] (0, 0) _ rfl (aU BR) lZ rfl (by kernel_rfl)) rfl ?_
      exact PN HR.out (dR HB.out GR.out) H1.out yH.out
    · have b7 : (kd == 7) = false := beq_eq_false_iff_ne.2 k7
      have HR := aA (show lG name kd bE (oL kd data few many false) = ((name, kd, bE, bd), qR name kd bE bd) from HG2.out.trans (by rw [iN k7]; exact jc _ _ _ _))
      have VP := aC.mk (ZI name kd bE bd HN.out.1 (by have := Pt.out; have := HBd.out; omega))
      clear k7 HG2
      go_wp2_with (first | fail)
      obtain ⟨w4, hw⟩ : ∃ wx, wx = wb.setCell ⟨gt, 3, none⟩ (.string bd) := ⟨_, rfl⟩
      rw [← hw]
      replace BR := aA (show w4.drew.heap[gr]? = some _ from by rw [hw]; exact kU (aU BR))
      replace BT := aA (show w4.drew.heap[gt]? = some (.cells #[.string name, .int .i64 kd, .slice A1 bE.length c1, .string bd] 33 (0, 0)) from by rw [hw]; exact kU (aU BT))
      replace HB := aA (show Below w.heap.size w w4.drew from by rw [hw]; exact iO (fD HB.out GT.out))
      clear hw hm0 hm1 hm2 kG jQ jR kH jL jS jE ht0 ht1 ht2 ht3 qB n1 n2
      refine vQ (n := 5) (S := fun w' => w'.heap[gt]? = some (.cells #[.string name, .int .i64 kd, .slice A1 bE.length c1, .string bd] 33 (0, 0))) (ds := []) (bA 5 0) (by kernel_rfl) rfl rfl BT.out (fun hHeld => ?_)
      generalize w4.drew = wd at BR BT HB hHeld ⊢
      refine yC (i := 0) (N := some 78) (v := ?_) (a' := ?_) (bA 5 1) rfl rfl (by kernel_rfl) (fun _ _ _ h => h) (Or.inl ⟨by rfl, ?_⟩) hHeld ?_ ?_
      rotate_left
      · intro w' hs
        obtain ⟨s0, s1, s2, s3⟩ := aN (aA hs)
        go_simp
        with_reducible rfl
      rotate_left
      · simp only [Act.put, List.setIfInBounds_toArray, List.set_cons_zero, List.set_cons_succ, dC, iC]
        rfl
      refine yC (i := 1) (N := some 79) (v := ?_) (a' := ?_) (bA 5 3) rfl rfl (by kernel_rfl) (fun _ _ _ h => h) (Or.inl ⟨by rfl, ?_⟩) hHeld ?_ ?_
      rotate_left
      · intro w' hs
        obtain ⟨s0, s1, s2, s3⟩ := aN (aA hs)
        go_simp
        with_reducible rfl
      rotate_left
      · simp only [Act.put, List.setIfInBounds_toArray, List.set_cons_zero, List.set_cons_succ, dC, iC]
        rfl
      refine sN (i := 2) (N := some 80) (bA 5 7) rfl rfl (by kernel_rfl) (by decide) (fun K hK => ?_)
      refine xO Tryz.func34 (by kernel_rfl) rfl #[.agg #[.string name, .int .i64 kd, .slice A1 bE.length c1, .string bd]] (by rfl) rfl rfl ?_
      refine (xQ.calls name kd A1 c1 bE bd _ wd (Kd.gN (Kd.mK H1.out) HB.out) yH.out VP.out).mono ?_
      rintro e w5 ⟨rfl, hb⟩
      refine ⟨_, rfl, ?_⟩
      replace BR := aI BR hb
      replace BT := aI BT hb
      replace HB := hbS HB hb
      clear hb hHeld
      refine hK.out _ _ BT.out (fun hHeld => ?_)
      clear hK K
      refine xP 80 ?_
      refine sN (i := 3) (N := none) (bA 5 15) rfl rfl (by kernel_rfl) (by decide) (fun K hK => ?_)
      obtain ⟨hr0, hr1, hr2, hr3⟩ := aN BR
      have fJ := fz BR 0
      have fQ := fz BR 1
      have fT := fz BR 2
      have fU := fz BR 3
      have n3 := lM.out
      have n4 := l9.out
      refine J6 (w1 := ?_) (by rfl) rfl ?_ ?_
      rotate_left
      · go_simp
        rfl
      refine hK.out _ _ (aU BT) (fun hHeld => ?_)
      clear hK K
      refine JC (i := 4) (N := some 3) (bA 5 31) ?_
      refine FL (by kernel_rfl) ?_
      go_wp2
      refine bodyPost_ret (eP rfl _ _ gr 33 #[.string name, .int .i64 kd, .slice A1 bE.length c1, .string bd] (0, 0) _ rfl (aU BR) lZ rfl (by kernel_rfl)) rfl ?_
      exact PN HR.out (dR HB.out GR.out) H1.out yH.out
theorem aAl (name : ByteArray) (kd : Int) (P : Nat → Prop) (A1 : Option Addr) (c1 : Nat) (bE : List Int) (data : ByteArray) (A2 : Option Addr) (c2 : Nat) (few : List Int) (A3 : Option Addr) (c3 : Nat) (many : List Int) (raw : Bool) (A4 : Option Addr) (c4 : Nat) (ext : List ByteArray) (wh els : Int) (w : World)
 (h1 : Kd.F (Kd.int .i64) w P A1 bE.length bE) (h1c : bE.length ≤ c1) (h2 : Kd.C (Kd.int .i64) w A2 few.length few) (MZ : few.length ≤ c2) (h3 : Kd.C (Kd.int .i64) w A3 many.length many) (X_ : many.length ≤ c3) (hf : few.length ≤ 65536) (hm : many.length ≤ 65536) (hn : name.size ≤ 140737488351232) (hd : data.size ≤ 140737488351232) :
 Calls Tryz.prog 22 #[.agg #[.string name, .int .i64 kd, .slice A1 bE.length c1, .string data, .slice A2 few.length c2, .slice A3 many.length c3, .bool raw, .slice A4 ext.length c4, .int .u64 wh, .int .i64 els]] w (G7 w P (lG name kd bE (oL kd data few many raw))) := by
 cases raw with
 | true => exact Vp name kd P A1 c1 bE data A2 c2 few A3 c3 many A4 c4 ext wh els w h1 h1c hf hm hn hd
 | false => exact Vo name kd P A1 c1 bE data A2 c2 few A3 c3 many A4 c4 ext wh els w h1 h1c h2 MZ h3 X_ hf hm hn hd
end Go.Proofs.YtgmggompdidcoaaGreatDoor.X
