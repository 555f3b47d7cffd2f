import Derived.Test.YtgmggompdidcoaaGreatDoorMPbtensorReads8
namespace Go.Proofs.YtgmggompdidcoaaGreatDoor.X
open Go.RowKit Go.Proofs.YtgmggompdidcoaaGreatDoorW.aX Go.Proofs.YtgmggompdidcoaaGreatDoorW.bJ Go.Proofs.YtgmggompdidcoaaGreatDoorW.bK
attribute [local go_sem] bO bQ bS bU bM bN bP bR
set_option linter.unusedVariables false
set_option linter.unusedSimpArgs false
set_option maxHeartbeats 8000000
set_option maxRecDepth 100000
def pM (x : Option (dK)) : Int × Int × Int × ByteArray × Bool := match x with
 | none => (0, 0, 0, ⟨#[]⟩, false)
 | some x => (x.f0, x.f1, x.f2, x.f3, true)
def K5.f (l0 : List (dK)) (a1 : Int) : Option (Int × Int × Int × ByteArray × Bool) := if l0.length ≤ 3518437208883 then some (pM (l0.filter fun x => x.f0 == a1).getLast?) else none
theorem K5.ev (l0 : List (dK)) (a1 : Int) (r) (h : K5.f l0 a1 = some r) : ∃ k : Nat, SS.f l0 a1 = some r := by
 unfold K5.f at h
 split at h
 · rename_i hb
   rw [← h]
   refine ⟨0, ?_⟩
   have e : sV.f l0 a1 = some (l0.filter fun x => x.f0 == a1) := ip hb
   have hle : (l0.filter fun x => x.f0 == a1).length ≤ l0.length := List.length_filter_le _ _
   unfold SS.f
   rw [e, Option.bind_some]
   generalize (l0.filter fun x => x.f0 == a1) = m at *
   by_cases hm : m.length = 0
   · rw [ip (by omega), List.eq_nil_of_length_eq_zero hm]; rfl
   · have ew : wrap64 ((m.length : Int) - 1) = ((m.length - 1 : Nat) : Int) := by rw [fC (by omega) (by omega)]; omega
     have e0 := Bg m (m.length - 1) (by omega)
     rw [iN (by omega), ew, ip (by omega), ip (by omega), e0, List.getLast?_eq_getElem?, List.getElem?_eq_getElem (by omega)]
     rfl
 · cases h
theorem K5.calls (A0 : Option Addr) (c0 : Nat) (l0 : List (dK)) (a1 : Int) (r1 : Int) (r2 : Int) (r3 : Int) (r4 : ByteArray) (r5 : Bool) (w : World) (hr0 : Kd.C lN w A0 l0.length l0) (hc0 : l0.length ≤ c0) (h : K5.f l0 a1 = some (r1, r2, r3, r4, r5)) :
 Calls Tryz.prog 89 #[.slice A0 l0.length c0, .int .i64 a1] w fun e w' => e = .returned (.tuple #[.agg #[.int .i64 r1, .int .i64 r2, .int .u64 r3, .string r4], .bool r5]) ∧ Below w.heap.size w w' := by
 obtain ⟨k, hk⟩ := K5.ev l0 a1 _ h
 exact SS.calls A0 c0 l0 a1 r1 r2 r3 r4 r5 w hr0 hc0 hk
theorem XA (b : ByteArray) : (eX b).1.length ≤ 3518437208883 := by
 unfold eX
 by_cases h : b.size > 1048576
 · rw [ip h]; exact Nat.zero_le _
 · rw [iN h]
   have := Uc b.size b
   omega
theorem Zh (b : ByteArray) : (l6 b).1.2.2.2.size ≤ b.size := by
 have h0 : (⟨#[]⟩ : ByteArray).size ≤ b.size := Nat.zero_le _
 unfold l6
 split
 · exact h0
 · split
   · exact h0
   · split
     · dsimp only
       split
       · exact h0
       · split
         · exact h0
         · split
           · exact h0
           · dsimp only
             rw [ByteArray.size_extract]; omega
     · dsimp only
       split
       · split
         · exact h0
         · exact h0
       · split
         · exact h0
         · exact h0
theorem _H (d : Nat) : ∀ b : ByteArray, ∀ x ∈ (lX d b).1, x.2.2.2.size ≤ b.size := by
 induction d with
 | zero => intro b x hx; cases hx
 | succ d ih =>
  intro b x hx
  rw [lX] at hx
  split at hx
  · cases hx
  · split at hx
    · cases hx
    · split at hx
      · cases hx
      · rcases List.mem_cons.1 hx with e | h
        · rw [e]; exact Zh b
        · exact Nat.le_trans (ih _ x h) (by rw [ByteArray.size_extract]; omega)
theorem Vn (b : ByteArray) (hb : b.size ≤ 140737488351232) : ∀ x ∈ (eX b).1.map toP, x.f3.size ≤ 140737488351232 := by
 intro x hx
 obtain ⟨y, hy, rfl⟩ := List.mem_map.1 hx
 unfold eX at hy
 by_cases h : b.size > 1048576
 · rw [ip h] at hy; cases hy
 · rw [iN h] at hy
   exact Nat.le_trans (_H _ b y hy) hb
def wW.l0 : Nat → List Int → ByteArray → Option (List Int × Int)
 | 0, _, _ => none
 | k + 1, x0, x1 => if x1.toList = ([] : List UInt8) then (some (x0, 0)) else ((lT.f x1).bind fun gY => (if gY.2.2 = 0 then (if (x0.length : Int) ≥ 65536 then (some (([] : List Int), 7)) else (if x0.length < 17592186044416 then (if 0 ≤ gY.2.1 then (if gY.2.1 ≤ (x1.size : Int) then (wW.l0 k (x0 ++ [wrap64 (gY.1)]) (x1.extract (gY.2.1 : Int).toNat x1.size)) else (none)) else (none)) else (none))) else (some (([] : List Int), gY.2.2))))
def wW.f (k : Nat) (l0 : List Int) (a1 : ByteArray) : Option (List Int × Int) := wW.l0 k l0 a1
theorem wW.calls (k : Nat) (yM : Nat → Prop) (N7 : Value) (l0 : List Int) (a1 : ByteArray) (r1 : List Int) (r2 : Int) (w0 w : World) (hB : Below w0.heap.size w0 w) (ho0 : Kd.R (Kd.int .i64) 2 w w0.heap.size yM N7 l0) (h : wW.f k l0 a1 = some (r1, r2)) :
 Calls Tryz.prog 82 #[N7, .string a1] w fun e w' => ∃ gW : Value, e = .returned (.tuple #[gW, .int .i64 r2]) ∧ Kd.R (Kd.int .i64) 2 w' w0.heap.size (fun k_ => (yM k_ ∨ w.heap.size ≤ k_)) gW r1 ∧ Below w0.heap.size w0 w' ∧ Kept w w' (fun k_ => yM k_) := by
 have HO0 := aA (show Kd.R (Kd.int .i64) 2 w w0.heap.size (fun k_ => (yM k_ ∨ w.heap.size ≤ k_)) N7 l0 from Kd.eO ho0 (fun k_ hk => (.inl hk))); have HK := aA (Kept.refl w (fun k_ => yM k_)); have HW0 := aA hB.size; have HB := aA hB; clear hB; have H : (wW.l0 k l0 a1) = some (r1, r2) := h; clear h; have H' := aA H; clear H
 go_enter Tryz.func82, Tryz.ntmps82
 go_wp2
 go_loopg [0, 1] k (fun kq v0 v1 w' => ∃ (nN : List Int) (uU : ByteArray), v1 = .string uU ∧ aC (wW.l0 kq nN uU = some (r1, r2)) ∧ aC (kq ≤ k) ∧ aC (Kd.R (Kd.int .i64) 2 w' w0.heap.size (fun k_ => (yM k_ ∨ w.heap.size ≤ k_)) v0 nN) ∧ aC (Kept w w' (fun k_ => yM k_)) ∧ aC (Below w0.heap.size w0 w'))
 case atStart => exact ⟨(l0), (a1), aZ, H', ⟨Nat.le_refl _⟩, ⟨dZ HO0⟩, ⟨by repeat (first | (with_reducible first | exact HK.out | apply Kept.alloc | apply Kept.drewN | apply Kept.drew) | exact HK.out)⟩, ⟨aJ HB⟩⟩
 case round =>
  clear H'; obtain ⟨nN, uU, rfl, HA, bD, QY, HK, HB⟩ := hrel
  cases gk with
  | zero => exact absurd HA.out (by simp [wW.l0])
  | succ k1 =>
   have H := HA.out; clear HA
   simp only [wW.l0] at H
   by_cases c3 : uU.toList = ([] : List UInt8)
   ·
    rw [ip c3] at H; obtain ⟨gL, rW⟩ := dH c3; clear c3
    simp only [Option.some.injEq, Prod.mk.injEq] at H
    obtain ⟨rfl, rfl⟩ := H
    go_wp2
    go_ret2
    exact ⟨_, eH, dZ QY, aJ HB, by repeat (first | (with_reducible first | exact HK.out | apply Kept.alloc | apply Kept.drewN | apply Kept.drew) | exact HK.out)⟩
   ·
    rw [iN c3] at H; have gL := beq_eq_false_iff_ne.mpr c3; have rW := bne_iff_ne.mpr c3; replace H := Option.bind_eq_some_iff.mp H; obtain ⟨⟨t101, t102, t103⟩, MH, H⟩ := H; replace H : (if t103 = 0 then (if (nN.length : Int) ≥ 65536 then (some (([] : List Int), 7)) else (if nN.length < 17592186044416 then (if 0 ≤ t102 then (if t102 ≤ (uU.size : Int) then (wW.l0 k1 (nN ++ [wrap64 (t101)]) (uU.extract (t102 : Int).toNat uU.size)) else (none)) else (none)) else (none))) else (some (([] : List Int), t103))) = some (r1, r2) := H; have A4 := aA MH; clear MH
    by_cases c5 : t103 = 0
    ·
     rw [ip c5] at H; obtain ⟨iH, lF⟩ := dH c5; clear c5
     by_cases c6 : (nN.length : Int) ≥ 65536
     ·
      rw [ip c6] at H; have kP := dT c6; have wD : decide (65536 ≤ nN.length) = true := dT (by omega); clear c6
      simp only [Option.some.injEq, Prod.mk.injEq] at H
      obtain ⟨rfl, rfl⟩ := H
      go_wp2_with (first | ((with_reducible refine dJ (f := 97) rfl ?_); refine dV (some 13) rfl rfl Tryz.func97 (by kernel_rfl) rfl #[.string uU] rfl ?_; (with_reducible refine (lT.calls uU t101 t102 t103 _ A4.out).mono ?_); rintro e w' ⟨rfl, ⟨nd, rfl⟩⟩; refine ⟨_, rfl, ?_⟩; obtain ⟨Ao7, co7, Ab⟩ := Kd.jF QY.out; subst Ab))
      go_ret2
      exact ⟨_, eH, nC, aJ HB, by repeat (first | (with_reducible first | exact HK.out | apply Kept.alloc | apply Kept.drewN | apply Kept.drew) | exact HK.out)⟩
     ·
      rw [iN c6] at H; have kP := dF c6; have wD : decide (65536 ≤ nN.length) = false := dF (by omega); clear c6; replace H := dU H; obtain ⟨c8, H⟩ := H; have aEL := aA c8; clear c8; obtain ⟨y104, hy104⟩ : ∃ y_ : List Int, y_ = (nN ++ [wrap64 (t101)]) := ⟨_, rfl⟩; replace H : (if 0 ≤ t102 then (if t102 ≤ (uU.size : Int) then (wW.l0 k1 y104 (uU.extract (t102 : Int).toNat uU.size)) else (none)) else (none)) = some (r1, r2) := by first | (rw [hy104]; with_reducible exact H) | (have fI := (Option.bind_some _ _).symm.trans H; rw [hy104]; with_reducible exact fI) | (have fI := (Option.bind_some _ _).symm.trans H; with_reducible exact fI) | with_reducible exact H | (rw [hy104]; exact H) | exact H
      have mg := aA hy104; clear hy104; replace H := dU H; obtain ⟨c9, H⟩ := H; have mO := eT c9; have xI := dT c9; clear c9; replace H := dU H; obtain ⟨c10, H⟩ := H; have qO := eT c10; have zN := dT c10; clear c10; have H' := aA H; clear H
      go_wp2_with (first | ((with_reducible refine dJ (f := 97) rfl ?_); refine dV (some 13) rfl rfl Tryz.func97 (by kernel_rfl) rfl #[.string uU] rfl ?_; (with_reducible refine (lT.calls uU t101 t102 t103 _ A4.out).mono ?_); rintro e w' ⟨rfl, ⟨nd, rfl⟩⟩; refine ⟨_, rfl, ?_⟩; obtain ⟨aEr, aET, aE3⟩ := Kd.jF QY.out; subst aE3) | ((with_reducible refine qD (b := .append) (xs := #[.tmp 25, .tmp 28]) rfl ?_); at_builtin; refine Kd.qZ (Kd.int .i64) (w0 := w0) w0.heap.size rfl (.tmp 25) (.tmp 28) 31 2 (.int .i64 0) 8 rfl Tryz.underlying31 FT rfl (by decide) (by omega) (.slice aEr nN.length aET) nN (wrap64 (t101)) [.int .i64 (wrap64 (t101))] (fun k_ => (yM k_ ∨ w.heap.size ≤ k_)) (fun _ => False) rfl rfl ?aP (fun _ hk => hk.elim) ?aF ?aO ?aB ?aS ?aL ?_; (case aP => exact rfl); (case aB => exact (aJ HB)); (case aF => exact (fun k_ hk => (.inr (Nat.le_trans (by first | exact HK.out.1 | exact (show Kept w _ (fun k_ => yM k_) from by repeat (first | (with_reducible first | exact HK.out | apply Kept.alloc | apply Kept.drewN | apply Kept.drew) | exact HK.out)).1) hk)))); (case aO => exact (dZ QY)); (case aS => exact (iI (aJ HB))); (case aL => have := aEL.out; omega); intro v105 O4 ho hb hg hat; rw [← mg.out] at ho; replace HB := aA hb; replace HK := aA (Kept.Gj (S := (fun k_ => yM k_)) hg (by repeat (first | (with_reducible first | exact HK.out | apply Kept.alloc | apply Kept.drewN | apply Kept.drew) | exact HK.out)) (fun k_ e_ => (QY.out.1 k_ e_))); have QE := aA ho; clear QY; clear ho hb hg hat))
      go_roundg k1
      case measure => have := bD.out; omega
      case rel => exact ⟨(y104), (uU.extract (t102 : Int).toNat uU.size), aZ, H', iK bD, ⟨dZ QE⟩, ⟨by repeat (first | (with_reducible first | exact HK.out | apply Kept.alloc | apply Kept.drewN | apply Kept.drew) | exact HK.out)⟩, ⟨aJ HB⟩⟩
    ·
     rw [iN c5] at H; have iH := beq_eq_false_iff_ne.mpr c5; have lF := bne_iff_ne.mpr c5
     simp only [Option.some.injEq, Prod.mk.injEq] at H
     obtain ⟨rfl, rfl⟩ := H
     go_wp2_with (first | ((with_reducible refine dJ (f := 97) rfl ?_); refine dV (some 13) rfl rfl Tryz.func97 (by kernel_rfl) rfl #[.string uU] rfl ?_; (with_reducible refine (lT.calls uU t101 t102 t103 _ A4.out).mono ?_); rintro e w' ⟨rfl, ⟨nd, rfl⟩⟩; refine ⟨_, rfl, ?_⟩))
     go_ret2
     exact ⟨_, eH, nC, aJ HB, by repeat (first | (with_reducible first | exact HK.out | apply Kept.alloc | apply Kept.drewN | apply Kept.drew) | exact HK.out)⟩
def GU.f (l0 : List Int) (a1 : ByteArray) : Option (List Int × Int) := if a1.size ≤ 140737488351232 ∧ l0.length ≤ 65536 then some ((mJ a1.size l0 a1).1, ((mJ a1.size l0 a1).2 : Int)) else none
theorem Ti (d : Nat) : ∀ (k : Nat) (out : List Int) (b : ByteArray), b.size ≤ d → b.size ≤ 140737488351232 → out.length ≤ 65536 → d < k →
 wW.l0 k out b = some ((mJ d out b).1, ((mJ d out b).2 : Int)) := by
 induction d with
 | zero =>
  intro k out b hb hs ho hk
  obtain ⟨k, rfl⟩ : ∃ m, k = m + 1 := ⟨k - 1, by omega⟩
  simp only [wW.l0]
  rw [ip (toList_nil.2 (by omega))]
  rfl
 | succ d ih =>
  intro k out b hb hs ho hk
  obtain ⟨k, rfl⟩ : ∃ m, k = m + 1 := ⟨k - 1, by omega⟩
  simp only [wW.l0]
  rw [mJ]
  by_cases h0 : b.size = 0
  · rw [ip (toList_nil.2 h0), ip h0]; rfl
  · rw [iN (fun h => h0 (toList_nil.1 h)), iN h0]
    have hg := G5 b
    obtain ⟨⟨y, n, e⟩, hr⟩ : ∃ x, eD b = x := ⟨_, rfl⟩
    simp only [lT.f, Option.bind_some, hr] at hg ⊢
    by_cases he : e = 0
    · subst he
      have g := hg rfl
      rw [ip (by rfl), iN (show ¬ ((0 : Nat) ≠ 0) by simp)]
      by_cases hl : 65536 ≤ out.length
      · rw [ip (by omega), ip hl]; rfl
      · rw [iN (by omega), iN hl, ip (by omega), ip (by omega), ip (by omega), Int.toNat_natCast]
        exact ih k _ _ (by rw [EN _ _ g.2.1]; omega) (by rw [EN _ _ g.2.1]; omega) (by simp; omega) (by omega)
    · rw [iN (by omega), ip he]
theorem GU.ev (l0 : List Int) (a1 : ByteArray) (r) (h : GU.f l0 a1 = some r) : ∃ k, wW.f k l0 a1 = some r := by
 unfold GU.f at h
 split at h
 · rename_i hs
   exact ⟨a1.size + 1, (Ti a1.size _ l0 a1 (Nat.le_refl _) hs.1 hs.2 (by omega)).trans h⟩
 · cases h
theorem GU.calls (yM : Nat → Prop) (N7 : Value) (l0 : List Int) (a1 : ByteArray) (r1 : List Int) (r2 : Int) (w0 w : World) (hB : Below w0.heap.size w0 w) (ho0 : Kd.R (Kd.int .i64) 2 w w0.heap.size yM N7 l0) (h : GU.f l0 a1 = some (r1, r2)) :
 Calls Tryz.prog 82 #[N7, .string a1] w fun e w' => ∃ gW : Value, e = .returned (.tuple #[gW, .int .i64 r2]) ∧ Kd.R (Kd.int .i64) 2 w' w0.heap.size (fun k_ => (yM k_ ∨ w.heap.size ≤ k_)) gW r1 ∧ Below w0.heap.size w0 w' ∧ Kept w w' (fun k_ => yM k_) := by
 obtain ⟨k, hk⟩ := GU.ev l0 a1 _ h
 exact wW.calls k yM N7 l0 a1 r1 r2 w0 w hB ho0 hk
def uH.l0 : Nat → List Int → List (dK) → Int → Int → Option (List Int × Int)
 | 0, _, _, _, _ => none
 | k + 1, x6, nQ, AA, yT => if yT < AA then (if 0 ≤ yT then (if yT < (nQ.length : Int) then (if ((bY nQ yT).f1) = 0 then (if (x6.length : Int) ≥ 65536 then (some (([] : List Int), 7)) else (if x6.length < 17592186044416 then (uH.l0 k (x6 ++ [wrap64 ((bY nQ yT).f2)]) nQ AA (wrap64 (yT + 1))) else (none))) else (if ((bY nQ yT).f1) = 2 then ((GU.f x6 ((bY nQ yT).f3)).bind fun mq => (if mq.2 = 0 then (uH.l0 k mq.1 nQ AA (wrap64 (yT + 1))) else (some (([] : List Int), mq.2)))) else (some (([] : List Int), 3)))) else (none)) else (none)) else (some (x6, 0))
def uH.f (k : Nat) (l0 : List (dK)) (a1 : Int) : Option (List Int × Int) := (sV.f l0 a1).bind fun t101 => (uH.l0 k ([] : List Int) t101 (t101.length : Int) 0)
theorem uH.calls (k : Nat) (A0 : Option Addr) (c0 : Nat) (l0 : List (dK)) (a1 : Int) (r1 : List Int) (r2 : Int) (w : World) (hr0 : Kd.C lN w A0 l0.length l0) (hc0 : l0.length ≤ c0) (h : uH.f k l0 a1 = some (r1, r2)) :
 Calls Tryz.prog 45 #[.slice A0 l0.length c0, .int .i64 a1] w fun e w' => ∃ gW : Value, e = .returned (.tuple #[gW, .int .i64 r2]) ∧ Kd.R (Kd.int .i64) 2 w' w.heap.size (fun _ => True) gW r1 ∧ Below w.heap.size w w' := by
 have EB := Tryz.underlying95; have fF := aA hr0; have oO := aA hc0; clear hr0 hc0; have HB := aA (Below.refl w.heap.size w); have H : ((sV.f l0 a1).bind fun t101 => (uH.l0 k ([] : List Int) t101 (t101.length : Int) 0)) = some (r1, r2) := h; clear h; replace H := bnd H; obtain ⟨t101, A3, H⟩ := H; have H' := aA H; clear H
 go_enter Tryz.func45, Tryz.ntmps45
 go_wp2_with (first | ((with_reducible refine dJ (f := 81) rfl ?_); refine dV (some 13) rfl rfl Tryz.func81 (by kernel_rfl) rfl #[.slice A0 l0.length c0, .int .i64 a1] rfl ?_; (with_reducible refine (sV.calls _ _ l0 a1 t101 _ ?iU ?iV A3.out).mono ?_); (case iU => repeat (first | exact fF.out | (with_reducible refine Kd.xY ?_ _) | (with_reducible refine Kd.ES ?_ _) | (with_reducible refine Kd.E5 ?_))); (case iV => exact oO.out); rintro e w4 ⟨KC, rfl, ho0, hb⟩; refine ⟨_, rfl, ?_⟩; have jN := aA (Kd.nV ho0 (iI (aJ HB))); replace HB := hbS HB hb; (try clear hb); (try clear ho0); obtain ⟨vz, VZ, Aa⟩ := Kd.jF jN.out; subst Aa))
 go_loopg [6, 15] k (fun kq v6 v15 w' => ∃ (bH : List Int) (eB : Int), v15 = .int .i64 eB ∧ aC (uH.l0 kq bH t101 (t101.length : Int) eB = some (r1, r2)) ∧ aC (kq ≤ k) ∧ aC (Kd.R (Kd.int .i64) 2 w' w.heap.size (fun _ => True) v6 bH) ∧ aC (Kd.R lN 95 w' w.heap.size (fun _ => True) (.slice vz t101.length VZ) t101) ∧ aC (Below w.heap.size w w'))
 case atStart => exact ⟨(([] : List Int)), (0), aZ, H', ⟨Nat.le_refl _⟩, ⟨nC⟩, ⟨dZ jN⟩, ⟨aJ HB⟩⟩
 case round =>
  clear H'; obtain ⟨bH, eB, rfl, HA, bD, fH, nI, HB⟩ := hrel
  cases gk with
  | zero => exact absurd HA.out (by simp [uH.l0])
  | succ k1 =>
   have H := HA.out; clear HA
   simp only [uH.l0] at H
   by_cases c6 : eB < (t101.length : Int)
   ·
    rw [ip c6] at H; have kP := dT c6; clear c6; replace H := dU H; obtain ⟨c7, H⟩ := H; have nA := dT c7; clear c7
    by_cases c8 : eB < (t101.length : Int)
    ·
     rw [ip c8] at H; have mG := dT c8; clear c8
     by_cases c9 : ((bY t101 eB).f1) = 0
     ·
      rw [ip c9] at H; obtain ⟨mO, xI⟩ := dH c9; clear c9
      by_cases c10 : (bH.length : Int) ≥ 65536
      ·
       rw [ip c10] at H; have qO := dT c10; have zN : decide (65536 ≤ bH.length) = true := dT (by omega); clear c10
       simp only [Option.some.injEq, Prod.mk.injEq] at H
       obtain ⟨rfl, rfl⟩ := H; have jC : 0 ≤ (eB : Int) := aK; have jD : eB < (t101.length : Int) := aK; obtain ⟨uO, pV, uJ, EZ, JS, JU⟩ := E8 (Kd.jA nI.out).2.2 eB jC jD; cases pV; replace jC := eT jC; replace jD := eT jD
       go_wp2_with (first | ((with_reducible refine cK (N := 8) rfl ?_); refine dB (N := 8) (cs := #[.int .i64 0, .int .i64 0, .int .u64 0, .string ⟨#[]⟩]) (t := 95) ?_; intro gI hg JE aG hb; replace fH := aA (Kd.gU (dZ fH) hb); replace nI := aA (Kd.gU (Kd.zB (dZ nI) gI (Nat.le_of_eq hg.symm)) hb); have gH := aA aG; have QD := bB HB hg; have LQ := bB HB hg; replace HB := hbS HB hb; clear hb aG hg; obtain ⟨S9, TA, TB, TC⟩ := aN gH; have TI := fz gH 0; have TJ := fz gH 1; have TL := fz gH 2; have TM := fz gH 3; obtain ⟨aEs, aEU, tq⟩ := Kd.jF fH.out; subst tq))
       go_ret2
       exact ⟨_, eH, nC, aJ HB⟩
      ·
       rw [iN c10] at H; have qO := dF c10; have zN : decide (65536 ≤ bH.length) = false := dF (by omega); clear c10; replace H := dU H; obtain ⟨c14, H⟩ := H; have aDy := aA c14; clear c14; obtain ⟨MG, vX⟩ : ∃ y_ : List Int, y_ = (bH ++ [wrap64 ((bY t101 eB).f2)]) := ⟨_, rfl⟩; replace H : (uH.l0 k1 MG t101 (t101.length : Int) (wrap64 (eB + 1))) = some (r1, r2) := by first | (rw [vX]; with_reducible exact H) | (have fI := (Option.bind_some _ _).symm.trans H; rw [vX]; with_reducible exact fI) | (have fI := (Option.bind_some _ _).symm.trans H; with_reducible exact fI) | with_reducible exact H | (rw [vX]; exact H) | exact H
       have UN := aA vX; clear vX; have H' := aA H; clear H; have jC : 0 ≤ (eB : Int) := aK; have jD : eB < (t101.length : Int) := aK; obtain ⟨uO, pV, uJ, EZ, JS, JU⟩ := E8 (Kd.jA nI.out).2.2 eB jC jD; cases pV; replace jC := eT jC; replace jD := eT jD
       go_wp2_with (first | ((with_reducible refine cK (N := 8) rfl ?_); refine dB (N := 8) (cs := #[.int .i64 0, .int .i64 0, .int .u64 0, .string ⟨#[]⟩]) (t := 95) ?_; intro gI hg O5 aG hb; replace fH := aA (Kd.gU (dZ fH) hb); replace nI := aA (Kd.gU (Kd.zB (dZ nI) gI (Nat.le_of_eq hg.symm)) hb); have gH := aA aG; have QD := bB HB hg; have LQ := bB HB hg; replace HB := hbS HB hb; clear hb aG hg; obtain ⟨X6, X8, X9, YA⟩ := aN gH; have Jl := fz gH 0; have Jm := fz gH 1; have Jn := fz gH 2; have ib := fz gH 3; obtain ⟨qh, su, uf⟩ := Kd.jF fH.out; subst uf) | ((with_reducible refine qD (b := .append) (xs := #[.tmp 26, .tmp 30]) rfl ?_); at_builtin; refine Kd.qZ (Kd.int .i64) (w0 := w) w.heap.size rfl (.tmp 26) (.tmp 30) 31 2 (.int .i64 0) 8 rfl Tryz.underlying31 FT rfl (by decide) (by omega) (.slice qh bH.length su) bH (wrap64 ((bY t101 eB).f2)) [.int .i64 (wrap64 ((bY t101 eB).f2))] (fun _ => True) (fun _ => False) rfl (by first | (go_simp; done) | (go_simp; rfl)) ?aP (fun _ hk => hk.elim) ?aF ?aO ?aB ?aS ?aL ?_; (case aP => exact rfl); (case aB => exact (aJ HB)); (case aF => exact (fun _ _ => trivial)); (case aO => exact (by (with_reducible repeat (first | apply Kd.kI | apply Kd.kD | apply Kd.jX)); exact Kd.eO (Kd.dE (p := ⟨gI, 3, none⟩) (Kd.dE (p := ⟨gI, 2, none⟩) (Kd.dE (p := ⟨gI, 1, none⟩) (Kd.dE (p := ⟨gI, 0, none⟩) (Kd.ET fH.out gH.out (by decide)) (fun _ hk => hk.2) (.int .i64 ((bY t101 eB).f0))) (fun _ hk => hk.2) (.int .i64 ((bY t101 eB).f1))) (fun _ hk => hk.2) (.int .u64 ((bY t101 eB).f2))) (fun _ hk => hk.2) (.string ((bY t101 eB).f3))) (fun _ hk => trivial))); (case aS => exact (iI (aJ HB))); (case aL => have := aDy.out; omega); intro v107 _t ho hb hg hat; rw [← UN.out] at ho; replace nI := aA (Kd.Gz (by (with_reducible repeat (first | apply Kd.kI | apply Kd.kD | apply Kd.jX)); exact (Kd.eO (Kd.dE (p := ⟨gI, 3, none⟩) (Kd.dE (p := ⟨gI, 2, none⟩) (Kd.dE (p := ⟨gI, 1, none⟩) (Kd.dE (p := ⟨gI, 0, none⟩) (Kd.eO nI.out (fun k_ hk => (⟨hk, hk.2⟩ : _ ∧ k_ ≠ gI))) (fun _ hk => hk.2) (.int .i64 ((bY t101 eB).f0))) (fun _ hk => hk.2) (.int .i64 ((bY t101 eB).f1))) (fun _ hk => hk.2) (.int .u64 ((bY t101 eB).f2))) (fun _ hk => hk.2) (.string ((bY t101 eB).f3))) (fun _ h_ => h_.1))) (Kd.XY (by (with_reducible repeat (first | apply Kd.kI | apply Kd.kD | apply Kd.jX)); exact (Kd.eO (Kd.dE (p := ⟨gI, 3, none⟩) (Kd.dE (p := ⟨gI, 2, none⟩) (Kd.dE (p := ⟨gI, 1, none⟩) (Kd.dE (p := ⟨gI, 0, none⟩) (Kd.ET fH.out gH.out (by decide)) (fun _ hk => hk.2) (.int .i64 ((bY t101 eB).f0))) (fun _ hk => hk.2) (.int .i64 ((bY t101 eB).f1))) (fun _ hk => hk.2) (.int .u64 ((bY t101 eB).f2))) (fun _ hk => hk.2) (.string ((bY t101 eB).f3))) (fun _ h_ => h_.1)))) (by decide) hg); replace gH := aA (GZ (g := gI) (o := .cells #[.int .i64 ((bY t101 eB).f0), .int .i64 ((bY t101 eB).f1), .int .u64 ((bY t101 eB).f2), .string ((bY t101 eB).f3)] 95 (0, 0)) (aU gH) hg (Kd.OI fH.out gH.out (by decide))); replace HB := aA hb; have UL := aA ho; clear fH; clear ho hb hg hat))
       go_roundg k1
       case measure => have := bD.out; omega
       case rel => exact ⟨(MG), (wrap64 (eB + 1)), aZ, H', iK bD, ⟨dZ UL⟩, ⟨by (with_reducible repeat (first | apply Kd.kI | apply Kd.kD | apply Kd.jX)); exact Kd.eO nI.out (fun _ hk => trivial)⟩, ⟨aJ HB⟩⟩
     ·
      rw [iN c9] at H; have mO := beq_eq_false_iff_ne.mpr c9; have xI := bne_iff_ne.mpr c9
      by_cases c19 : ((bY t101 eB).f1) = 2
      ·
       rw [ip c19] at H; obtain ⟨LX, QL⟩ := dH c19; clear c19; replace H := Option.bind_eq_some_iff.mp H; obtain ⟨⟨t109, t112⟩, Oa, H⟩ := H; replace H : (if t112 = 0 then (uH.l0 k1 t109 t101 (t101.length : Int) (wrap64 (eB + 1))) else (some (([] : List Int), t112))) = some (r1, r2) := H; have I6 := aA Oa; clear Oa
       by_cases c21 : t112 = 0
       ·
        rw [ip c21] at H; obtain ⟨vV, QN⟩ := dH c21; clear c21; have H' := aA H; clear H; have jC : 0 ≤ (eB : Int) := aK; have jD : eB < (t101.length : Int) := aK; obtain ⟨uO, pV, uJ, EZ, JS, JU⟩ := E8 (Kd.jA nI.out).2.2 eB jC jD; cases pV; replace jC := eT jC; replace jD := eT jD
        go_wp2_with (first | ((with_reducible refine cK (N := 8) rfl ?_); refine dB (N := 8) (cs := #[.int .i64 0, .int .i64 0, .int .u64 0, .string ⟨#[]⟩]) (t := 95) ?_; intro gI hg R7 aG hb; replace fH := aA (Kd.gU (dZ fH) hb); replace nI := aA (Kd.gU (Kd.zB (dZ nI) gI (Nat.le_of_eq hg.symm)) hb); have gH := aA aG; have QD := bB HB hg; have LQ := bB HB hg; replace HB := hbS HB hb; clear hb aG hg; obtain ⟨NP, NQ, NS, NT⟩ := aN gH; have PW := fz gH 0; have PX := fz gH 1; have PY := fz gH 2; have PZ := fz gH 3) | ((with_reducible refine Du (t := 95) (p := 8) rfl ?_); refine Di (t := 95) (p := 8) (v := ?aHu) (w1 := ((((R7.setCell ⟨gI, 0, none⟩ (.int .i64 ((bY t101 eB).f0))).setCell ⟨gI, 1, none⟩ (.int .i64 ((bY t101 eB).f1))).setCell ⟨gI, 2, none⟩ (.int .u64 ((bY t101 eB).f2))).setCell ⟨gI, 3, none⟩ (.string ((bY t101 eB).f3)))) ?hg ?ho ?hn ?hr ?_; (case ho => rfl); (case hg => rfl); (case hn => rfl); (case hr => first | (go_simp; done) | (go_simp; rfl)); intro yS hw; have bI : aC (Kd.R (Kd.int .i64) 2 yS w.heap.size (fun _ => True) u6 bH) := ⟨(by rw [hw]; exact (by (with_reducible repeat (first | apply Kd.kI | apply Kd.kD | apply Kd.jX)); exact Kd.eO (Kd.dE (p := ⟨gI, 3, none⟩) (Kd.dE (p := ⟨gI, 2, none⟩) (Kd.dE (p := ⟨gI, 1, none⟩) (Kd.dE (p := ⟨gI, 0, none⟩) (Kd.ET fH.out gH.out (by decide)) (fun _ hk => hk.2) (.int .i64 ((bY t101 eB).f0))) (fun _ hk => hk.2) (.int .i64 ((bY t101 eB).f1))) (fun _ hk => hk.2) (.int .u64 ((bY t101 eB).f2))) (fun _ hk => hk.2) (.string ((bY t101 eB).f3))) (fun _ hk => trivial)))⟩; have bV : aC (Kd.R lN 95 yS w.heap.size (fun k_ => k_ ≠ gI) (.slice (some uO) t101.length VZ) t101) := ⟨(by rw [hw]; exact (by (with_reducible repeat (first | apply Kd.kI | apply Kd.kD | apply Kd.jX)); exact Kd.eO (Kd.dE (p := ⟨gI, 3, none⟩) (Kd.dE (p := ⟨gI, 2, none⟩) (Kd.dE (p := ⟨gI, 1, none⟩) (Kd.dE (p := ⟨gI, 0, none⟩) (Kd.eO nI.out (fun k_ hk => (⟨hk, hk.2⟩ : _ ∧ k_ ≠ gI))) (fun _ hk => hk.2) (.int .i64 ((bY t101 eB).f0))) (fun _ hk => hk.2) (.int .i64 ((bY t101 eB).f1))) (fun _ hk => hk.2) (.int .u64 ((bY t101 eB).f2))) (fun _ hk => hk.2) (.string ((bY t101 eB).f3))) (fun _ hk => hk.1.2)))⟩; have gB : aC (yS.heap[gI]? = some (.cells #[.int .i64 ((bY t101 eB).f0), .int .i64 ((bY t101 eB).f1), .int .u64 ((bY t101 eB).f2), .string ((bY t101 eB).f3)] 95 (0, 0))) := ⟨(by rw [hw]; exact (aU gH))⟩; have kL : aC (Below w.heap.size w yS) := ⟨(by rw [hw]; exact (aJ HB))⟩; clear hw; clear fH; clear nI; clear gH; clear HB; have fH := bI; have nI := bV; have gH := gB; have HB := kL; clear bI bV gB kL; obtain ⟨aBe, aBf, aBg, aBh⟩ := aN gH; have aGr := fz gH 0; have aGs := fz gH 1; have aGt := fz gH 2; have aBS := fz gH 3; obtain ⟨qi, sw, aE8⟩ := Kd.jF fH.out; subst aE8) | ((with_reducible refine dJ (f := 82) rfl ?_); refine dV (some 38) rfl rfl Tryz.func82 (by kernel_rfl) rfl #[.slice qi bH.length sw, .string ((bY t101 eB).f3)] rfl ?_; (with_reducible refine (GU.calls (fun k_ => some k_ = (.slice qi bH.length sw : Value).ownBlock) (.slice qi bH.length sw) bH ((bY t101 eB).f3) t109 t112 w _ ?iU ?iV I6.out).mono ?_); (case iU => repeat (first | (with_reducible first | exact HB.out | apply iD | apply nS | apply iO | refine fD ?_ LQ.out) | exact HB.out)); (case iV => exact Kd.Ha rfl fH.out); rintro e sQ ⟨uz, rfl, ho0, hb, hkp⟩; refine ⟨_, rfl, ?_⟩; replace nI := aA (Kd.eO (ok' := fun k_ => k_ ≠ gI) (Kd.Gy ((Kd.Fp nI.out (Kd.XY fH.out) (by decide))) hkp (fun k_ KS hs_ => (KS.2) hs_)) (fun k_ KS => KS.1.1)); replace gH := aA (Ga (fZ gH) hkp (fun hs_ => (fun e_ => (Kd.OI fH.out gH.out (by decide)) e_) hs_)); have LV := aA (Kd.eO (ok' := fun k_ => True) ho0 (fun k_ KS => trivial)); replace HB := aA hb; clear fH; (try clear hb); (try clear hkp); (try clear ho0)))
        go_roundg k1
        case measure => have := bD.out; omega
        case rel => exact ⟨(t109), (wrap64 (eB + 1)), aZ, H', iK bD, ⟨dZ LV⟩, ⟨by (with_reducible repeat (first | apply Kd.kI | apply Kd.kD | apply Kd.jX)); exact Kd.eO nI.out (fun _ hk => trivial)⟩, ⟨aJ HB⟩⟩
       ·
        rw [iN c21] at H; have vV := beq_eq_false_iff_ne.mpr c21; have QN := bne_iff_ne.mpr c21
        simp only [Option.some.injEq, Prod.mk.injEq] at H
        obtain ⟨rfl, rfl⟩ := H; have jC : 0 ≤ (eB : Int) := aK; have jD : eB < (t101.length : Int) := aK; obtain ⟨uO, pV, uJ, EZ, JS, JU⟩ := E8 (Kd.jA nI.out).2.2 eB jC jD; cases pV; replace jC := eT jC; replace jD := eT jD
        go_wp2_with (first | ((with_reducible refine cK (N := 8) rfl ?_); refine dB (N := 8) (cs := #[.int .i64 0, .int .i64 0, .int .u64 0, .string ⟨#[]⟩]) (t := 95) ?_; intro gI hg _u aG hb; replace fH := aA (Kd.gU (dZ fH) hb); replace nI := aA (Kd.gU (Kd.zB (dZ nI) gI (Nat.le_of_eq hg.symm)) hb); have gH := aA aG; have QD := bB HB hg; have LQ := bB HB hg; replace HB := hbS HB hb; clear hb aG hg; obtain ⟨aBm, aBn, aBo, aBp⟩ := aN gH; have aBX := fz gH 0; have aBY := fz gH 1; have aBZ := fz gH 2; have aB0 := fz gH 3) | ((with_reducible refine Du (t := 95) (p := 8) rfl ?_); refine Di (t := 95) (p := 8) (v := ?aHv) (w1 := ((((_u.setCell ⟨gI, 0, none⟩ (.int .i64 ((bY t101 eB).f0))).setCell ⟨gI, 1, none⟩ (.int .i64 ((bY t101 eB).f1))).setCell ⟨gI, 2, none⟩ (.int .u64 ((bY t101 eB).f2))).setCell ⟨gI, 3, none⟩ (.string ((bY t101 eB).f3)))) ?hg ?ho ?hn ?hr ?_; (case ho => rfl); (case hg => rfl); (case hn => rfl); (case hr => first | (go_simp; done) | (go_simp; rfl)); intro sS hw; have bI : aC (Kd.R (Kd.int .i64) 2 sS w.heap.size (fun _ => True) u6 bH) := ⟨(by rw [hw]; exact (by (with_reducible repeat (first | apply Kd.kI | apply Kd.kD | apply Kd.jX)); exact Kd.eO (Kd.dE (p := ⟨gI, 3, none⟩) (Kd.dE (p := ⟨gI, 2, none⟩) (Kd.dE (p := ⟨gI, 1, none⟩) (Kd.dE (p := ⟨gI, 0, none⟩) (Kd.ET fH.out gH.out (by decide)) (fun _ hk => hk.2) (.int .i64 ((bY t101 eB).f0))) (fun _ hk => hk.2) (.int .i64 ((bY t101 eB).f1))) (fun _ hk => hk.2) (.int .u64 ((bY t101 eB).f2))) (fun _ hk => hk.2) (.string ((bY t101 eB).f3))) (fun _ hk => trivial)))⟩; have bV : aC (Kd.R lN 95 sS w.heap.size (fun k_ => k_ ≠ gI) (.slice (some uO) t101.length VZ) t101) := ⟨(by rw [hw]; exact (by (with_reducible repeat (first | apply Kd.kI | apply Kd.kD | apply Kd.jX)); exact Kd.eO (Kd.dE (p := ⟨gI, 3, none⟩) (Kd.dE (p := ⟨gI, 2, none⟩) (Kd.dE (p := ⟨gI, 1, none⟩) (Kd.dE (p := ⟨gI, 0, none⟩) (Kd.eO nI.out (fun k_ hk => (⟨hk, hk.2⟩ : _ ∧ k_ ≠ gI))) (fun _ hk => hk.2) (.int .i64 ((bY t101 eB).f0))) (fun _ hk => hk.2) (.int .i64 ((bY t101 eB).f1))) (fun _ hk => hk.2) (.int .u64 ((bY t101 eB).f2))) (fun _ hk => hk.2) (.string ((bY t101 eB).f3))) (fun _ hk => hk.1.2)))⟩; have gB : aC (sS.heap[gI]? = some (.cells #[.int .i64 ((bY t101 eB).f0), .int .i64 ((bY t101 eB).f1), .int .u64 ((bY t101 eB).f2), .string ((bY t101 eB).f3)] 95 (0, 0))) := ⟨(by rw [hw]; exact (aU gH))⟩; have kL : aC (Below w.heap.size w sS) := ⟨(by rw [hw]; exact (aJ HB))⟩; clear hw; clear fH; clear nI; clear gH; clear HB; have fH := bI; have nI := bV; have gH := gB; have HB := kL; clear bI bV gB kL; obtain ⟨TE, TF, TG, TH⟩ := aN gH; have ic := fz gH 0; have ig := fz gH 1; have ik := fz gH 2; have il := fz gH 3; obtain ⟨ZY, Z9, ug⟩ := Kd.jF fH.out; subst ug) | ((with_reducible refine dJ (f := 82) rfl ?_); refine dV (some 38) rfl rfl Tryz.func82 (by kernel_rfl) rfl #[.slice ZY bH.length Z9, .string ((bY t101 eB).f3)] rfl ?_; (with_reducible refine (GU.calls (fun k_ => some k_ = (.slice ZY bH.length Z9 : Value).ownBlock) (.slice ZY bH.length Z9) bH ((bY t101 eB).f3) t109 t112 w _ ?iU ?iV I6.out).mono ?_); (case iU => repeat (first | (with_reducible first | exact HB.out | apply iD | apply nS | apply iO | refine fD ?_ LQ.out) | exact HB.out)); (case iV => exact Kd.Ha rfl fH.out); rintro e w33 ⟨uz, rfl, ho0, hb, hkp⟩; refine ⟨_, rfl, ?_⟩; replace nI := aA (Kd.eO (ok' := fun k_ => k_ ≠ gI) (Kd.Gy ((Kd.Fp nI.out (Kd.XY fH.out) (by decide))) hkp (fun k_ KS hs_ => (KS.2) hs_)) (fun k_ KS => KS.1.1)); replace gH := aA (Ga (fZ gH) hkp (fun hs_ => (fun e_ => (Kd.OI fH.out gH.out (by decide)) e_) hs_)); have LV := aA (Kd.eO (ok' := fun k_ => True) ho0 (fun k_ KS => trivial)); replace HB := aA hb; clear fH; (try clear hb); (try clear hkp); (try clear ho0)))
        go_ret2
        exact ⟨_, eH, nC, aJ HB⟩
      ·
       rw [iN c19] at H; have LX := beq_eq_false_iff_ne.mpr c19; have QL := bne_iff_ne.mpr c19
       simp only [Option.some.injEq, Prod.mk.injEq] at H
       obtain ⟨rfl, rfl⟩ := H; have jC : 0 ≤ (eB : Int) := aK; have jD : eB < (t101.length : Int) := aK; obtain ⟨uO, pV, uJ, EZ, JS, JU⟩ := E8 (Kd.jA nI.out).2.2 eB jC jD; cases pV; replace jC := eT jC; replace jD := eT jD
       go_wp2_with (first | ((with_reducible refine cK (N := 8) rfl ?_); refine dB (N := 8) (cs := #[.int .i64 0, .int .i64 0, .int .u64 0, .string ⟨#[]⟩]) (t := 95) ?_; intro gI hg Bl aG hb; replace fH := aA (Kd.gU (dZ fH) hb); replace nI := aA (Kd.gU (Kd.zB (dZ nI) gI (Nat.le_of_eq hg.symm)) hb); have gH := aA aG; have QD := bB HB hg; have LQ := bB HB hg; replace HB := hbS HB hb; clear hb aG hg; obtain ⟨aFD, aFE, aFF, aFG⟩ := aN gH; have aGy := fz gH 0; have aGz := fz gH 1; have aGA := fz gH 2; have aGB := eZ gH.out 3))
       go_ret2
       exact ⟨_, eH, nC, aJ HB⟩
    ·
     exact absurd (of_decide_eq_true kP) c8
   ·
    rw [iN c6] at H; have kP := dF c6; clear c6
    simp only [Option.some.injEq, Prod.mk.injEq] at H
    obtain ⟨rfl, rfl⟩ := H
    go_wp2
    go_ret2
    exact ⟨_, eH, dZ fH, aJ HB⟩
def wV.f (l0 : List (dK)) (a1 : Int) : Option (List Int × Int) := if l0.length ≤ 3518437208883 ∧ ∀ x ∈ l0, x.f3.size ≤ 140737488351232 then some ((mF ((l0.filter fun x => x.f0 == a1).map mD) []).1, ((mF ((l0.filter fun x => x.f0 == a1).map mD) []).2 : Int)) else none
theorem Ue (l : List (dK)) (hl : l.length ≤ 3518437208883) (hs : ∀ x ∈ l, x.f3.size ≤ 140737488351232) (d : Nat) : ∀ (k i : Nat) (out : List Int), l.length - i = d → i ≤ l.length → out.length ≤ 65536 → d < k →
 uH.l0 k out l l.length i = some ((mF ((l.drop i).map mD) out).1, ((mF ((l.drop i).map mD) out).2 : Int)) := by
 induction d with
 | zero =>
  intro k i out hd hi ho hk
  obtain ⟨k, rfl⟩ : ∃ m, k = m + 1 := ⟨k - 1, by omega⟩
  simp only [uH.l0]
  rw [iN (by omega), List.drop_of_length_le (by omega)]
  rfl
 | succ d ih =>
  intro k i out hd hi ho hk
  obtain ⟨k, rfl⟩ : ∃ m, k = m + 1 := ⟨k - 1, by omega⟩
  have h0 : i < l.length := by omega
  simp only [uH.l0, Bg l i h0]
  have hsx := hs l[i] (List.getElem_mem _)
  have ew : wrap64 ((i : Int) + 1) = ((i + 1 : Nat) : Int) := by rw [fC (by omega) (by omega)]; omega
  rw [ip (by omega), ip (by omega), ip (by omega), List.drop_eq_getElem_cons h0, List.map_cons, ew]
  clear ew
  generalize l[i] = x at *
  rw [mF]
  by_cases t0 : x.f1 = 0
  · rw [ip t0, ip (show (mD x).2.1 = 0 from t0)]
    by_cases hf : 65536 ≤ out.length
    · rw [ip (by omega), ip hf]; rfl
    · rw [iN (by omega), iN hf, ip (by omega)]
      exact ih k (i + 1) _ (by omega) (by omega) (by simp; omega) (by omega)
  · rw [iN t0, iN (show ¬ (mD x).2.1 = 0 from t0)]
    by_cases t2 : x.f1 = 2
    · have e : GU.f out x.f3 = some ((mJ x.f3.size out x.f3).1, ((mJ x.f3.size out x.f3).2 : Int)) := ip ⟨hsx, ho⟩
      rw [ip t2, ip (show (mD x).2.1 = 2 from t2), e, Option.bind_some]
      show (if ((mJ x.f3.size out x.f3).2 : Int) = 0 then _ else _) = some ((if (mJ x.f3.size out x.f3).2 ≠ 0 then ([], (mJ x.f3.size out x.f3).2) else mF ((l.drop (i + 1)).map mD) (mJ x.f3.size out x.f3).1).1, _)
      have hp := _Q x.f3.size out x.f3 ho
      have hcv : (mD x).2.2.2 = x.f3 := rfl
      simp only [hcv]
      by_cases hz : (mJ x.f3.size out x.f3).2 = 0
      · rw [ip (by omega), iN (fun h => h hz)]
        exact ih k (i + 1) _ (by omega) (by omega) hp (by omega)
      · rw [iN (by omega), ip hz]
    · rw [iN t2, iN (show ¬ (mD x).2.1 = 2 from t2)]
      rfl
theorem wV.ev (l0 : List (dK)) (a1 : Int) (r) (h : wV.f l0 a1 = some r) : ∃ k, uH.f k l0 a1 = some r := by
 unfold wV.f at h
 split at h
 · rename_i hs
   rw [← h]
   have e : sV.f l0 a1 = some (l0.filter fun x => x.f0 == a1) := ip hs.1
   have hle : (l0.filter fun x => x.f0 == a1).length ≤ l0.length := List.length_filter_le _ _
   refine ⟨(l0.filter fun x => x.f0 == a1).length + 1, ?_⟩
   unfold uH.f
   rw [e, Option.bind_some]
   have := Ue (l0.filter fun x => x.f0 == a1) (by omega) (fun x hx => hs.2 x (List.mem_filter.1 hx).1) _ ((l0.filter fun x => x.f0 == a1).length + 1) 0 [] rfl (by omega) (by simp) (by omega)
   simpa using this
 · cases h
theorem wV.calls (A0 : Option Addr) (c0 : Nat) (l0 : List (dK)) (a1 : Int) (r1 : List Int) (r2 : Int) (w : World) (hr0 : Kd.C lN w A0 l0.length l0) (hc0 : l0.length ≤ c0) (h : wV.f l0 a1 = some (r1, r2)) :
 Calls Tryz.prog 45 #[.slice A0 l0.length c0, .int .i64 a1] w fun e w' => ∃ gW : Value, e = .returned (.tuple #[gW, .int .i64 r2]) ∧ Kd.R (Kd.int .i64) 2 w' w.heap.size (fun _ => True) gW r1 ∧ Below w.heap.size w w' := by
 obtain ⟨k, hk⟩ := wV.ev l0 a1 _ h
 exact uH.calls k A0 c0 l0 a1 r1 r2 w hr0 hc0 hk
theorem dR {w W : World} {g : Nat} {a b c d : Value} (h : Below w.heap.size w W) (hg : w.heap.size ≤ g) : Below w.heap.size w ((((W.setCell ⟨g, 0, none⟩ a).setCell ⟨g, 1, none⟩ b).setCell ⟨g, 2, none⟩ c).setCell ⟨g, 3, none⟩ d) :=
 fD (fD (fD (fD h hg) hg) hg) hg
theorem But.far {g : Nat} {w W : World} (h : But g w W) {p : Addr} (hp : w.heap.size ≤ p.block) (v : Value) : But g w (W.setCell p v) :=
 ⟨h.os, h.tape, h.output, by show _ ≤ (W.heap.modify p.block _).size; rw [Array.size_modify]; exact h.size, fun j hj hn => (Below.heap_setCell W p v j (Nat.ne_of_lt (Nat.lt_of_lt_of_le hj hp))).trans (h.block j hj hn)⟩
theorem But.aFb {w W : World} {g0 g : Nat} {a b c d : Value} (h : But g0 w W) (hg : w.heap.size ≤ g) : But g0 w ((((W.setCell ⟨g, 0, none⟩ a).setCell ⟨g, 1, none⟩ b).setCell ⟨g, 2, none⟩ c).setCell ⟨g, 3, none⟩ d) :=
 (((h.far (p := ⟨g, 0, none⟩) hg a).far (p := ⟨g, 1, none⟩) hg b).far (p := ⟨g, 2, none⟩) hg c).far (p := ⟨g, 3, none⟩) hg d
def kT (ok : Bool) (ty kind e : Int) : Int := if ok = true then (if ty = kind then e else if e = 0 then 3 else e) else e
theorem PO (A : Option Addr) (c : Nat) (l : List dK) (num kind : Int) (g : Nat) (e : Int) (y0 y1 y2 : Int) (y3 : ByteArray) (ok : Bool) (w : World) (hr : Kd.C lN w A l.length l) (hc : l.length ≤ c) (hl : l.length ≤ 3518437208883)
 (hb : w.heap[g]? = some (.cells #[.int .i64 e] 34 (0, 0))) (hx : pM ((l.filter fun x => x.f0 == num).getLast?) = (y0, y1, y2, y3, ok)) :
 Calls Tryz.prog 52 #[.slice A l.length c, .int .i64 num, .int .i64 kind, .pointer (some ⟨g, 0, none⟩)] w fun en w' => en = .returned (.tuple #[.agg #[.int .i64 y0, .int .i64 y1, .int .u64 y2, .string y3], .bool ok]) ∧ But g w w' ∧ w'.heap[g]? = some (.cells #[.int .i64 (kT ok y1 kind e)] 34 (0, 0)) := by
 have hu2 := Tryz.underlying95
 have HQ := aC.mk (show K5.f l num = some (y0, y1, y2, y3, ok) from (ip hl).trans (by rw [hx]))
 have HR := aC.mk hr
 have mQ := aC.mk hc
 have BK := aC.mk hb
 have HB := aC.mk (Below.refl w.heap.size w)
 clear hr hc hb hx hl
 go_enter Tryz.func52, Tryz.ntmps52
 go_wp2_with (first | ((with_reducible refine cK (N := 8) rfl ?_); refine dB (N := 8) (cs := #[.int .i64 0, .int .i64 0, .int .u64 0, .string ⟨#[]⟩]) (t := 95) ?_; intro gr hg w1 aG hb; have BR := aA aG; have GR := bB HB hg; have NR := cO BK hg; have NR2 := dD BK hg; replace BK := aI BK hb; replace HB := hbS HB hb; clear hb aG hg))
 refine (K5.calls A c l num y0 y1 y2 y3 ok _ (Kd.gN HR.out HB.out) mQ.out HQ.out).mono ?_
 rintro en w2 ⟨rfl, hb⟩
 replace BR := aI BR hb
 replace BK := aI BK hb
 replace HB := hbS HB hb
 clear hb
 cases ok with
 | false =>
  go_wp2_with (first | ((with_reducible refine cK (N := 10) rfl ?_); refine dB (N := 10) (cs := #[.int .i64 0, .int .i64 0, .int .u64 0, .string ⟨#[]⟩]) (t := 95) ?_; intro gf hg w3 aG hb; have BF := aA aG; have GF := bB HB hg; have NF := cO BK hg; have OU := cO BR hg; have OT := dD BK hg; have OH := dD BR hg; replace BK := aI BK hb; replace BR := aI BR hb; replace HB := hbS HB hb; clear hb aG hg; obtain ⟨hc0, hc1, hc2, hc3⟩ := aN BF; have hf0 := fz BF 0; have hf1 := fz BF 1; have hf2 := fz BF 2; have hf3 := fz BF 3; obtain ⟨hr0, hr1, hr2, hr3⟩ := aN BR; have hs0 := fz BR 0; have hs1 := fz BR 1; have hs2 := fz BR 2; have hs3 := fz BR 3; have hce := iA BK; have hfe := fz BK 0; have n1 := NF.out; have n2 := OT.out; have n3 := OU.out; have n4 := OH.out; have n5 := NR.out))
  refine bodyPost_ret (eP rfl _ _ gr 95 #[.int .i64 y0, .int .i64 y1, .int .u64 y2, .string y3] (0, 0) _ rfl (aU BR) Tryz.underlying95 rfl (by kernel_rfl)) rfl ?_
  exact ⟨rfl, But.of_below (dR (dR HB.out GF.out) GR.out), aU BK⟩
 | true =>
  by_cases hk : y1 = kind
  · have b1 : (y1 != kind) = false := bne_eq_false_iff_eq.2 hk
    have E := aC.mk (show kT true y1 kind e = e from by unfold kT; rw [ip rfl, ip hk])
    clear hk
    go_wp2_with (first | ((with_reducible refine cK (N := 10) rfl ?_); refine dB (N := 10) (cs := #[.int .i64 0, .int .i64 0, .int .u64 0, .string ⟨#[]⟩]) (t := 95) ?_; intro gf hg w3 aG hb; have BF := aA aG; have GF := bB HB hg; have NF := cO BK hg; have OU := cO BR hg; have OT := dD BK hg; have OH := dD BR hg; replace BK := aI BK hb; replace BR := aI BR hb; replace HB := hbS HB hb; clear hb aG hg; obtain ⟨hc0, hc1, hc2, hc3⟩ := aN BF; have hf0 := fz BF 0; have hf1 := fz BF 1; have hf2 := fz BF 2; have hf3 := fz BF 3; obtain ⟨hr0, hr1, hr2, hr3⟩ := aN BR; have hs0 := fz BR 0; have hs1 := fz BR 1; have hs2 := fz BR 2; have hs3 := fz BR 3; have hce := iA BK; have hfe := fz BK 0; have n1 := NF.out; have n2 := OT.out; have n3 := OU.out; have n4 := OH.out; have n5 := NR.out))
    refine bodyPost_ret (eP rfl _ _ gr 95 #[.int .i64 y0, .int .i64 y1, .int .u64 y2, .string y3] (0, 0) _ rfl (aU BR) Tryz.underlying95 rfl (by kernel_rfl)) rfl ?_
    refine ⟨rfl, But.of_below (dR (dR HB.out GF.out) GR.out), ?_⟩
    rw [E.out]
    exact aU BK
  · have b1 : (y1 != kind) = true := bne_iff_ne.2 hk
    by_cases h0 : e = 0
    · subst h0
      have E := aC.mk (show kT true y1 kind 0 = 3 from by unfold kT; rw [ip rfl, iN hk, ip rfl])
      clear hk
      go_wp2_with (first | ((with_reducible refine cK (N := 10) rfl ?_); refine dB (N := 10) (cs := #[.int .i64 0, .int .i64 0, .int .u64 0, .string ⟨#[]⟩]) (t := 95) ?_; intro gf hg w3 aG hb; have BF := aA aG; have GF := bB HB hg; have NF := cO BK hg; have OU := cO BR hg; have OT := dD BK hg; have OH := dD BR hg; replace BK := aI BK hb; replace BR := aI BR hb; replace HB := hbS HB hb; clear hb aG hg; obtain ⟨hc0, hc1, hc2, hc3⟩ := aN BF; have hf0 := fz BF 0; have hf1 := fz BF 1; have hf2 := fz BF 2; have hf3 := fz BF 3; obtain ⟨hr0, hr1, hr2, hr3⟩ := aN BR; have hs0 := fz BR 0; have hs1 := fz BR 1; have hs2 := fz BR 2; have hs3 := fz BR 3; have hce := iA BK; have hfe := fz BK 0; have n1 := NF.out; have n2 := OT.out; have n3 := OU.out; have n4 := OH.out; have n5 := NR.out))
      refine bodyPost_ret (eP rfl _ _ gr 95 #[.int .i64 y0, .int .i64 y1, .int .u64 y2, .string y3] (0, 0) _ rfl (aU BR) Tryz.underlying95 rfl (by kernel_rfl)) rfl ?_
      refine ⟨rfl, But.aFb ((But.of_below (dR HB.out GF.out)).set _ _) GR.out, ?_⟩
      rw [E.out]
      exact aU BK
    · have b2 : (e == 0) = false := beq_eq_false_iff_ne.2 h0
      have E := aC.mk (show kT true y1 kind e = e from by unfold kT; rw [ip rfl, iN hk, iN h0])
      clear hk h0
      go_wp2_with (first | ((with_reducible refine cK (N := 10) rfl ?_); refine dB (N := 10) (cs := #[.int .i64 0, .int .i64 0, .int .u64 0, .string ⟨#[]⟩]) (t := 95) ?_; intro gf hg w3 aG hb; have BF := aA aG; have GF := bB HB hg; have NF := cO BK hg; have OU := cO BR hg; have OT := dD BK hg; have OH := dD BR hg; replace BK := aI BK hb; replace BR := aI BR hb; replace HB := hbS HB hb; clear hb aG hg; obtain ⟨hc0, hc1, hc2, hc3⟩ := aN BF; have hf0 := fz BF 0; have hf1 := fz BF 1; have hf2 := fz BF 2; have hf3 := fz BF 3; obtain ⟨hr0, hr1, hr2, hr3⟩ := aN BR; have hs0 := fz BR 0; have hs1 := fz BR 1; have hs2 := fz BR 2; have hs3 := fz BR 3; have hce := iA BK; have hfe := fz BK 0; have n1 := NF.out; have n2 := OT.out; have n3 := OU.out; have n4 := OH.out; have n5 := NR.out))
      refine bodyPost_ret (eP rfl _ _ gr 95 #[.int .i64 y0, .int .i64 y1, .int .u64 y2, .string y3] (0, 0) _ rfl (aU BR) Tryz.underlying95 rfl (by kernel_rfl)) rfl ?_
      refine ⟨rfl, But.of_below (dR (dR HB.out GF.out) GR.out), ?_⟩
      rw [E.out]
      exact aU BK
def rG (e f : Int) : Int := if e = 0 then f else e
theorem PR (A : Option Addr) (c : Nat) (l : List dK) (num : Int) (gl g : Nat) (e f : Int) (xs : List Int) (w : World) (hr : Kd.C lN w A l.length l) (hc : l.length ≤ c) (hl : l.length ≤ 3518437208883) (hs : ∀ x ∈ l, x.f3.size ≤ 140737488351232)
 (hgl : w.heap[gl]? = some (.cells #[.slice A l.length c] 96 (0, 0))) (hb : w.heap[g]? = some (.cells #[.int .i64 e] 34 (0, 0))) (hx : mF ((l.filter fun x => x.f0 == num).map mD) [] = (xs, f.toNat)) (hf : 0 ≤ f) :
 Calls Tryz.prog 53 #[.int .i64 num, .pointer (some ⟨gl, 0, none⟩), .pointer (some ⟨g, 0, none⟩)] w fun en w' => ∃ A' c', en = .returned (.slice A' xs.length c') ∧ Kd.R (Kd.int .i64) 2 w' w.heap.size (fun _ => True) (.slice A' xs.length c') xs ∧ But g w w' ∧ w'.heap[g]? = some (.cells #[.int .i64 (rG e f)] 34 (0, 0)) := by
 have HQ := aC.mk (show wV.f l num = some (xs, f) from (ip ⟨hl, hs⟩).trans (by rw [hx]; dsimp only; rw [Int.toNat_of_nonneg hf]))
 have HR := aC.mk hr
 have mQ := aC.mk hc
 have BL := aC.mk hgl
 have BK := aC.mk hb
 have HB := aC.mk (Below.refl w.heap.size w)
 have hlc := iA BL
 have Rh := iA BK
 have HG := aC.mk hb
 clear hr hc hb hx hl hgl hs hf
 go_enter Tryz.func53, Tryz.ntmps53
 go_wp2_with (first | fail)
 refine (wV.calls A c l num xs f _ HR.out mQ.out HQ.out).mono ?_
 rintro en w2 ⟨v, rfl, hx, hb⟩
 obtain ⟨A', c', rfl⟩ := Kd.jF hx
 have HX := aC.mk hx
 replace BK := aI BK hb
 replace HB := hbS HB hb
 clear hb hx hlc Rh BL
 have Rh := iA BK
 have hfe := fz BK 0
 by_cases h0 : e = 0
 · subst h0
   have E := aC.mk (show rG 0 f = f from ip rfl)
   go_wp2_with (first | fail)
   go_ret
   have hlt := jB HG.out
   refine ⟨A', c', rfl, Kd.eO (Kd.dE (p := ⟨g, 0, none⟩) (Kd.nU HX.out) (fun k hk e => by have := hk.2.1; simp only at e; omega) _) (fun _ _ => trivial), (But.of_below HB.out).set _ _, ?_⟩
   rw [E.out]
   exact aU BK
 · have b2 : (e == 0) = false := beq_eq_false_iff_ne.2 h0
   have E := aC.mk (show rG e f = e from iN h0)
   clear h0
   go_wp2_with (first | fail)
   go_ret
   refine ⟨A', c', rfl, HX.out, But.of_below HB.out, ?_⟩
   rw [E.out]
   exact BK.out
theorem BB {g : Nat} {w w1 w2 : World} (h : aC (Below w.heap.size w w1)) (hB : But g w1 w2) (hg : aC (w.heap.size ≤ g)) : aC (Below w.heap.size w w2) :=
 ⟨⟨hB.os.trans h.out.os, hB.tape.trans h.out.tape, hB.output.trans h.out.output, Nat.le_trans h.out.size hB.size, fun i hi => (hB.block i (Nat.lt_of_lt_of_le hi h.out.size) (fun e => Nat.not_le.2 hi (e ▸ hg.out))).trans (h.out.block i hi)⟩⟩
theorem kS {g j : Nat} {w W : World} {o : Obj} (h : aC (w.heap[j]? = some o)) (hB : But g w W) (hn : aC (j ≠ g)) : aC (W.heap[j]? = some o) := ⟨hB.keep h.out hn.out⟩
theorem RA {α : Type} {d : Kd α} {e base g B : Nat} {w W : World} {v : Value} {xs : List α} (h : aC (d.R e w base (fun k => B ≤ k) v xs)) (hB : But g w W) (hn : aC (g < B)) : aC (d.R e W base (fun k => B ≤ k) v xs) :=
 ⟨Kd.UA h.out (fun k hk hlt => hB.block k hlt (by have := hn.out; omega))⟩
structure uQ where
 name : ByteArray
 kind : Int
 bE : List Int
 data : ByteArray
 few : List Int
 many : List Int
 raw : Bool
 ext : List ByteArray
 wh : Int
 els : Int
def mY : uQ := ⟨⟨#[]⟩, 0, [], ⟨#[]⟩, [], [], false, [], 0, 0⟩
def xC (k2 : Int) (n3 d3 : ByteArray) (dO : Bool) (o2 : Int) (x1 x5 x7 : List Int) (ts : List ByteArray) (kd : Int) : uQ × Int :=
 if 1 < o2 then (mY, 19) else if tK n3 = false then (mY, 8) else if gF kd = 0 then (mY, 5) else
 (⟨n3, kd, x1, d3, x5, x7, dO, ts, o2, (kE x1).1⟩, (kE x1).2)
def DY (k2 : Int) (n3 d3 : ByteArray) (dO : Bool) (o2 : Int) (x1 x5 x7 : List Int) (t : List ByteArray × Nat) (f : Int) : uQ × Int :=
 if f ≠ 0 then (mY, f) else if t.2 ≠ 0 then (mY, (t.2 : Int)) else xC k2 n3 d3 dO o2 x1 x5 x7 t.1 (if k2 ≤ 1048576 then wrap64 k2 else 0)
def jl (k2 : Int) (n3 d3 : ByteArray) (dO : Bool) (o2 : Int) (x1 x5 x7 : List Int × Nat) (t : List ByteArray × Nat) : uQ × Int :=
 DY k2 n3 d3 dO o2 x1.1 x5.1 x7.1 t (rG (rG (x1.2 : Int) (x5.2 : Int)) (x7.2 : Int))
def P9 (L : List dK) (k2 : Int) (n3 d3 : ByteArray) (dO : Bool) (o2 : Int) (e : Int) : uQ × Int :=
 if e ≠ 0 then (mY, e) else jl k2 n3 d3 dO o2 (mF ((L.filter fun x => x.f0 == 1).map mD) []) (mF ((L.filter fun x => x.f0 == 5).map mD) []) (mF ((L.filter fun x => x.f0 == 7).map mD) []) (vR ((L.filter fun x => x.f0 == 13).map mD) [])
def YU (L : List dK) (k n d o : Int × Int × Int × ByteArray × Bool) : uQ × Int :=
 P9 L k.2.2.1 n.2.2.2.1 d.2.2.2.1 d.2.2.2.2 o.2.2.1 (kT o.2.2.2.2 o.2.1 0 (kT d.2.2.2.2 d.2.1 2 (kT n.2.2.2.2 n.2.1 2 (kT k.2.2.2.2 k.2.1 0 0))))
def jM (b : ByteArray) : uQ × Int :=
 if (eX b).2 ≠ 0 then (mY, ((eX b).2 : Int)) else
 YU ((eX b).1.map toP) (pM ((((eX b).1.map toP).filter fun x => x.f0 == 2).getLast?)) (pM ((((eX b).1.map toP).filter fun x => x.f0 == 8).getLast?)) (pM ((((eX b).1.map toP).filter fun x => x.f0 == 9).getLast?)) (pM ((((eX b).1.map toP).filter fun x => x.f0 == 14).getLast?))
def Eb (w : World) (R : uQ × Int) (en : Ending) (w' : World) : Prop := ∃ A1 c1 A2 c2 A3 c3 A4 c4, en = .returned (.tuple #[.agg #[.string R.1.name, .int .i64 R.1.kind, .slice A1 R.1.bE.length c1, .string R.1.data, .slice A2 R.1.few.length c2, .slice A3 R.1.many.length c3, .bool R.1.raw, .slice A4 R.1.ext.length c4, .int .u64 R.1.wh, .int .i64 R.1.els], .int .i64 R.2])
 ∧ Kd.R (Kd.int .i64) 2 w' w.heap.size (fun _ => True) (.slice A1 R.1.bE.length c1) R.1.bE
 ∧ Kd.R (Kd.int .i64) 2 w' w.heap.size (fun _ => True) (.slice A2 R.1.few.length c2) R.1.few
 ∧ Kd.R (Kd.int .i64) 2 w' w.heap.size (fun _ => True) (.slice A3 R.1.many.length c3) R.1.many
 ∧ Kd.R Kd.string 9 w' w.heap.size (fun _ => True) (.slice A4 R.1.ext.length c4) R.1.ext
 ∧ Below w.heap.size w w'
theorem DU {w w' : World} {R : uQ × Int} {e : Int} (h : R = (mY, e)) (hb : Below w.heap.size w w') : Eb w R (.returned (.tuple #[.agg #[.string ⟨#[]⟩, .int .i64 0, .slice none 0 0, .string ⟨#[]⟩, .slice none 0 0, .slice none 0 0, .bool false, .slice none 0 0, .int .u64 0, .int .i64 0], .int .i64 e])) w' := by
 subst h
 exact ⟨none, 0, none, 0, none, 0, none, 0, rfl, Kd.AZ _ _ _ _ _, Kd.AZ _ _ _ _ _, Kd.AZ _ _ _ _ _, Kd.AZ _ _ _ _ _, hb⟩
theorem vK {w W : World} {g : Nat} {v0 v1 v2 v3 v4 v5 v6 v7 v8 v9 : Value} (h : Below w.heap.size w W) (hg : w.heap.size ≤ g) : Below w.heap.size w ((((((((((W.setCell ⟨g, 0, none⟩ v0).setCell ⟨g, 1, none⟩ v1).setCell ⟨g, 2, none⟩ v2).setCell ⟨g, 3, none⟩ v3).setCell ⟨g, 4, none⟩ v4).setCell ⟨g, 5, none⟩ v5).setCell ⟨g, 6, none⟩ v6).setCell ⟨g, 7, none⟩ v7).setCell ⟨g, 8, none⟩ v8).setCell ⟨g, 9, none⟩ v9) :=
 fD (fD (fD (fD (fD (fD (fD (fD (fD (fD h hg) hg) hg) hg) hg) hg) hg) hg) hg) hg
theorem Zc {l : List dK} {num y0 y1 y2 : Int} {y3 : ByteArray} {ok : Bool} (h : pM ((l.filter fun x => x.f0 == num).getLast?) = (y0, y1, y2, y3, ok)) (hs : ∀ x ∈ l, x.f3.size ≤ 140737488351232) : y3.size ≤ 140737488351232 := by
 cases hg : (l.filter fun x => x.f0 == num).getLast? with
 | none =>
  rw [hg] at h
  simp only [pM, Prod.mk.injEq] at h
  rw [← h.2.2.2.1]; exact Nat.zero_le _
 | some z =>
  rw [hg] at h
  simp only [pM, Prod.mk.injEq] at h
  rw [← h.2.2.2.1]
  exact hs z ((List.mem_filter.1 (List.mem_of_getLast? hg)).1)
theorem JX {α : Type} {d : Kd α} {e base g g' i j B : Nat} {w : World} {v a b : Value} {xs : List α} (h : d.R e w base (fun k => B ≤ k) v xs) (hn : g < B) (hn' : g' < B) : d.R e ((w.setCell ⟨g, i, none⟩ a).setCell ⟨g', j, none⟩ b) base (fun k => B ≤ k) v xs :=
 Kd.dE (p := ⟨g', j, none⟩) (Kd.dE (p := ⟨g, i, none⟩) h (fun k hk => Nat.ne_of_gt (Nat.lt_of_lt_of_le hn hk)) _) (fun k hk => Nat.ne_of_gt (Nat.lt_of_lt_of_le hn' hk)) _
theorem L6 {α : Type} {d : Kd α} {e base g g' i j B : Nat} {w : World} {v a b : Value} {xs : List α} (h : d.R e w base (fun k => B ≤ k) v xs) (hn : g < B) (hn' : g' < B) (nd : Nat) : d.R e (((w.setCell ⟨g, i, none⟩ a).setCell ⟨g', j, none⟩ b).drewN nd) base (fun k => B ≤ k) v xs :=
 Kd.kD (JX h hn hn') nd
theorem ME {α : Type} {d : Kd α} {e base g B B0 : Nat} {W : World} {v v0 v1 v2 v3 v4 v5 v6 v7 v8 v9 : Value} {xs : List α} (h : d.R e W base (fun k => B ≤ k) v xs) (hn : g < B) (hb : B0 ≤ base) : d.R e ((((((((((W.setCell ⟨g, 0, none⟩ v0).setCell ⟨g, 1, none⟩ v1).setCell ⟨g, 2, none⟩ v2).setCell ⟨g, 3, none⟩ v3).setCell ⟨g, 4, none⟩ v4).setCell ⟨g, 5, none⟩ v5).setCell ⟨g, 6, none⟩ v6).setCell ⟨g, 7, none⟩ v7).setCell ⟨g, 8, none⟩ v8).setCell ⟨g, 9, none⟩ v9).drew B0 (fun _ => True) v xs := by
 have hf : ∀ (i : Nat), ∀ k, B ≤ k → k ≠ (⟨g, i, none⟩ : Addr).block := fun i k hk => Nat.ne_of_gt (Nat.lt_of_lt_of_le hn hk)
 exact Kd.eO (Kd.nV (Kd.jX (Kd.dE (Kd.dE (Kd.dE (Kd.dE (Kd.dE (Kd.dE (Kd.dE (Kd.dE (Kd.dE (Kd.dE h (hf 0) _) (hf 1) _) (hf 2) _) (hf 3) _) (hf 4) _) (hf 5) _) (hf 6) _) (hf 7) _) (hf 8) _) (hf 9) _)) hb) (fun _ _ => trivial)
theorem Mj {w : World} {g t : Nat} {a0 a1 a2 a3 a4 a5 a6 a7 a8 a9 v0 v1 v2 v3 v4 v5 v6 v7 v8 v9 : Value} (h : w.heap[g]? = some (.cells #[a0, a1, a2, a3, a4, a5, a6, a7, a8, a9] t (0, 0))) :
 ((((((((((w.setCell ⟨g, 0, none⟩ v0).setCell ⟨g, 1, none⟩ v1).setCell ⟨g, 2, none⟩ v2).setCell ⟨g, 3, none⟩ v3).setCell ⟨g, 4, none⟩ v4).setCell ⟨g, 5, none⟩ v5).setCell ⟨g, 6, none⟩ v6).setCell ⟨g, 7, none⟩ v7).setCell ⟨g, 8, none⟩ v8).setCell ⟨g, 9, none⟩ v9).drew.heap[g]? = some (.cells #[v0, v1, v2, v3, v4, v5, v6, v7, v8, v9] t (0, 0)) := by
 have h2 := kU (jT (jT (jT (jT (jT (jT (jT (jT (jT (jT h 0 v0) 1 v1) 2 v2) 3 v3) 4 v4) 5 v5) 6 v6) 7 v7) 8 v8) 9 v9)
 simp only [List.setIfInBounds_toArray, List.set_cons_zero, List.set_cons_succ] at h2
 exact h2
theorem D7 {α : Type} {d : Kd α} {e base g B : Nat} {w : World} {v a b c : Value} {xs : List α} (h : d.R e w base (fun k => B ≤ k) v xs) (hn : g < B) : d.R e (((w.setCell ⟨g, 2, none⟩ a).setCell ⟨g, 4, none⟩ b).setCell ⟨g, 5, none⟩ c) base (fun k => B ≤ k) v xs :=
 Kd.dE (p := ⟨g, 5, none⟩) (Kd.dE (p := ⟨g, 4, none⟩) (Kd.dE (p := ⟨g, 2, none⟩) h (fun k hk => Nat.ne_of_gt (Nat.lt_of_lt_of_le hn hk)) _) (fun k hk => Nat.ne_of_gt (Nat.lt_of_lt_of_le hn hk)) _) (fun k hk => Nat.ne_of_gt (Nat.lt_of_lt_of_le hn hk)) _
theorem Fw {b : ByteArray} {R : uQ × Int} {L : List dK} {k0 k1 k2 n0 n1 n2 d0 d1 d2 o0 o1 o2 e1 e2 e3 e4 : Int} {k3 n3 d3 o3 : ByteArray} {ko no dO oo : Bool} (hR : jM b = R) (h0 : (eX b).2 = 0) (hL : (eX b).1.map toP = L)
 (hk : pM ((L.filter fun x => x.f0 == 2).getLast?) = (k0, k1, k2, k3, ko)) (hn : pM ((L.filter fun x => x.f0 == 8).getLast?) = (n0, n1, n2, n3, no)) (hd : pM ((L.filter fun x => x.f0 == 9).getLast?) = (d0, d1, d2, d3, dO)) (ho : pM ((L.filter fun x => x.f0 == 14).getLast?) = (o0, o1, o2, o3, oo))
 (h1 : kT ko k1 0 0 = e1) (h2 : kT no n1 2 e1 = e2) (h3 : kT dO d1 2 e2 = e3) (h4 : kT oo o1 0 e3 = e4) : R = P9 L k2 n3 d3 dO o2 e4 := by
 rw [← hR]
 unfold jM
 rw [iN (by rw [h0]; simp), hL, hk, hn, hd, ho]
 unfold YU
 rw [h1, h2, h3, h4]
theorem Yq (b : ByteArray) (w : World) (hb : b.size ≤ 140737488351232) :
 Calls Tryz.prog 21 #[.string b] w (Eb w (jM b)) := by
 have tN := Tryz.underlying59
 have lZ := Tryz.underlying33
 have EB := Tryz.underlying95
 obtain ⟨R, hR⟩ : ∃ R, jM b = R := ⟨_, rfl⟩
 have HR := aC.mk hR
 rw [hR]
 have HS := aC.mk hb
 have HB := aC.mk (Below.refl w.heap.size w)
 clear hR hb
 go_enter Tryz.func21, Tryz.ntmps21
 go_wp2_with (first | ((with_reducible refine cK (N := 2) rfl ?_); refine dB (N := 2) (cs := #[.string ⟨#[]⟩, .int .i64 0, .slice none 0 0, .string ⟨#[]⟩, .slice none 0 0, .slice none 0 0, .bool false, .slice none 0 0, .int .u64 0, .int .i64 0]) (t := 59) ?_; intro gr hg w1 aG hb; have BR := aA aG; have GR := bB HB hg; replace HB := hbS HB hb; clear hb aG hg))
 refine (wS.calls b _ _ _ (ip HS.out)).mono ?_
 rintro en w2 ⟨v, rfl, hx, hb⟩
 obtain ⟨A, c, rfl⟩ := Kd.jF hx
 have HL := aC.mk (show Kd.F lN w2 (fun k => k < w2.heap.size) A _ _ from Kd.KN (Kd.eO (Kd.nU hx) (fun k hk => hk.2.2.1)))
 have mQ := aC.mk (Kd.jA hx).2.1
 replace BR := aI BR hb
 replace HB := hbS HB hb
 clear hb hx
 have H1 := aC.mk (show ((eX b).1.map toP).length ≤ 3518437208883 from by rw [List.length_map]; exact XA b)
 have H2 := aC.mk (Vn b HS.out)
 have H0 : ∃ e0 : Nat, (eX b).2 = e0 := ⟨_, rfl⟩
 obtain ⟨e0, he0⟩ := H0
 have I7 := aC.mk he0
 rw [he0]
 obtain ⟨L, Ap⟩ : ∃ L, (eX b).1.map toP = L := ⟨_, rfl⟩
 rw [Ap] at H1 H2 HL mQ ⊢
 have CB := aC.mk Ap
 clear he0 Ap
 by_cases h0 : e0 ≠ 0
 · have b0 : ((e0 : Int) != 0) = true := bne_iff_ne.2 (by omega)
   have E := aC.mk (show R = (mY, (e0 : Int)) from by rw [← HR.out]; unfold jM; rw [ip (by rw [I7.out]; exact h0), I7.out])
   clear h0
   go_wp2_with (first | ((with_reducible refine cK (N := 4) rfl ?_); refine dB (N := 4) (cs := #[.slice none 0 0]) (t := 96) ?_; intro gl hg w3 aG hb; have BL := aA aG; have GL := bB HB hg; have NRL := cO BR hg; have NLR := dD BR hg; replace HL := aA (kZ HL.out hb); replace BR := aI BR hb; replace HB := hbS HB hb; clear hb aG hg; have hl0 := iA BL; have uW := fz BL 0) | ((with_reducible refine cK (N := 5) rfl ?_); refine dB (N := 5) (cs := #[.int .i64 0]) (t := 34) ?_; intro ge hg w4 aG hb; have BE := aA aG; have GE := bB HB hg; have sH := cO BR hg; have F6 := dD BR hg; have CG := cO BL hg; have NEL := dD BL hg; replace HL := aA (kZ HL.out hb); replace BR := aI BR hb; replace BL := aI BL hb; replace HB := hbS HB hb; clear hb aG hg hl0 uW; have hl0 := iA BL; have uW := fz BL 0; have he0 := iA BE; have KQ := fz BE 0; have n1 := CG.out; have n2 := NEL.out))
   obtain ⟨w5, DK⟩ : ∃ w5, w5 = (w4.setCell ⟨gl, 0, none⟩ (.slice A L.length c)).setCell ⟨ge, 0, none⟩ (.int .i64 (e0 : Int)) := ⟨_, rfl⟩
   rw [← DK]
   replace BR := aA (show w5.heap[gr]? = some _ from by rw [DK]; exact aU BR)
   replace BE := aA (show w5.heap[ge]? = some (.cells #[.int .i64 (e0 : Int)] 34 (0, 0)) from by rw [DK]; exact aU BE)
   replace HB := aA (show Below w.heap.size w w5 from by rw [DK]; exact fD (fD HB.out GL.out) GE.out)
   clear DK hl0 uW he0 KQ BL HL n1 n2
   have he0 := iA BE
   have KQ := fz BE 0
   have hr0 := aM BR.out 0
   have hr1 := aM BR.out 1
   have hr2 := aM BR.out 2
   have hr3 := aM BR.out 3
   have hr4 := aM BR.out 4
   have DC := aM BR.out 5
   have DD := aM BR.out 6
   have DF := aM BR.out 7
   have DI := aM BR.out 8
   have DJ := aM BR.out 9
   have fJ := fz BR 0
   have fQ := fz BR 1
   have fT := fz BR 2
   have fU := fz BR 3
   have CR := fz BR 4
   have CS := fz BR 5
   have CU := fz BR 6
   have CV := fz BR 7
   have CW := fz BR 8
   have CX := fz BR 9
   have n1 := sH.out
   have n2 := F6.out
   go_region
   go_wp2
   refine bodyPost_ret (eP rfl _ _ gr 59 #[.string ⟨#[]⟩, .int .i64 0, .slice none 0 0, .string ⟨#[]⟩, .slice none 0 0, .slice none 0 0, .bool false, .slice none 0 0, .int .u64 0, .int .i64 0] (0, 0) _ rfl (aU BR) tN rfl (by kernel_rfl)) rfl ?_
   exact DU E.out (iO (vK HB.out GR.out))
 have b0 : ((e0 : Int) != 0) = false := bne_eq_false_iff_eq.2 (by omega)
 have hz : e0 = 0 := by omega
 subst hz
 clear h0
 have hD := CB.out
 obtain ⟨k0, k1, k2, k3, ko, hk⟩ : ∃ k0 k1 k2 k3 ko, pM ((L.filter fun x => x.f0 == 2).getLast?) = (k0, k1, k2, k3, ko) := ⟨_, _, _, _, _, rfl⟩
 obtain ⟨n0, n1, n2, n3, no, hn⟩ : ∃ k0 k1 k2 k3 ko, pM ((L.filter fun x => x.f0 == 8).getLast?) = (k0, k1, k2, k3, ko) := ⟨_, _, _, _, _, rfl⟩
 obtain ⟨d0, d1, d2, d3, dO, hd⟩ : ∃ k0 k1 k2 k3 ko, pM ((L.filter fun x => x.f0 == 9).getLast?) = (k0, k1, k2, k3, ko) := ⟨_, _, _, _, _, rfl⟩
 obtain ⟨o0, o1, o2, o3, oo, ho⟩ : ∃ k0 k1 k2 k3 ko, pM ((L.filter fun x => x.f0 == 14).getLast?) = (k0, k1, k2, k3, ko) := ⟨_, _, _, _, _, rfl⟩
 have HK := aA hk
 have HN := aA hn
 have HD := aA hd
 have HO := aA ho
 clear hk hn hd ho hD
 go_wp2_with (first | ((with_reducible refine cK (N := 4) rfl ?_); refine dB (N := 4) (cs := #[.slice none 0 0]) (t := 96) ?_; intro gl hg w3 aG hb; have BL := aA aG; have GL := bB HB hg; have GL2 := aA (show w2.heap.size ≤ gl from Nat.le_of_eq hg.symm); have HS2 := aA (show w2.heap.size ≤ w3.heap.size from hb.size); have NRL := cO BR hg; have NLR := dD BR hg; replace HL := aA (kZ HL.out hb); replace BR := aI BR hb; replace HB := hbS HB hb; clear hb aG hg; have hl0 := iA BL; have uW := fz BL 0) | ((with_reducible refine cK (N := 5) rfl ?_); refine dB (N := 5) (cs := #[.int .i64 0]) (t := 34) ?_; intro ge hg w4 aG hb; have BE := aA aG; have GE := bB HB hg; have wK := aA (show w2.heap.size ≤ ge from Nat.le_trans HS2.out (Nat.le_of_eq hg.symm)); have sH := cO BR hg; have F6 := dD BR hg; have CG := cO BL hg; have NEL := dD BL hg; replace HL := aA (kZ HL.out hb); replace BR := aI BR hb; replace BL := aI BL hb; replace HB := hbS HB hb; clear hb aG hg hl0 uW; have hl0 := iA BL; have uW := fz BL 0; have he0 := iA BE; have KQ := fz BE 0; have n1 := CG.out; have n2 := NEL.out) | ((with_reducible refine cK (N := 6) rfl ?_); (obtain ⟨w5, DK⟩ : ∃ w5, w5 = (w4.setCell ⟨gl, 0, none⟩ (.slice A L.length c)).setCell ⟨ge, 0, none⟩ (.int .i64 (0 : Int)) := ⟨_, rfl⟩); (rw [← DK]); (replace BR := aA (show w5.heap[gr]? = some _ from by rw [DK]; exact aU BR)); (replace BE := aA (show w5.heap[ge]? = some (.cells #[.int .i64 (0 : Int)] 34 (0, 0)) from by rw [DK]; exact aU BE)); (replace BL := aA (show w5.heap[gl]? = some (.cells #[.slice A L.length c] 96 (0, 0)) from by rw [DK]; exact aU BL)); (replace HL := aA (show Kd.F lN w5 (fun k => k < w2.heap.size) A _ _ from by rw [DK]; exact Kd.FC (Kd.FC HL.out (p := ⟨gl, 0, none⟩) (fun k hk => Nat.ne_of_lt (Nat.lt_of_lt_of_le hk GL2.out)) _) (p := ⟨ge, 0, none⟩) (fun k hk => Nat.ne_of_lt (Nat.lt_of_lt_of_le hk wK.out)) _)); (replace HB := aA (show Below w.heap.size w w5 from by rw [DK]; exact fD (fD HB.out GL.out) GE.out)); (clear DK hl0 uW he0 KQ n1 n2); refine dB (N := 6) (cs := #[.string ⟨#[]⟩, .int .i64 0, .slice none 0 0, .string ⟨#[]⟩, .slice none 0 0, .slice none 0 0, .bool false, .slice none 0 0, .int .u64 0, .int .i64 0]) (t := 59) ?_; intro gm hg w6 aG hb; have BM := aA aG; have GM := bB HB hg; have wM := cO BR hg; have wL := dD BR hg; have Qn := cO BL hg; have Qo := dD BL hg; have RS := cO BE hg; have GEM := aA (show ge < gm from by rw [hg]; exact jB BE.out); have xM := dD BE hg; replace HL := aA (kZ HL.out hb); replace BR := aI BR hb; replace BL := aI BL hb; replace BE := aI BE hb; replace HB := hbS HB hb; clear hb aG hg; have hl0 := iA BL; have uW := fz BL 0))
 refine (PO A c L 2 0 ge 0 _ _ _ _ _ _ (Kd.mK HL.out) mQ.out H1.out BE.out HK.out).mono ?_
 rintro en WW ⟨rfl, hB, hbe⟩
 replace BR := kS BR hB sH
 replace BL := kS BL hB CG
 replace BM := kS BM hB xM
 replace HL := aA (IK HL.out hB (fun k hk => Nat.ne_of_lt (Nat.lt_of_lt_of_le hk wK.out)))
 replace HB := BB HB hB GE
 replace BE := aA hbe
 clear hB hbe
 obtain ⟨e1, he1⟩ : ∃ e1, kT ko k1 0 0 = e1 := ⟨_, rfl⟩
 rw [he1] at BE
 have yJ := aA he1
 clear he1
 go_wp2_with (first | ((with_reducible refine cK (N := 7) rfl ?_); refine dB (N := 7) (cs := #[.int .i64 0, .int .i64 0, .int .u64 0, .string ⟨#[]⟩]) (t := 95) ?_; intro gk hg Sc aG hb; have BK := aA aG; have GK := bB HB hg; have GK2 := aA (show w2.heap.size ≤ gk from Nat.le_trans wK.out (Nat.le_trans (Nat.le_of_lt (jB BE.out)) (Nat.le_of_eq hg.symm))); have RU := cO BR hg; have NLK := cO BL hg; have NEK := cO BE hg; have NMK := cO BM hg; have Qm := dD BR hg; have NKL := dD BL hg; have VW := dD BE hg; have NKM := dD BM hg; replace HL := aA (kZ HL.out hb); replace BR := aI BR hb; replace BL := aI BL hb; replace BE := aI BE hb; replace BM := aI BM hb; replace HB := hbS HB hb; clear hb aG hg; obtain ⟨hc0, hc1, hc2, hc3⟩ := aN BK; have hf0 := fz BK 0; have hf1 := fz BK 1; have hf2 := fz BK 2; have hf3 := fz BK 3; have hl0 := iA BL; have uW := fz BL 0; have m1 := NLK.out; have m2 := NKL.out))
 obtain ⟨Bo, hw⟩ : ∃ wb, wb = (((Sc.setCell ⟨gk, 0, none⟩ (.int .i64 k0)).setCell ⟨gk, 1, none⟩ (.int .i64 k1)).setCell ⟨gk, 2, none⟩ (.int .u64 k2)).setCell ⟨gk, 3, none⟩ (.string k3) := ⟨_, rfl⟩
 rw [← hw]
 replace BR := jG BR hw
 replace BL := jG BL hw
 replace BE := jG BE hw
 replace BM := jG BM hw
 replace BK := aA (show Bo.heap[gk]? = some (.cells #[.int .i64 k0, .int .i64 k1, .int .u64 k2, .string k3] 95 (0, 0)) from by rw [hw]; exact aU BK)
 replace HL := GA HL hw
 replace HB := wP HB hw
 clear hw hc0 hc1 hc2 hc3 hf0 hf1 hf2 hf3 hl0 uW m1 m2
 refine (PO A c L 8 2 ge e1 _ _ _ _ _ _ (Kd.mK HL.out) mQ.out H1.out BE.out HN.out).mono ?_
 rintro en R8 ⟨rfl, hB, hbe⟩
 replace BR := kS BR hB sH
 replace BL := kS BL hB CG
 replace BM := kS BM hB xM
 replace BK := kS BK hB VW
 replace HL := aA (IK HL.out hB (fun k hk => Nat.ne_of_lt (Nat.lt_of_lt_of_le hk wK.out)))
 replace HB := BB HB hB GE
 replace BE := aA hbe
 clear hB hbe
 obtain ⟨e2, he2⟩ : ∃ e2, kT no n1 2 e1 = e2 := ⟨_, rfl⟩
 rw [he2] at BE
 have HE2 := aA he2
 clear he2
 go_wp2_with (first | ((with_reducible refine cK (N := 9) rfl ?_); refine dB (N := 9) (cs := #[.int .i64 0, .int .i64 0, .int .u64 0, .string ⟨#[]⟩]) (t := 95) ?_; intro gn hg Sd aG hb; have BN := aA aG; have GN := bB HB hg; have GN2 := aA (show w2.heap.size ≤ gn from Nat.le_trans wK.out (Nat.le_trans (Nat.le_of_lt (jB BE.out)) (Nat.le_of_eq hg.symm))); have NRN := cO BR hg; have NLN := cO BL hg; have NEN := cO BE hg; have NMN := cO BM hg; have NKN := cO BK hg; have NNR := dD BR hg; have NNL := dD BL hg; have Qq := dD BE hg; have NNM := dD BM hg; have NNK := dD BK hg; replace HL := aA (kZ HL.out hb); replace BR := aI BR hb; replace BL := aI BL hb; replace BE := aI BE hb; replace BM := aI BM hb; replace BK := aI BK hb; replace HB := hbS HB hb; clear hb aG hg; obtain ⟨hc0, hc1, hc2, hc3⟩ := aN BN; have hf0 := fz BN 0; have hf1 := fz BN 1; have hf2 := fz BN 2; have hf3 := fz BN 3; have hl0 := iA BL; have uW := fz BL 0; have m1 := NLN.out; have m2 := NNL.out))
 obtain ⟨Br, hw⟩ : ∃ wb, wb = (((Sd.setCell ⟨gn, 0, none⟩ (.int .i64 n0)).setCell ⟨gn, 1, none⟩ (.int .i64 n1)).setCell ⟨gn, 2, none⟩ (.int .u64 n2)).setCell ⟨gn, 3, none⟩ (.string n3) := ⟨_, rfl⟩
 rw [← hw]
 replace BR := jG BR hw
 replace BL := jG BL hw
 replace BE := jG BE hw
 replace BM := jG BM hw
 replace BK := jG BK hw
 replace BN := aA (show Br.heap[gn]? = some (.cells #[.int .i64 n0, .int .i64 n1, .int .u64 n2, .string n3] 95 (0, 0)) from by rw [hw]; exact aU BN)
 replace HL := GA HL hw
 replace HB := wP HB hw
 clear hw hc0 hc1 hc2 hc3 hf0 hf1 hf2 hf3 hl0 uW m1 m2
 refine (PO A c L 9 2 ge e2 _ _ _ _ _ _ (Kd.mK HL.out) mQ.out H1.out BE.out HD.out).mono ?_
 rintro en O7 ⟨rfl, hB, hbe⟩
 replace BR := kS BR hB sH
 replace BL := kS BL hB CG
 replace BM := kS BM hB xM
 replace BK := kS BK hB VW
 replace BN := kS BN hB Qq
 replace HL := aA (IK HL.out hB (fun k hk => Nat.ne_of_lt (Nat.lt_of_lt_of_le hk wK.out)))
 replace HB := BB HB hB GE
 replace BE := aA hbe
 clear hB hbe
 obtain ⟨e3, Au⟩ : ∃ e3, kT dO d1 2 e2 = e3 := ⟨_, rfl⟩
 rw [Au] at BE
 have EE := aA Au
 clear Au
 go_wp2_with (first | ((with_reducible refine cK (N := 11) rfl ?_); refine dB (N := 11) (cs := #[.int .i64 0, .int .i64 0, .int .u64 0, .string ⟨#[]⟩]) (t := 95) ?_; intro gd hg Sg aG hb; have BD := aA aG; have GD := bB HB hg; have GD2 := aA (show w2.heap.size ≤ gd from Nat.le_trans wK.out (Nat.le_trans (Nat.le_of_lt (jB BE.out)) (Nat.le_of_eq hg.symm))); have NRD := cO BR hg; have NLD := cO BL hg; have NED := cO BE hg; have NMD := cO BM hg; have NKD := cO BK hg; have NND := cO BN hg; have NDR := dD BR hg; have NDL := dD BL hg; have NDE := dD BE hg; have NDM := dD BM hg; have NDK := dD BK hg; have NDN := dD BN hg; replace HL := aA (kZ HL.out hb); replace BR := aI BR hb; replace BL := aI BL hb; replace BE := aI BE hb; replace BM := aI BM hb; replace BK := aI BK hb; replace BN := aI BN hb; replace HB := hbS HB hb; clear hb aG hg; obtain ⟨hc0, hc1, hc2, hc3⟩ := aN BD; have hf0 := fz BD 0; have hf1 := fz BD 1; have hf2 := fz BD 2; have hf3 := fz BD 3; have hl0 := iA BL; have uW := fz BL 0; have m1 := NLD.out; have m2 := NDL.out))
 obtain ⟨Bt, hw⟩ : ∃ wb, wb = (((Sg.setCell ⟨gd, 0, none⟩ (.int .i64 d0)).setCell ⟨gd, 1, none⟩ (.int .i64 d1)).setCell ⟨gd, 2, none⟩ (.int .u64 d2)).setCell ⟨gd, 3, none⟩ (.string d3) := ⟨_, rfl⟩
 rw [← hw]
 replace BR := jG BR hw
 replace BL := jG BL hw
 replace BE := jG BE hw
 replace BM := jG BM hw
 replace BK := jG BK hw
 replace BN := jG BN hw
 replace BD := aA (show Bt.heap[gd]? = some (.cells #[.int .i64 d0, .int .i64 d1, .int .u64 d2, .string d3] 95 (0, 0)) from by rw [hw]; exact aU BD)
 replace HL := GA HL hw
 replace HB := wP HB hw
 clear hw hc0 hc1 hc2 hc3 hf0 hf1 hf2 hf3 hl0 uW m1 m2
 refine (PO A c L 14 0 ge e3 _ _ _ _ _ _ (Kd.mK HL.out) mQ.out H1.out BE.out HO.out).mono ?_
 rintro en M9 ⟨rfl, hB, hbe⟩
 replace BR := kS BR hB sH
 replace BL := kS BL hB CG
 replace BM := kS BM hB xM
 replace BK := kS BK hB VW
 replace BN := kS BN hB Qq
 replace BD := kS BD hB NDE
 replace HL := aA (IK HL.out hB (fun k hk => Nat.ne_of_lt (Nat.lt_of_lt_of_le hk wK.out)))
 replace HB := BB HB hB GE
 replace BE := aA hbe
 clear hB hbe
 obtain ⟨e4, Av⟩ : ∃ e4, kT oo o1 0 e3 = e4 := ⟨_, rfl⟩
 rw [Av] at BE
 have yc := aA Av
 clear Av
 by_cases h4 : e4 ≠ 0
 · have b4 : (e4 != 0) = true := bne_iff_ne.2 h4
   have E := aC.mk (show R = (mY, e4) from (Fw HR.out I7.out CB.out HK.out HN.out HD.out HO.out yJ.out HE2.out EE.out yc.out).trans (ip h4))
   clear h4
   go_wp2_with (first | ((with_reducible refine cK (N := 13) rfl ?_); refine dB (N := 13) (cs := #[.int .i64 0, .int .i64 0, .int .u64 0, .string ⟨#[]⟩]) (t := 95) ?_; intro C9 hg _w aG hb; have BO := aA aG; have GO := bB HB hg; have GO2 := aA (show w2.heap.size ≤ C9 from Nat.le_trans wK.out (Nat.le_trans (Nat.le_of_lt (jB BE.out)) (Nat.le_of_eq hg.symm))); have N_ := cO BR hg; have zf := cO BL hg; have zb := cO BE hg; have Qp := cO BM hg; have ze := cO BK hg; have zg := cO BN hg; have za := cO BD hg; have NOR := dD BR hg; have zl := dD BL hg; have zi := dD BE hg; have Qr := dD BM hg; have zk := dD BK hg; have zm := dD BN hg; have zh := dD BD hg; replace HL := aA (kZ HL.out hb); replace BR := aI BR hb; replace BL := aI BL hb; replace BE := aI BE hb; replace BM := aI BM hb; replace BK := aI BK hb; replace BN := aI BN hb; replace BD := aI BD hb; replace HB := hbS HB hb; clear hb aG hg; obtain ⟨hc0, hc1, hc2, hc3⟩ := aN BO; have hf0 := fz BO 0; have hf1 := fz BO 1; have hf2 := fz BO 2; have hf3 := fz BO 3; have hl0 := iA BL; have uW := fz BL 0; have m1 := zf.out; have m2 := zl.out; have oD := iA BE; have m3 := zb.out; have m4 := zi.out))
   obtain ⟨O6, hw⟩ : ∃ wb, wb = (((_w.setCell ⟨C9, 0, none⟩ (.int .i64 o0)).setCell ⟨C9, 1, none⟩ (.int .i64 o1)).setCell ⟨C9, 2, none⟩ (.int .u64 o2)).setCell ⟨C9, 3, none⟩ (.string o3) := ⟨_, rfl⟩
   rw [← hw]
   replace BR := jG BR hw
   replace BL := jG BL hw
   replace BE := jG BE hw
   replace BM := jG BM hw
   replace BK := jG BK hw
   replace BN := jG BN hw
   replace BD := jG BD hw
   replace BO := aA (show O6.heap[C9]? = some (.cells #[.int .i64 o0, .int .i64 o1, .int .u64 o2, .string o3] 95 (0, 0)) from by rw [hw]; exact aU BO)
   replace HL := GA HL hw
   replace HB := wP HB hw
   clear hw hc0 hc1 hc2 hc3 hf0 hf1 hf2 hf3 hl0 uW m1 m2 oD m3 m4
   have he0 := iA BE
   have KQ := fz BE 0
   have hr0 := aM BR.out 0
   have hr1 := aM BR.out 1
   have hr2 := aM BR.out 2
   have hr3 := aM BR.out 3
   have hr4 := aM BR.out 4
   have DC := aM BR.out 5
   have DD := aM BR.out 6
   have DF := aM BR.out 7
   have DI := aM BR.out 8
   have DJ := aM BR.out 9
   have fJ := fz BR 0
   have fQ := fz BR 1
   have fT := fz BR 2
   have fU := fz BR 3
   have CR := fz BR 4
   have CS := fz BR 5
   have CU := fz BR 6
   have CV := fz BR 7
   have CW := fz BR 8
   have CX := fz BR 9
   have n1 := sH.out
   have n2 := F6.out
   go_region
   go_wp2
   refine bodyPost_ret (eP rfl _ _ gr 59 #[.string ⟨#[]⟩, .int .i64 0, .slice none 0 0, .string ⟨#[]⟩, .slice none 0 0, .slice none 0 0, .bool false, .slice none 0 0, .int .u64 0, .int .i64 0] (0, 0) _ rfl (aU BR) tN rfl (by kernel_rfl)) rfl ?_
   exact DU E.out (iO (vK HB.out GR.out))
 have b4 : (e4 != 0) = false := bne_eq_false_iff_eq.2 (by omega)
 have hz : e4 = 0 := by omega
 subst hz
 have HV := aC.mk (show R = _ from (Fw HR.out I7.out CB.out HK.out HN.out HD.out HO.out yJ.out HE2.out EE.out yc.out).trans (iN (by simp)))
 have KJ := aC.mk (Zc HN.out H2.out)
 clear h4 HR I7 CB HK HN HD HO yJ HE2 EE yc
 go_wp2_with (first | ((with_reducible refine cK (N := 13) rfl ?_); refine dB (N := 13) (cs := #[.int .i64 0, .int .i64 0, .int .u64 0, .string ⟨#[]⟩]) (t := 95) ?_; intro C9 hg _w aG hb; have BO := aA aG; have GO := bB HB hg; have GO2 := aA (show w2.heap.size ≤ C9 from Nat.le_trans wK.out (Nat.le_trans (Nat.le_of_lt (jB BE.out)) (Nat.le_of_eq hg.symm))); have N_ := cO BR hg; have zf := cO BL hg; have zb := cO BE hg; have Qp := cO BM hg; have ze := cO BK hg; have zg := cO BN hg; have za := cO BD hg; have NOR := dD BR hg; have zl := dD BL hg; have zi := dD BE hg; have Qr := dD BM hg; have zk := dD BK hg; have zm := dD BN hg; have zh := dD BD hg; replace HL := aA (kZ HL.out hb); replace BR := aI BR hb; replace BL := aI BL hb; replace BE := aI BE hb; replace BM := aI BM hb; replace BK := aI BK hb; replace BN := aI BN hb; replace BD := aI BD hb; replace HB := hbS HB hb; clear hb aG hg; obtain ⟨hc0, hc1, hc2, hc3⟩ := aN BO; have hf0 := fz BO 0; have hf1 := fz BO 1; have hf2 := fz BO 2; have hf3 := fz BO 3; have hl0 := iA BL; have uW := fz BL 0; have m1 := zf.out; have m2 := zl.out; have oD := iA BE; have m3 := zb.out; have m4 := zi.out))
 obtain ⟨O6, hw⟩ : ∃ wb, wb = (((_w.setCell ⟨C9, 0, none⟩ (.int .i64 o0)).setCell ⟨C9, 1, none⟩ (.int .i64 o1)).setCell ⟨C9, 2, none⟩ (.int .u64 o2)).setCell ⟨C9, 3, none⟩ (.string o3) := ⟨_, rfl⟩
 rw [← hw]
 replace BR := jG BR hw
 replace BL := jG BL hw
 replace BE := jG BE hw
 replace BM := jG BM hw
 replace BK := jG BK hw
 replace BN := jG BN hw
 replace BD := jG BD hw
 replace BO := aA (show O6.heap[C9]? = some (.cells #[.int .i64 o0, .int .i64 o1, .int .u64 o2, .string o3] 95 (0, 0)) from by rw [hw]; exact aU BO)
 replace HL := GA HL hw
 replace HB := wP HB hw
 clear hw hc0 hc1 hc2 hc3 hf0 hf1 hf2 hf3 hl0 uW m1 m2 oD m3 m4
 have KT := aM BN.out 3
 have hd3 := aM BD.out 3
 have ho2 := aM BO.out 2
 have hm0 := aM BM.out 0
 have kG := aM BM.out 3
 have kH := aM BM.out 6
 have jS := aM BM.out 8
 have R_ := fz BM 0
 have S_ := fz BM 3
 have T_ := fz BM 6
 have U_ := fz BM 8
 have m1 := NMN.out
 have m2 := NNM.out
 have m3 := NMD.out
 have m4 := NDM.out
 have m5 := Qp.out
 have m6 := Qr.out
 go_region
 obtain ⟨WT, hw⟩ : ∃ wb, wb = ((((O6.setCell ⟨gm, 0, none⟩ (.string n3)).setCell ⟨gm, 3, none⟩ (.string d3)).setCell ⟨gm, 6, none⟩ (.bool dO)).setCell ⟨gm, 8, none⟩ (.int .u64 o2)).drew := ⟨_, rfl⟩
 rw [← hw]
 replace BR := jG BR hw
 replace BL := jG BL hw
 replace BE := jG BE hw
 replace BK := jG BK hw
 replace BM := aA (show WT.heap[gm]? = some (.cells #[.string n3, .int .i64 0, .slice none 0 0, .string d3, .slice none 0 0, .slice none 0 0, .bool dO, .slice none 0 0, .int .u64 o2, .int .i64 0] 59 (0, 0)) from by rw [hw]; exact aU BM)
 have GM2 := aA (show w2.heap.size ≤ gm from Nat.le_trans wK.out (Nat.le_of_lt GEM.out))
 replace HL := GA HL hw
 replace HB := wP HB hw
 clear hw KT hd3 ho2 hm0 R_ kG S_ kH T_ jS U_ m1 m2 m3 m4 m5 m6 BN BD BO
 have hk2 := aM BK.out 2
 have hm1 := aM BM.out 1
 have V5 := fz BM 1
 have m1 := NKM.out
 have m2 := NMK.out
 by_cases hs : k2 ≤ 1048576
 · have bs : decide (k2 ≤ 1048576) = true := dT hs
   obtain ⟨kd, hkd⟩ : ∃ kd, (if k2 ≤ 1048576 then wrap64 k2 else 0) = kd := ⟨_, rfl⟩
   have VQ := aA hkd
   rw [ip hs] at hkd
   clear hs
   (go_wp2_with (first | fail))
   obtain ⟨oG, hw⟩ : ∃ wb, wb = WT.setCell ⟨gm, 1, none⟩ (.int .i64 kd) := ⟨_, rfl⟩
   rw [← hw]
   replace BR := jG BR hw
   replace BL := jG BL hw
   replace BE := jG BE hw
   replace BM := aA (show oG.heap[gm]? = some (.cells #[.string n3, .int .i64 kd, .slice none 0 0, .string d3, .slice none 0 0, .slice none 0 0, .bool dO, .slice none 0 0, .int .u64 o2, .int .i64 0] 59 (0, 0)) from by rw [hw]; exact aU BM)
   replace HL := GA HL hw
   replace HB := wP HB hw
   clear hw hk2 hm1 V5 m1 m2 hkd bs BK
   obtain ⟨x1, f1, hx1⟩ : ∃ (x1 : List Int) (f1 : Nat), mF ((L.filter fun x => x.f0 == 1).map mD) [] = (x1, f1) := ⟨_, _, rfl⟩
   obtain ⟨x5, f5, hx5⟩ : ∃ (x1 : List Int) (f1 : Nat), mF ((L.filter fun x => x.f0 == 5).map mD) [] = (x1, f1) := ⟨_, _, rfl⟩
   obtain ⟨x7, f7, hx7⟩ : ∃ (x1 : List Int) (f1 : Nat), mF ((L.filter fun x => x.f0 == 7).map mD) [] = (x1, f1) := ⟨_, _, rfl⟩
   obtain ⟨ts, ft, hts⟩ : ∃ (x1 : List ByteArray) (f1 : Nat), vR ((L.filter fun x => x.f0 == 13).map mD) [] = (x1, f1) := ⟨_, _, rfl⟩
   replace HV := aA (show R = DY k2 n3 d3 dO o2 x1 x5 x7 (ts, ft) (rG (rG (f1 : Int) (f5 : Int)) (f7 : Int)) from by rw [HV.out, hx1, hx5, hx7, hts]; rfl)
   have yw := aA hx1
   have yx := aA hx5
   have yz := aA hx7
   have HT := aA hts
   clear hx1 hx5 hx7 hts
   refine (PR A c L 1 gl ge 0 (f1 : Int) x1 _ (Kd.mK HL.out) mQ.out H1.out H2.out BL.out BE.out (by rw [yw.out, Int.toNat_natCast]) (Int.natCast_nonneg _)).mono ?_
   rintro en R7 ⟨A1, c1, rfl, hx, hB, hbe⟩
   have X1 := aA (Kd.eO (Kd.nU hx) (fun k hk => hk.2.1))
   have KE := aA (jB BE.out)
   have KF := aA (jB BM.out)
   have wu := aA (jB BR.out)
   have wo := aA HB.out.size
   replace BR := kS BR hB sH
   replace BL := kS BL hB CG
   replace BM := kS BM hB xM
   replace HL := aA (IK HL.out hB (fun k hk => Nat.ne_of_lt (Nat.lt_of_lt_of_le hk wK.out)))
   replace HB := BB HB hB GE
   replace BE := aA hbe
   clear hB hbe hx
   replace BE := aA (show R7.heap[ge]? = some (.cells #[.int .i64 (f1 : Int)] 34 (0, 0)) from BE.out)
   have hl0 := iA BL
   go_wp2_with (first | fail)
   clear hl0
   refine (PR A c L 5 gl ge (f1 : Int) (f5 : Int) x5 _ (Kd.mK HL.out) mQ.out H1.out H2.out BL.out BE.out (by rw [yx.out, Int.toNat_natCast]) (Int.natCast_nonneg _)).mono ?_
   rintro en Bj ⟨A5, c5, rfl, hx, hB, hbe⟩
   have X5 := aA (Kd.eO (Kd.nU hx) (fun k hk => hk.2.1))
   have OM := aA (jB BE.out)
   have KG := aA (jB BM.out)
   have xe := aA (jB BR.out)
   have xc := aA HB.out.size
   replace X1 := RA X1 hB KE
   replace BR := kS BR hB sH
   replace BL := kS BL hB CG
   replace BM := kS BM hB xM
   replace HL := aA (IK HL.out hB (fun k hk => Nat.ne_of_lt (Nat.lt_of_lt_of_le hk wK.out)))
   replace HB := BB HB hB GE
   replace BE := aA hbe
   clear hB hbe hx
   have hl0 := iA BL
   go_wp2_with (first | fail)
   clear hl0
   refine (PR A c L 7 gl ge (rG (f1 : Int) (f5 : Int)) (f7 : Int) x7 _ (Kd.mK HL.out) mQ.out H1.out H2.out BL.out BE.out (by rw [yz.out, Int.toNat_natCast]) (Int.natCast_nonneg _)).mono ?_
   rintro en yS ⟨A7, c7, rfl, hx, hB, hbe⟩
   have X7 := aA (Kd.eO (Kd.nU hx) (fun k hk => hk.2.1))
   have VH := aA (jB BE.out)
   have KH := aA (jB BM.out)
   have xh := aA (jB BR.out)
   have xg := aA HB.out.size
   replace X1 := RA X1 hB KE
   replace X5 := RA X5 hB OM
   replace BR := kS BR hB sH
   replace BL := kS BL hB CG
   replace BM := kS BM hB xM
   replace HL := aA (IK HL.out hB (fun k hk => Nat.ne_of_lt (Nat.lt_of_lt_of_le hk wK.out)))
   replace HB := BB HB hB GE
   replace BE := aA hbe
   clear hB hbe hx
   have hm2 := aM BM.out 2
   have MS := fz BM 2
   have jQ := aM BM.out 4
   have MU := fz BM 4
   have jR := aM BM.out 5
   have MV := fz BM 5
   have oD := iA BE
   have hl0 := iA BL
   have m1 := RS.out
   have m2 := xM.out
   have m3 := Qn.out
   have m4 := Qo.out
   obtain ⟨F, hF⟩ : ∃ F, rG (rG (f1 : Int) (f5 : Int)) (f7 : Int) = F := ⟨_, rfl⟩
   rw [hF] at HV BE oD
   clear hF
   by_cases hf0 : F = 0
   · have bF : (F == 0) = true := beq_iff_eq.2 hf0
     go_wp2_with (first | fail)
     obtain ⟨sP, hw⟩ : ∃ wb, wb = ((yS.setCell ⟨gm, 2, none⟩ (.slice A1 x1.length c1)).setCell ⟨gm, 4, none⟩ (.slice A5 x5.length c5)).setCell ⟨gm, 5, none⟩ (.slice A7 x7.length c7) := ⟨_, rfl⟩
     rw [← hw]
     replace BR := jG BR hw
     replace BE := jG BE hw
     replace BM := aA (show sP.heap[gm]? = some (.cells #[.string n3, .int .i64 kd, .slice A1 x1.length c1, .string d3, .slice A5 x5.length c5, .slice A7 x7.length c7, .bool dO, .slice none 0 0, .int .u64 o2, .int .i64 0] 59 (0, 0)) from by rw [hw]; exact aU BM)
     replace HL := GA HL hw
     replace HB := wP HB hw
     replace X1 := aA (show Kd.R (Kd.int .i64) 2 sP _ _ _ x1 from by rw [hw]; exact D7 X1.out KF.out)
     replace X5 := aA (show Kd.R (Kd.int .i64) 2 sP _ _ _ x5 from by rw [hw]; exact D7 X5.out KG.out)
     replace X7 := aA (show Kd.R (Kd.int .i64) 2 sP _ _ _ x7 from by rw [hw]; exact D7 X7.out KH.out)
     clear hw hm2 MS jQ MU jR MV oD hl0 m1 m2 m3 m4
     have E0 := aC.mk (show R = (if ft ≠ 0 then (mY, (ft : Int)) else xC k2 n3 d3 dO o2 x1 x5 x7 ts kd) from by rw [HV.out, ← VQ.out]; exact iN (fun h => h hf0))
     clear hf0 HV VQ
     refine (KZ.calls A c L 13 ts (ft : Int) _ (Kd.mK HL.out) mQ.out ((ip H1.out).trans (by rw [HT.out]))).mono ?_
     rintro en WU ⟨v, rfl, hx, hb⟩
     obtain ⟨AT, cT, rfl⟩ := Kd.jF hx
     have XT := aA (Kd.eO (Kd.nU hx) (fun k hk => hk.2.1))
     have VJ := aA (jB BM.out)
     have VI := aA (jB BE.out)
     have xm := aA (jB BR.out)
     have xk := aA HB.out.size
     replace X1 := aA (Kd.gU X1.out hb)
     replace X5 := aA (Kd.gU X5.out hb)
     replace X7 := aA (Kd.gU X7.out hb)
     replace BR := aI BR hb
     replace BE := aI BE hb
     replace BM := aI BM hb
     replace HB := hbS HB hb
     clear hb hx HL BL
     have jL := aM BM.out 7
     have MW := fz BM 7
     have oD := iA BE
     have yO := fz BE 0
     have m1 := RS.out
     have m2 := xM.out
     by_cases hft : ft ≠ 0
     · have bT : ((ft : Int) != 0) = true := bne_iff_ne.2 (by omega)
       have E := aC.mk (show R = (mY, (ft : Int)) from E0.out.trans (ip hft))
       clear hft
       go_wp2_with (first | fail)
       obtain ⟨sQ, hw⟩ : ∃ wb, wb = (WU.setCell ⟨gm, 7, none⟩ (.slice AT ts.length cT)).setCell ⟨ge, 0, none⟩ (.int .i64 (ft : Int)) := ⟨_, rfl⟩
       rw [← hw]
       replace BR := jG BR hw
       replace BE := aA (show sQ.heap[ge]? = some (.cells #[.int .i64 (ft : Int)] 34 (0, 0)) from by rw [hw]; exact aU BE)
       replace HB := wP HB hw
       clear hw oD yO jL MW m1 m2
       have oD := iA BE
       have yO := fz BE 0
       have hr0 := aM BR.out 0
       have hr1 := aM BR.out 1
       have hr2 := aM BR.out 2
       have hr3 := aM BR.out 3
       have hr4 := aM BR.out 4
       have DC := aM BR.out 5
       have DD := aM BR.out 6
       have DF := aM BR.out 7
       have DI := aM BR.out 8
       have DJ := aM BR.out 9
       have fJ := fz BR 0
       have fQ := fz BR 1
       have fT := fz BR 2
       have fU := fz BR 3
       have CR := fz BR 4
       have CS := fz BR 5
       have CU := fz BR 6
       have CV := fz BR 7
       have CW := fz BR 8
       have CX := fz BR 9
       have n1 := sH.out
       have n2 := F6.out
       go_region
       go_wp2
       refine bodyPost_ret (eP rfl _ _ gr 59 #[.string ⟨#[]⟩, .int .i64 0, .slice none 0 0, .string ⟨#[]⟩, .slice none 0 0, .slice none 0 0, .bool false, .slice none 0 0, .int .u64 0, .int .i64 0] (0, 0) _ rfl (aU BR) tN rfl (by kernel_rfl)) rfl ?_
       exact DU E.out (iO (vK HB.out GR.out))
     · have bT : ((ft : Int) != 0) = false := bne_eq_false_iff_eq.2 (by omega)
       have E := aC.mk (show R = xC k2 n3 d3 dO o2 x1 x5 x7 ts kd from E0.out.trans (iN hft))
       have hz : ft = 0 := by omega
       subst hz
       clear hft E0
       have jS := aM BM.out 8
       have hm0 := aM BM.out 0
       by_cases hw1 : 1 < o2
       · have bw : decide (1 < o2) = true := dT hw1
         have E2 := aC.mk (show R = (mY, 19) from E.out.trans (ip hw1))
         clear hw1
         have hr0 := aM BR.out 0
         have hr1 := aM BR.out 1
         have hr2 := aM BR.out 2
         have hr3 := aM BR.out 3
         have hr4 := aM BR.out 4
         have DC := aM BR.out 5
         have DD := aM BR.out 6
         have DF := aM BR.out 7
         have DI := aM BR.out 8
         have DJ := aM BR.out 9
         have fJ := fz BR 0
         have fQ := fz BR 1
         have fT := fz BR 2
         have fU := fz BR 3
         have CR := fz BR 4
         have CS := fz BR 5
         have CU := fz BR 6
         have CV := fz BR 7
         have CW := fz BR 8
         have CX := fz BR 9
         have n1 := sH.out
         have n2 := F6.out
         have kL := wM.out
         have n4 := wL.out
         go_wp2_with (first | fail)
         refine bodyPost_ret (eP rfl _ _ gr 59 #[.string ⟨#[]⟩, .int .i64 0, .slice none 0 0, .string ⟨#[]⟩, .slice none 0 0, .slice none 0 0, .bool false, .slice none 0 0, .int .u64 0, .int .i64 0] (0, 0) _ rfl (aU BR) tN rfl (by kernel_rfl)) rfl ?_
         exact DU E2.out (vK (fD (fD HB.out GM.out) GE.out) GR.out)
       · have bw : decide (1 < o2) = false := dF hw1
         have E2 := aC.mk (show R = _ from E.out.trans (iN hw1))
         clear hw1 E
         go_wp2_with (first | fail)
         refine (wR.calls n3 (tK n3) _ (ip KJ.out)).mono ?_
         rintro en sQ ⟨rfl, ⟨nd, hw⟩⟩
         replace BR := jG BR hw
         replace BE := aA (show sQ.heap[ge]? = some (.cells #[.int .i64 0] 34 (0, 0)) from by rw [hw]; exact aU BE)
         replace BM := aA (show sQ.heap[gm]? = some (.cells #[.string n3, .int .i64 kd, .slice A1 x1.length c1, .string d3, .slice A5 x5.length c5, .slice A7 x7.length c7, .bool dO, .slice AT ts.length cT, .int .u64 o2, .int .i64 0] 59 (0, 0)) from by rw [hw]; exact aU BM)
         replace HB := wP HB hw
         replace X1 := aA (show Kd.R (Kd.int .i64) 2 sQ _ _ _ x1 from by rw [hw]; exact L6 X1.out KF.out KE.out nd)
         replace X5 := aA (show Kd.R (Kd.int .i64) 2 sQ _ _ _ x5 from by rw [hw]; exact L6 X5.out KG.out OM.out nd)
         replace X7 := aA (show Kd.R (Kd.int .i64) 2 sQ _ _ _ x7 from by rw [hw]; exact L6 X7.out KH.out VH.out nd)
         replace XT := aA (show Kd.R Kd.string 9 sQ _ _ _ ts from by rw [hw]; exact L6 XT.out VJ.out VI.out nd)
         clear hw jL MW oD yO m1 m2 jS hm0
         by_cases hn : tK n3 = false
         · rw [hn]
           have E3 := aC.mk (show R = (mY, 8) from E2.out.trans (ip hn))
           clear hn
           have hr0 := aM BR.out 0
           have hr1 := aM BR.out 1
           have hr2 := aM BR.out 2
           have hr3 := aM BR.out 3
           have hr4 := aM BR.out 4
           have DC := aM BR.out 5
           have DD := aM BR.out 6
           have DF := aM BR.out 7
           have DI := aM BR.out 8
           have DJ := aM BR.out 9
           have fJ := fz BR 0
           have fQ := fz BR 1
           have fT := fz BR 2
           have fU := fz BR 3
           have CR := fz BR 4
           have CS := fz BR 5
           have CU := fz BR 6
           have CV := fz BR 7
           have CW := fz BR 8
           have CX := fz BR 9
           go_wp2_with (first | fail)
           refine bodyPost_ret (eP rfl _ _ gr 59 #[.string ⟨#[]⟩, .int .i64 0, .slice none 0 0, .string ⟨#[]⟩, .slice none 0 0, .slice none 0 0, .bool false, .slice none 0 0, .int .u64 0, .int .i64 0] (0, 0) _ rfl (aU BR) tN rfl (by kernel_rfl)) rfl ?_
           exact DU E3.out (vK HB.out GR.out)
         · have hn2 : tK n3 = true := by simpa using hn
           have E3 := aC.mk (show R = _ from E2.out.trans (iN hn))
           rw [hn2]
           clear hn hn2 E2
           have hm1 := aM BM.out 1
           go_wp2_with (first | fail)
           refine (oV.calls kd (gF kd) _ rfl).mono ?_
           rintro en _u ⟨rfl, hb⟩
           replace BR := aI BR hb
           replace BM := aI BM hb
           replace BE := aI BE hb
           replace X1 := aA (Kd.gU X1.out hb)
           replace X5 := aA (Kd.gU X5.out hb)
           replace X7 := aA (Kd.gU X7.out hb)
           replace XT := aA (Kd.gU XT.out hb)
           replace HB := hbS HB hb
           clear hb hm1
           by_cases hs : gF kd = 0
           · have bs : (gF kd == 0) = true := beq_iff_eq.2 hs
             have E4 := aC.mk (show R = (mY, 5) from E3.out.trans (ip hs))
             clear hs
             have hr0 := aM BR.out 0
             have hr1 := aM BR.out 1
             have hr2 := aM BR.out 2
             have hr3 := aM BR.out 3
             have hr4 := aM BR.out 4
             have DC := aM BR.out 5
             have DD := aM BR.out 6
             have DF := aM BR.out 7
             have DI := aM BR.out 8
             have DJ := aM BR.out 9
             have fJ := fz BR 0
             have fQ := fz BR 1
             have fT := fz BR 2
             have fU := fz BR 3
             have CR := fz BR 4
             have CS := fz BR 5
             have CU := fz BR 6
             have CV := fz BR 7
             have CW := fz BR 8
             have CX := fz BR 9
             go_wp2_with (first | fail)
             refine bodyPost_ret (eP rfl _ _ gr 59 #[.string ⟨#[]⟩, .int .i64 0, .slice none 0 0, .string ⟨#[]⟩, .slice none 0 0, .slice none 0 0, .bool false, .slice none 0 0, .int .u64 0, .int .i64 0] (0, 0) _ rfl (aU BR) tN rfl (by kernel_rfl)) rfl ?_
             exact DU E4.out (vK HB.out GR.out)
           · have bs : (gF kd == 0) = false := beq_eq_false_iff_ne.2 hs
             have E4 := aC.mk (show R = _ from E3.out.trans (iN hs))
             clear hs E3
             have hm2 := aM BM.out 2
             go_wp2_with (first | fail)
             refine (uF.calls A1 c1 x1 (kE x1).1 (kE x1).2 _ (Kd.jA X1.out).2.2 (Kd.jA X1.out).2.1 rfl).mono ?_
             rintro en _v ⟨rfl, hb⟩
             replace BR := aI BR hb
             replace BM := aI BM hb
             replace BE := aI BE hb
             replace X1 := aA (Kd.gU X1.out hb)
             replace X5 := aA (Kd.gU X5.out hb)
             replace X7 := aA (Kd.gU X7.out hb)
             replace XT := aA (Kd.gU XT.out hb)
             replace HB := hbS HB hb
             clear hb hm2
             have jE := aM BM.out 9
             have R4 := fz BM 9
             have oD := iA BE
             have yO := fz BE 0
             have m1 := RS.out
             have m2 := xM.out
             obtain ⟨z1, hz1⟩ : ∃ z, (kE x1).1 = z := ⟨_, rfl⟩
             obtain ⟨z2, hz2⟩ : ∃ z, (kE x1).2 = z := ⟨_, rfl⟩
             rw [hz1, hz2] at E4 ⊢
             clear hz1 hz2
             go_wp2_with (first | fail)
             obtain ⟨sS, hw⟩ : ∃ wb, wb = (_v.setCell ⟨gm, 9, none⟩ (.int .i64 z1)).setCell ⟨ge, 0, none⟩ (.int .i64 z2) := ⟨_, rfl⟩
             rw [← hw]
             replace BR := jG BR hw
             replace BE := aA (show sS.heap[ge]? = some (.cells #[.int .i64 z2] 34 (0, 0)) from by rw [hw]; exact aU BE)
             replace BM := aA (show sS.heap[gm]? = some (.cells #[.string n3, .int .i64 kd, .slice A1 x1.length c1, .string d3, .slice A5 x5.length c5, .slice A7 x7.length c7, .bool dO, .slice AT ts.length cT, .int .u64 o2, .int .i64 z1] 59 (0, 0)) from by rw [hw]; exact aU BM)
             replace HB := wP HB hw
             replace X1 := aA (show Kd.R (Kd.int .i64) 2 sS _ _ _ x1 from by rw [hw]; exact JX X1.out KF.out KE.out)
             replace X5 := aA (show Kd.R (Kd.int .i64) 2 sS _ _ _ x5 from by rw [hw]; exact JX X5.out KG.out OM.out)
             replace X7 := aA (show Kd.R (Kd.int .i64) 2 sS _ _ _ x7 from by rw [hw]; exact JX X7.out KH.out VH.out)
             replace XT := aA (show Kd.R Kd.string 9 sS _ _ _ ts from by rw [hw]; exact JX XT.out VJ.out VI.out)
             clear hw jE R4 oD yO m1 m2
             have oD := iA BE
             have yO := fz BE 0
             have hr0 := aM BR.out 0
             have hr1 := aM BR.out 1
             have hr2 := aM BR.out 2
             have hr3 := aM BR.out 3
             have hr4 := aM BR.out 4
             have DC := aM BR.out 5
             have DD := aM BR.out 6
             have DF := aM BR.out 7
             have DI := aM BR.out 8
             have DJ := aM BR.out 9
             have fJ := fz BR 0
             have fQ := fz BR 1
             have fT := fz BR 2
             have fU := fz BR 3
             have CR := fz BR 4
             have CS := fz BR 5
             have CU := fz BR 6
             have CV := fz BR 7
             have CW := fz BR 8
             have CX := fz BR 9
             have hm0 := aM BM.out 0
             have hm1 := aM BM.out 1
             have hm2 := aM BM.out 2
             have kG := aM BM.out 3
             have jQ := aM BM.out 4
             have jR := aM BM.out 5
             have kH := aM BM.out 6
             have jL := aM BM.out 7
             have jS := aM BM.out 8
             have jE := aM BM.out 9
             have n1 := sH.out
             have n2 := F6.out
             have n4 := wM.out
             have n5 := wL.out
             go_region
             go_wp2
             refine bodyPost_ret (eP rfl _ _ gr 59 #[.string n3, .int .i64 kd, .slice A1 x1.length c1, .string d3, .slice A5 x5.length c5, .slice A7 x7.length c7, .bool dO, .slice AT ts.length cT, .int .u64 o2, .int .i64 z1] (0, 0) _ rfl (Mj BR.out) tN rfl (by kernel_rfl)) rfl ?_
             rw [E4.out]
             exact ⟨A1, c1, A5, c5, A7, c7, AT, cT, rfl, ME X1.out wu.out wo.out, ME X5.out xe.out xc.out, ME X7.out xh.out xg.out, ME XT.out xm.out xk.out, iO (vK HB.out GR.out)⟩
   · have bF : (F == 0) = false := beq_eq_false_iff_ne.2 hf0
     have bG : (F != 0) = true := bne_iff_ne.2 hf0
     go_wp2_with (first | fail)
     obtain ⟨sP, hw⟩ : ∃ wb, wb = ((yS.setCell ⟨gm, 2, none⟩ (.slice A1 x1.length c1)).setCell ⟨gm, 4, none⟩ (.slice A5 x5.length c5)).setCell ⟨gm, 5, none⟩ (.slice A7 x7.length c7) := ⟨_, rfl⟩
     rw [← hw]
     replace BR := jG BR hw
     replace BE := jG BE hw
     replace BM := aA (show sP.heap[gm]? = some (.cells #[.string n3, .int .i64 kd, .slice A1 x1.length c1, .string d3, .slice A5 x5.length c5, .slice A7 x7.length c7, .bool dO, .slice none 0 0, .int .u64 o2, .int .i64 0] 59 (0, 0)) from by rw [hw]; exact aU BM)
     replace HL := GA HL hw
     replace HB := wP HB hw
     replace X1 := aA (show Kd.R (Kd.int .i64) 2 sP _ _ _ x1 from by rw [hw]; exact D7 X1.out KF.out)
     replace X5 := aA (show Kd.R (Kd.int .i64) 2 sP _ _ _ x5 from by rw [hw]; exact D7 X5.out KG.out)
     replace X7 := aA (show Kd.R (Kd.int .i64) 2 sP _ _ _ x7 from by rw [hw]; exact D7 X7.out KH.out)
     clear hw hm2 MS jQ MU jR MV oD hl0 m1 m2 m3 m4
     have E := aC.mk (show R = (mY, F) from HV.out.trans (ip hf0))
     have oD := iA BE
     have yO := fz BE 0
     have hr0 := aM BR.out 0
     have hr1 := aM BR.out 1
     have hr2 := aM BR.out 2
     have hr3 := aM BR.out 3
     have hr4 := aM BR.out 4
     have DC := aM BR.out 5
     have DD := aM BR.out 6
     have DF := aM BR.out 7
     have DI := aM BR.out 8
     have DJ := aM BR.out 9
     have fJ := fz BR 0
     have fQ := fz BR 1
     have fT := fz BR 2
     have fU := fz BR 3
     have CR := fz BR 4
     have CS := fz BR 5
     have CU := fz BR 6
     have CV := fz BR 7
     have CW := fz BR 8
     have CX := fz BR 9
     have n1 := sH.out
     have n2 := F6.out
     go_region
     go_wp2
     refine bodyPost_ret (eP rfl _ _ gr 59 #[.string ⟨#[]⟩, .int .i64 0, .slice none 0 0, .string ⟨#[]⟩, .slice none 0 0, .slice none 0 0, .bool false, .slice none 0 0, .int .u64 0, .int .i64 0] (0, 0) _ rfl (aU BR) tN rfl (by kernel_rfl)) rfl ?_
     exact DU E.out (iO (vK HB.out GR.out))
 · have bs : decide (k2 ≤ 1048576) = false := dF hs
   obtain ⟨kd, hkd⟩ : ∃ kd, (if k2 ≤ 1048576 then wrap64 k2 else 0) = kd := ⟨_, rfl⟩
   have VQ := aA hkd
   rw [iN hs] at hkd
   clear hs
   (go_wp2_with (first | fail))
   replace BM := aA (show WT.heap[gm]? = some (.cells #[.string n3, .int .i64 kd, .slice none 0 0, .string d3, .slice none 0 0, .slice none 0 0, .bool dO, .slice none 0 0, .int .u64 o2, .int .i64 0] 59 (0, 0)) from by rw [← hkd]; exact BM.out)
   clear hkd
   have aFk : ∃ oG : World, WT = oG := ⟨_, rfl⟩
   obtain ⟨oG, rfl⟩ := aFk
   clear hk2 hm1 V5 m1 m2 bs BK
   obtain ⟨x1, f1, hx1⟩ : ∃ (x1 : List Int) (f1 : Nat), mF ((L.filter fun x => x.f0 == 1).map mD) [] = (x1, f1) := ⟨_, _, rfl⟩
   obtain ⟨x5, f5, hx5⟩ : ∃ (x1 : List Int) (f1 : Nat), mF ((L.filter fun x => x.f0 == 5).map mD) [] = (x1, f1) := ⟨_, _, rfl⟩
   obtain ⟨x7, f7, hx7⟩ : ∃ (x1 : List Int) (f1 : Nat), mF ((L.filter fun x => x.f0 == 7).map mD) [] = (x1, f1) := ⟨_, _, rfl⟩
   obtain ⟨ts, ft, hts⟩ : ∃ (x1 : List ByteArray) (f1 : Nat), vR ((L.filter fun x => x.f0 == 13).map mD) [] = (x1, f1) := ⟨_, _, rfl⟩
   replace HV := aA (show R = DY k2 n3 d3 dO o2 x1 x5 x7 (ts, ft) (rG (rG (f1 : Int) (f5 : Int)) (f7 : Int)) from by rw [HV.out, hx1, hx5, hx7, hts]; rfl)
   have yw := aA hx1
   have yx := aA hx5
   have yz := aA hx7
   have HT := aA hts
   clear hx1 hx5 hx7 hts
   refine (PR A c L 1 gl ge 0 (f1 : Int) x1 _ (Kd.mK HL.out) mQ.out H1.out H2.out BL.out BE.out (by rw [yw.out, Int.toNat_natCast]) (Int.natCast_nonneg _)).mono ?_
   rintro en R7 ⟨A1, c1, rfl, hx, hB, hbe⟩
   have X1 := aA (Kd.eO (Kd.nU hx) (fun k hk => hk.2.1))
   have KE := aA (jB BE.out)
   have KF := aA (jB BM.out)
   have wu := aA (jB BR.out)
   have wo := aA HB.out.size
   replace BR := kS BR hB sH
   replace BL := kS BL hB CG
   replace BM := kS BM hB xM
   replace HL := aA (IK HL.out hB (fun k hk => Nat.ne_of_lt (Nat.lt_of_lt_of_le hk wK.out)))
   replace HB := BB HB hB GE
   replace BE := aA hbe
   clear hB hbe hx
   replace BE := aA (show R7.heap[ge]? = some (.cells #[.int .i64 (f1 : Int)] 34 (0, 0)) from BE.out)
   have hl0 := iA BL
   go_wp2_with (first | fail)
   clear hl0
   refine (PR A c L 5 gl ge (f1 : Int) (f5 : Int) x5 _ (Kd.mK HL.out) mQ.out H1.out H2.out BL.out BE.out (by rw [yx.out, Int.toNat_natCast]) (Int.natCast_nonneg _)).mono ?_
   rintro en Bj ⟨A5, c5, rfl, hx, hB, hbe⟩
   have X5 := aA (Kd.eO (Kd.nU hx) (fun k hk => hk.2.1))
   have OM := aA (jB BE.out)
   have KG := aA (jB BM.out)
   have xe := aA (jB BR.out)
   have xc := aA HB.out.size
   replace X1 := RA X1 hB KE
   replace BR := kS BR hB sH
   replace BL := kS BL hB CG
   replace BM := kS BM hB xM
   replace HL := aA (IK HL.out hB (fun k hk => Nat.ne_of_lt (Nat.lt_of_lt_of_le hk wK.out)))
   replace HB := BB HB hB GE
   replace BE := aA hbe
   clear hB hbe hx
   have hl0 := iA BL
   go_wp2_with (first | fail)
   clear hl0
   refine (PR A c L 7 gl ge (rG (f1 : Int) (f5 : Int)) (f7 : Int) x7 _ (Kd.mK HL.out) mQ.out H1.out H2.out BL.out BE.out (by rw [yz.out, Int.toNat_natCast]) (Int.natCast_nonneg _)).mono ?_
   rintro en yS ⟨A7, c7, rfl, hx, hB, hbe⟩
   have X7 := aA (Kd.eO (Kd.nU hx) (fun k hk => hk.2.1))
   have VH := aA (jB BE.out)
   have KH := aA (jB BM.out)
   have xh := aA (jB BR.out)
   have xg := aA HB.out.size
   replace X1 := RA X1 hB KE
   replace X5 := RA X5 hB OM
   replace BR := kS BR hB sH
   replace BL := kS BL hB CG
   replace BM := kS BM hB xM
   replace HL := aA (IK HL.out hB (fun k hk => Nat.ne_of_lt (Nat.lt_of_lt_of_le hk wK.out)))
   replace HB := BB HB hB GE
   replace BE := aA hbe
   clear hB hbe hx
   have hm2 := aM BM.out 2
   have MS := fz BM 2
   have jQ := aM BM.out 4
   have MU := fz BM 4
   have jR := aM BM.out 5
   have MV := fz BM 5
   have oD := iA BE
   have hl0 := iA BL
   have m1 := RS.out
   have m2 := xM.out
   have m3 := Qn.out
   have m4 := Qo.out
   obtain ⟨F, hF⟩ : ∃ F, rG (rG (f1 : Int) (f5 : Int)) (f7 : Int) = F := ⟨_, rfl⟩
   rw [hF] at HV BE oD
   clear hF
   by_cases hf0 : F = 0
   · have bF : (F == 0) = true := beq_iff_eq.2 hf0
     go_wp2_with (first | fail)
     obtain ⟨sP, hw⟩ : ∃ wb, wb = ((yS.setCell ⟨gm, 2, none⟩ (.slice A1 x1.length c1)).setCell ⟨gm, 4, none⟩ (.slice A5 x5.length c5)).setCell ⟨gm, 5, none⟩ (.slice A7 x7.length c7) := ⟨_, rfl⟩
     rw [← hw]
     replace BR := jG BR hw
     replace BE := jG BE hw
     replace BM := aA (show sP.heap[gm]? = some (.cells #[.string n3, .int .i64 kd, .slice A1 x1.length c1, .string d3, .slice A5 x5.length c5, .slice A7 x7.length c7, .bool dO, .slice none 0 0, .int .u64 o2, .int .i64 0] 59 (0, 0)) from by rw [hw]; exact aU BM)
     replace HL := GA HL hw
     replace HB := wP HB hw
     replace X1 := aA (show Kd.R (Kd.int .i64) 2 sP _ _ _ x1 from by rw [hw]; exact D7 X1.out KF.out)
     replace X5 := aA (show Kd.R (Kd.int .i64) 2 sP _ _ _ x5 from by rw [hw]; exact D7 X5.out KG.out)
     replace X7 := aA (show Kd.R (Kd.int .i64) 2 sP _ _ _ x7 from by rw [hw]; exact D7 X7.out KH.out)
     clear hw hm2 MS jQ MU jR MV oD hl0 m1 m2 m3 m4
     have E0 := aC.mk (show R = (if ft ≠ 0 then (mY, (ft : Int)) else xC k2 n3 d3 dO o2 x1 x5 x7 ts kd) from by rw [HV.out, ← VQ.out]; exact iN (fun h => h hf0))
     clear hf0 HV VQ
     refine (KZ.calls A c L 13 ts (ft : Int) _ (Kd.mK HL.out) mQ.out ((ip H1.out).trans (by rw [HT.out]))).mono ?_
     rintro en WU ⟨v, rfl, hx, hb⟩
     obtain ⟨AT, cT, rfl⟩ := Kd.jF hx
     have XT := aA (Kd.eO (Kd.nU hx) (fun k hk => hk.2.1))
     have VJ := aA (jB BM.out)
     have VI := aA (jB BE.out)
     have xm := aA (jB BR.out)
     have xk := aA HB.out.size
     replace X1 := aA (Kd.gU X1.out hb)
     replace X5 := aA (Kd.gU X5.out hb)
     replace X7 := aA (Kd.gU X7.out hb)
     replace BR := aI BR hb
     replace BE := aI BE hb
     replace BM := aI BM hb
     replace HB := hbS HB hb
     clear hb hx HL BL
     have jL := aM BM.out 7
     have MW := fz BM 7
     have oD := iA BE
     have yO := fz BE 0
     have m1 := RS.out
     have m2 := xM.out
     by_cases hft : ft ≠ 0
     · have bT : ((ft : Int) != 0) = true := bne_iff_ne.2 (by omega)
       have E := aC.mk (show R = (mY, (ft : Int)) from E0.out.trans (ip hft))
       clear hft
       go_wp2_with (first | fail)
       obtain ⟨sQ, hw⟩ : ∃ wb, wb = (WU.setCell ⟨gm, 7, none⟩ (.slice AT ts.length cT)).setCell ⟨ge, 0, none⟩ (.int .i64 (ft : Int)) := ⟨_, rfl⟩
       rw [← hw]
       replace BR := jG BR hw
       replace BE := aA (show sQ.heap[ge]? = some (.cells #[.int .i64 (ft : Int)] 34 (0, 0)) from by rw [hw]; exact aU BE)
       replace HB := wP HB hw
       clear hw oD yO jL MW m1 m2
       have oD := iA BE
       have yO := fz BE 0
       have hr0 := aM BR.out 0
       have hr1 := aM BR.out 1
       have hr2 := aM BR.out 2
       have hr3 := aM BR.out 3
       have hr4 := aM BR.out 4
       have DC := aM BR.out 5
       have DD := aM BR.out 6
       have DF := aM BR.out 7
       have DI := aM BR.out 8
       have DJ := aM BR.out 9
       have fJ := fz BR 0
       have fQ := fz BR 1
       have fT := fz BR 2
       have fU := fz BR 3
       have CR := fz BR 4
       have CS := fz BR 5
       have CU := fz BR 6
       have CV := fz BR 7
       have CW := fz BR 8
       have CX := fz BR 9
       have n1 := sH.out
       have n2 := F6.out
       go_region
       go_wp2
       refine bodyPost_ret (eP rfl _ _ gr 59 #[.string ⟨#[]⟩, .int .i64 0, .slice none 0 0, .string ⟨#[]⟩, .slice none 0 0, .slice none 0 0, .bool false, .slice none 0 0, .int .u64 0, .int .i64 0] (0, 0) _ rfl (aU BR) tN rfl (by kernel_rfl)) rfl ?_
       exact DU E.out (iO (vK HB.out GR.out))
     · have bT : ((ft : Int) != 0) = false := bne_eq_false_iff_eq.2 (by omega)
       have E := aC.mk (show R = xC k2 n3 d3 dO o2 x1 x5 x7 ts kd from E0.out.trans (iN hft))
       have hz : ft = 0 := by omega
       subst hz
       clear hft E0
       have jS := aM BM.out 8
       have hm0 := aM BM.out 0
       by_cases hw1 : 1 < o2
       · have bw : decide (1 < o2) = true := dT hw1
         have E2 := aC.mk (show R = (mY, 19) from E.out.trans (ip hw1))
         clear hw1
         have hr0 := aM BR.out 0
         have hr1 := aM BR.out 1
         have hr2 := aM BR.out 2
         have hr3 := aM BR.out 3
         have hr4 := aM BR.out 4
         have DC := aM BR.out 5
         have DD := aM BR.out 6
         have DF := aM BR.out 7
         have DI := aM BR.out 8
         have DJ := aM BR.out 9
         have fJ := fz BR 0
         have fQ := fz BR 1
         have fT := fz BR 2
         have fU := fz BR 3
         have CR := fz BR 4
         have CS := fz BR 5
         have CU := fz BR 6
         have CV := fz BR 7
         have CW := fz BR 8
         have CX := fz BR 9
         have n1 := sH.out
         have n2 := F6.out
         have kL := wM.out
         have n4 := wL.out
         go_wp2_with (first | fail)
         refine bodyPost_ret (eP rfl _ _ gr 59 #[.string ⟨#[]⟩, .int .i64 0, .slice none 0 0, .string ⟨#[]⟩, .slice none 0 0, .slice none 0 0, .bool false, .slice none 0 0, .int .u64 0, .int .i64 0] (0, 0) _ rfl (aU BR) tN rfl (by kernel_rfl)) rfl ?_
         exact DU E2.out (vK (fD (fD HB.out GM.out) GE.out) GR.out)
       · have bw : decide (1 < o2) = false := dF hw1
         have E2 := aC.mk (show R = _ from E.out.trans (iN hw1))
         clear hw1 E
         go_wp2_with (first | fail)
         refine (wR.calls n3 (tK n3) _ (ip KJ.out)).mono ?_
         rintro en sQ ⟨rfl, ⟨nd, hw⟩⟩
         replace BR := jG BR hw
         replace BE := aA (show sQ.heap[ge]? = some (.cells #[.int .i64 0] 34 (0, 0)) from by rw [hw]; exact aU BE)
         replace BM := aA (show sQ.heap[gm]? = some (.cells #[.string n3, .int .i64 kd, .slice A1 x1.length c1, .string d3, .slice A5 x5.length c5, .slice A7 x7.length c7, .bool dO, .slice AT ts.length cT, .int .u64 o2, .int .i64 0] 59 (0, 0)) from by rw [hw]; exact aU BM)
         replace HB := wP HB hw
         replace X1 := aA (show Kd.R (Kd.int .i64) 2 sQ _ _ _ x1 from by rw [hw]; exact L6 X1.out KF.out KE.out nd)
         replace X5 := aA (show Kd.R (Kd.int .i64) 2 sQ _ _ _ x5 from by rw [hw]; exact L6 X5.out KG.out OM.out nd)
         replace X7 := aA (show Kd.R (Kd.int .i64) 2 sQ _ _ _ x7 from by rw [hw]; exact L6 X7.out KH.out VH.out nd)
         replace XT := aA (show Kd.R Kd.string 9 sQ _ _ _ ts from by rw [hw]; exact L6 XT.out VJ.out VI.out nd)
         clear hw jL MW oD yO m1 m2 jS hm0
         by_cases hn : tK n3 = false
         · rw [hn]
           have E3 := aC.mk (show R = (mY, 8) from E2.out.trans (ip hn))
           clear hn
           have hr0 := aM BR.out 0
           have hr1 := aM BR.out 1
           have hr2 := aM BR.out 2
           have hr3 := aM BR.out 3
           have hr4 := aM BR.out 4
           have DC := aM BR.out 5
           have DD := aM BR.out 6
           have DF := aM BR.out 7
           have DI := aM BR.out 8
           have DJ := aM BR.out 9
           have fJ := fz BR 0
           have fQ := fz BR 1
           have fT := fz BR 2
           have fU := fz BR 3
           have CR := fz BR 4
           have CS := fz BR 5
           have CU := fz BR 6
           have CV := fz BR 7
           have CW := fz BR 8
           have CX := fz BR 9
           go_wp2_with (first | fail)
           refine bodyPost_ret (eP rfl _ _ gr 59 #[.string ⟨#[]⟩, .int .i64 0, .slice none 0 0, .string ⟨#[]⟩, .slice none 0 0, .slice none 0 0, .bool false, .slice none 0 0, .int .u64 0, .int .i64 0] (0, 0) _ rfl (aU BR) tN rfl (by kernel_rfl)) rfl ?_
           exact DU E3.out (vK HB.out GR.out)
         · have hn2 : tK n3 = true := by simpa using hn
           have E3 := aC.mk (show R = _ from E2.out.trans (iN hn))
           rw [hn2]
           clear hn hn2 E2
           have hm1 := aM BM.out 1
           go_wp2_with (first | fail)
           refine (oV.calls kd (gF kd) _ rfl).mono ?_
           rintro en _u ⟨rfl, hb⟩
           replace BR := aI BR hb
           replace BM := aI BM hb
           replace BE := aI BE hb
           replace X1 := aA (Kd.gU X1.out hb)
           replace X5 := aA (Kd.gU X5.out hb)
           replace X7 := aA (Kd.gU X7.out hb)
           replace XT := aA (Kd.gU XT.out hb)
           replace HB := hbS HB hb
           clear hb hm1
           by_cases hs : gF kd = 0
           · have bs : (gF kd == 0) = true := beq_iff_eq.2 hs
             have E4 := aC.mk (show R = (mY, 5) from E3.out.trans (ip hs))
             clear hs
             have hr0 := aM BR.out 0
             have hr1 := aM BR.out 1
             have hr2 := aM BR.out 2
             have hr3 := aM BR.out 3
             have hr4 := aM BR.out 4
             have DC := aM BR.out 5
             have DD := aM BR.out 6
             have DF := aM BR.out 7
             have DI := aM BR.out 8
             have DJ := aM BR.out 9
             have fJ := fz BR 0
             have fQ := fz BR 1
             have fT := fz BR 2
             have fU := fz BR 3
             have CR := fz BR 4
             have CS := fz BR 5
             have CU := fz BR 6
             have CV := fz BR 7
             have CW := fz BR 8
             have CX := fz BR 9
             go_wp2_with (first | fail)
             refine bodyPost_ret (eP rfl _ _ gr 59 #[.string ⟨#[]⟩, .int .i64 0, .slice none 0 0, .string ⟨#[]⟩, .slice none 0 0, .slice none 0 0, .bool false, .slice none 0 0, .int .u64 0, .int .i64 0] (0, 0) _ rfl (aU BR) tN rfl (by kernel_rfl)) rfl ?_
             exact DU E4.out (vK HB.out GR.out)
           · have bs : (gF kd == 0) = false := beq_eq_false_iff_ne.2 hs
             have E4 := aC.mk (show R = _ from E3.out.trans (iN hs))
             clear hs E3
             have hm2 := aM BM.out 2
             go_wp2_with (first | fail)
             refine (uF.calls A1 c1 x1 (kE x1).1 (kE x1).2 _ (Kd.jA X1.out).2.2 (Kd.jA X1.out).2.1 rfl).mono ?_
             rintro en _v ⟨rfl, hb⟩
             replace BR := aI BR hb
             replace BM := aI BM hb
             replace BE := aI BE hb
             replace X1 := aA (Kd.gU X1.out hb)
             replace X5 := aA (Kd.gU X5.out hb)
             replace X7 := aA (Kd.gU X7.out hb)
             replace XT := aA (Kd.gU XT.out hb)
             replace HB := hbS HB hb
             clear hb hm2
             have jE := aM BM.out 9
             have R4 := fz BM 9
             have oD := iA BE
             have yO := fz BE 0
             have m1 := RS.out
             have m2 := xM.out
             obtain ⟨z1, hz1⟩ : ∃ z, (kE x1).1 = z := ⟨_, rfl⟩
             obtain ⟨z2, hz2⟩ : ∃ z, (kE x1).2 = z := ⟨_, rfl⟩
             rw [hz1, hz2] at E4 ⊢
             clear hz1 hz2
             go_wp2_with (first | fail)
             obtain ⟨sS, hw⟩ : ∃ wb, wb = (_v.setCell ⟨gm, 9, none⟩ (.int .i64 z1)).setCell ⟨ge, 0, none⟩ (.int .i64 z2) := ⟨_, rfl⟩
             rw [← hw]
             replace BR := jG BR hw
             replace BE := aA (show sS.heap[ge]? = some (.cells #[.int .i64 z2] 34 (0, 0)) from by rw [hw]; exact aU BE)
             replace BM := aA (show sS.heap[gm]? = some (.cells #[.string n3, .int .i64 kd, .slice A1 x1.length c1, .string d3, .slice A5 x5.length c5, .slice A7 x7.length c7, .bool dO, .slice AT ts.length cT, .int .u64 o2, .int .i64 z1] 59 (0, 0)) from by rw [hw]; exact aU BM)
             replace HB := wP HB hw
             replace X1 := aA (show Kd.R (Kd.int .i64) 2 sS _ _ _ x1 from by rw [hw]; exact JX X1.out KF.out KE.out)
             replace X5 := aA (show Kd.R (Kd.int .i64) 2 sS _ _ _ x5 from by rw [hw]; exact JX X5.out KG.out OM.out)
             replace X7 := aA (show Kd.R (Kd.int .i64) 2 sS _ _ _ x7 from by rw [hw]; exact JX X7.out KH.out VH.out)
             replace XT := aA (show Kd.R Kd.string 9 sS _ _ _ ts from by rw [hw]; exact JX XT.out VJ.out VI.out)
             clear hw jE R4 oD yO m1 m2
             have oD := iA BE
             have yO := fz BE 0
             have hr0 := aM BR.out 0
             have hr1 := aM BR.out 1
             have hr2 := aM BR.out 2
             have hr3 := aM BR.out 3
             have hr4 := aM BR.out 4
             have DC := aM BR.out 5
             have DD := aM BR.out 6
             have DF := aM BR.out 7
             have DI := aM BR.out 8
             have DJ := aM BR.out 9
             have fJ := fz BR 0
             have fQ := fz BR 1
             have fT := fz BR 2
             have fU := fz BR 3
             have CR := fz BR 4
             have CS := fz BR 5
             have CU := fz BR 6
             have CV := fz BR 7
             have CW := fz BR 8
             have CX := fz BR 9
             have hm0 := aM BM.out 0
             have hm1 := aM BM.out 1
             have hm2 := aM BM.out 2
             have kG := aM BM.out 3
             have jQ := aM BM.out 4
             have jR := aM BM.out 5
             have kH := aM BM.out 6
             have jL := aM BM.out 7
             have jS := aM BM.out 8
             have jE := aM BM.out 9
             have n1 := sH.out
             have n2 := F6.out
             have n4 := wM.out
             have n5 := wL.out
             go_region
             go_wp2
             refine bodyPost_ret (eP rfl _ _ gr 59 #[.string n3, .int .i64 kd, .slice A1 x1.length c1, .string d3, .slice A5 x5.length c5, .slice A7 x7.length c7, .bool dO, .slice AT ts.length cT, .int .u64 o2, .int .i64 z1] (0, 0) _ rfl (Mj BR.out) tN rfl (by kernel_rfl)) rfl ?_
             rw [E4.out]
             exact ⟨A1, c1, A5, c5, A7, c7, AT, cT, rfl, ME X1.out wu.out wo.out, ME X5.out xe.out xc.out, ME X7.out xh.out xg.out, ME XT.out xm.out xk.out, iO (vK HB.out GR.out)⟩
   · have bF : (F == 0) = false := beq_eq_false_iff_ne.2 hf0
     have bG : (F != 0) = true := bne_iff_ne.2 hf0
     go_wp2_with (first | fail)
     obtain ⟨sP, hw⟩ : ∃ wb, wb = ((yS.setCell ⟨gm, 2, none⟩ (.slice A1 x1.length c1)).setCell ⟨gm, 4, none⟩ (.slice A5 x5.length c5)).setCell ⟨gm, 5, none⟩ (.slice A7 x7.length c7) := ⟨_, rfl⟩
     rw [← hw]
     replace BR := jG BR hw
     replace BE := jG BE hw
     replace BM := aA (show sP.heap[gm]? = some (.cells #[.string n3, .int .i64 kd, .slice A1 x1.length c1, .string d3, .slice A5 x5.length c5, .slice A7 x7.length c7, .bool dO, .slice none 0 0, .int .u64 o2, .int .i64 0] 59 (0, 0)) from by rw [hw]; exact aU BM)
     replace HL := GA HL hw
     replace HB := wP HB hw
     replace X1 := aA (show Kd.R (Kd.int .i64) 2 sP _ _ _ x1 from by rw [hw]; exact D7 X1.out KF.out)
     replace X5 := aA (show Kd.R (Kd.int .i64) 2 sP _ _ _ x5 from by rw [hw]; exact D7 X5.out KG.out)
     replace X7 := aA (show Kd.R (Kd.int .i64) 2 sP _ _ _ x7 from by rw [hw]; exact D7 X7.out KH.out)
     clear hw hm2 MS jQ MU jR MV oD hl0 m1 m2 m3 m4
     have E := aC.mk (show R = (mY, F) from HV.out.trans (ip hf0))
     have oD := iA BE
     have yO := fz BE 0
     have hr0 := aM BR.out 0
     have hr1 := aM BR.out 1
     have hr2 := aM BR.out 2
     have hr3 := aM BR.out 3
     have hr4 := aM BR.out 4
     have DC := aM BR.out 5
     have DD := aM BR.out 6
     have DF := aM BR.out 7
     have DI := aM BR.out 8
     have DJ := aM BR.out 9
     have fJ := fz BR 0
     have fQ := fz BR 1
     have fT := fz BR 2
     have fU := fz BR 3
     have CR := fz BR 4
     have CS := fz BR 5
     have CU := fz BR 6
     have CV := fz BR 7
     have CW := fz BR 8
     have CX := fz BR 9
     have n1 := sH.out
     have n2 := F6.out
     go_region
     go_wp2
     refine bodyPost_ret (eP rfl _ _ gr 59 #[.string ⟨#[]⟩, .int .i64 0, .slice none 0 0, .string ⟨#[]⟩, .slice none 0 0, .slice none 0 0, .bool false, .slice none 0 0, .int .u64 0, .int .i64 0] (0, 0) _ rfl (aU BR) tN rfl (by kernel_rfl)) rfl ?_
     exact DU E.out (iO (vK HB.out GR.out))
end Go.Proofs.YtgmggompdidcoaaGreatDoor.X
