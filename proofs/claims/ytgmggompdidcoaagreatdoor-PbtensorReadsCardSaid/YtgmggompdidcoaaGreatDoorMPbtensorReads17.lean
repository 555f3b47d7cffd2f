import Derived.Test.YtgmggompdidcoaaGreatDoorMPbtensorReads16
namespace Go.Proofs.YtgmggompdidcoaaGreatDoor.X
open Go.RowKit Go.Proofs.YtgmggompdidcoaaGreatDoorW.aX Go.Proofs.YtgmggompdidcoaaGreatDoorW.bJ Go.Proofs.YtgmggompdidcoaaGreatDoorW.bK
attribute [local go_sem] bO bQ bS bU bM bN bP bR
set_option linter.unusedVariables false
set_option linter.unusedSimpArgs false
set_option maxHeartbeats 8000000
set_option maxRecDepth 100000
def _A.f : Option Bool := some true
theorem Wm : cMulBits 4607182418800017408 4611686018427387904 4613937818241073152 4616189618054758400 = some (13840687554816376832, 4621819117588971520) := by decide +kernel
theorem Xk : floatBits .add .f64 13840687554816376832 0 = some 13840687554816376832 := by decide +kernel
theorem Xj : floatBits .add .f64 4621819117588971520 0 = some 4621819117588971520 := by decide +kernel
theorem Vh : IM 13840687554816376832 4621819117588971520 [(4607182418800017408, 4611686018427387904), (4613937818241073152, 4616189618054758400)] = (13840687554816376832, 4621819117588971520, 0) := by decide +kernel
theorem Wj : (FloatKind.f64.format.order 13840687554816376832 13840687554816376832 == some .eq) = true := by decide +kernel
theorem Wl : (FloatKind.f64.format.order 4621819117588971520 4621819117588971520 == some .eq) = true := by decide +kernel
theorem _A.calls (r : Bool) (w : World) (h : _A.f = some r) :
 Calls Tryz.prog 50 #[] w fun e w' => e = .returned (.bool r) ∧ Below w.heap.size w w' := by
 obtain rfl := Option.some.inj h
 have q1 := Wj
 have q2 := Wl
 go_enter Tryz.func50, Tryz.ntmps50
 go_wp2_with (first | (fail))
 refine (Zb.calls _ _ _ _ _ _ _ _ Wm Xk Xj _).mono ?_
 rintro e w9 ⟨rfl, hb⟩
 rw [Vh]
 have HB := aC.mk hb
 clear hb
 go_wp2_with (first | (fail))
 go_ret
 exact ⟨rfl, HB.out⟩
def _B.f : Option Bool := some true
theorem Ul : mI.f 20 ⟨#[97]⟩ 7 [2] (iE [1, -1]) = some 0 := by decide +kernel
theorem Vi : (iE [1, -1]).size = 16 := NJ _
theorem aDl {w : World} {A : Option Addr} {n g : Nat} {xs : List Int} {cs : Array Value} (h : Kd.C (Kd.int .i64) w A n xs) (hb : w.heap[g]? = some (.cells cs 33 (0, 0))) (pW : ∀ ad, A = some ad → 0 < n → ad.block ≠ g) (a b c d : Value) : Kd.C (Kd.int .i64) ((((w.setCell ⟨g, 0, none⟩ a).setCell ⟨g, 1, none⟩ b).setCell ⟨g, 2, none⟩ c).setCell ⟨g, 3, none⟩ d) A n xs := by
 have h0 := Kd.PH (enc := Value.int .i64) (d := (0 : Int)) (h1 := fun _ => rfl) h
 refine Kd.K6 (d := (0 : Int)) (h1 := fun _ => rfl) ⟨h0.1, h0.2.1, fun hn => ?_⟩
 obtain ⟨ad, e, hc⟩ := h0.2.2 hn
 refine ⟨ad, e, fun j hj => ?_⟩
 have hne := pW ad e hn
 have hb2 : (ad.add j).block = ad.block := by unfold Addr.add; split <;> rfl
 rw [World.cell?_setCell_other _ _ _ _ (by intro he; exact hne (by rw [← hb2, ← he])), World.cell?_setCell_other _ _ _ _ (by intro he; exact hne (by rw [← hb2, ← he])), World.cell?_setCell_other _ _ _ _ (by intro he; exact hne (by rw [← hb2, ← he])), World.cell?_setCell_other _ _ _ _ (by intro he; exact hne (by rw [← hb2, ← he]))]
 exact hc j hj
theorem _B.calls (r : Bool) (w : World) (h : _B.f = some r) :
 Calls Tryz.prog 19 #[] w fun e w' => e = .returned (.bool r) ∧ Below w.heap.size w w' := by
 obtain rfl := Option.some.inj h
 clear h
 go_enter Tryz.func19, Tryz.ntmps19
 go_wp2_with (first | (fail))
 have hb0 : ((w.alloc (Obj.cells #[Value.int IntKind.i64 2] 2)).alloc (Obj.cells #[Value.int IntKind.i64 1, Value.int IntKind.i64 (-1)] 2)).heap[w.heap.size]? = some (Obj.cells #[Value.int IntKind.i64 2] 2) := DV (vL w _) _
 have hb1 : ((w.alloc (Obj.cells #[Value.int IntKind.i64 2] 2)).alloc (Obj.cells #[Value.int IntKind.i64 1, Value.int IntKind.i64 (-1)] 2)).heap[w.heap.size + 1]? = some (Obj.cells #[Value.int IntKind.i64 1, Value.int IntKind.i64 (-1)] 2) := by
  have h := vL (w.alloc (Obj.cells #[Value.int IntKind.i64 2] 2)) (Obj.cells #[Value.int IntKind.i64 1, Value.int IntKind.i64 (-1)] 2)
  rw [DT] at h; exact h
 have r0 : Kd.C (Kd.int .i64) ((w.alloc (Obj.cells #[Value.int IntKind.i64 2] 2)).alloc (Obj.cells #[Value.int IntKind.i64 1, Value.int IntKind.i64 (-1)] 2)) (some ⟨w.heap.size, 0, none⟩) ([2] : List Int).length [2] := Kd.K6 (d := (0 : Int)) (h1 := fun _ => rfl) ⟨rfl, by decide, fun _ => ⟨_, rfl, fun j hj => by
  have hj0 : j = 0 := by simp at hj; omega
  subst hj0
  exact (aM hb0 0).trans rfl⟩⟩
 have r1 : Kd.C (Kd.int .i64) ((w.alloc (Obj.cells #[Value.int IntKind.i64 2] 2)).alloc (Obj.cells #[Value.int IntKind.i64 1, Value.int IntKind.i64 (-1)] 2)) (some ⟨w.heap.size + 1, 0, none⟩) ([1, -1] : List Int).length [1, -1] := Kd.K6 (d := (0 : Int)) (h1 := fun _ => rfl) ⟨rfl, by decide, fun _ => ⟨_, rfl, fun j hj => by
  have hj0 : j = 0 ∨ j = 1 := by simp at hj; omega
  rcases hj0 with rfl | rfl
  · exact (aM hb1 0).trans rfl
  · exact (aM hb1 1).trans rfl⟩⟩
 have HB := aC.mk (iD (iD (Below.refl w.heap.size w) (Obj.cells #[Value.int IntKind.i64 2] 2)) (Obj.cells #[Value.int IntKind.i64 1, Value.int IntKind.i64 (-1)] 2))
 clear hb0 hb1
 refine (Cf.calls ⟨#[97]⟩ _ 1 [2] _ 2 [1, -1] _ r0 (Nat.le_refl _) r1 (Nat.le_refl _) (by decide) (by decide) (by simp)).mono ?_
 rintro e w1 ⟨v2, rfl, hR, hb⟩
 obtain ⟨A2, cp2, rfl⟩ := Kd.jF hR
 have bI := aC.mk (jV HB.out hb)
 obtain ⟨A3, c3, he, hc3, hC⟩ := Kd.XX hR
 cases he
 have HC := aC.mk hC
 have HCC := aC.mk hc3
 have HF := aC.mk (show ∀ ad, A2 = some ad → ad.block < w1.heap.size from fun ad e => by
  obtain ⟨ad2, e2, h2⟩ := (Kd.PH (enc := Value.int .i64) (d := (0 : Int)) (h1 := fun _ => rfl) hC).2.2 (by decide)
  rw [e] at e2; cases e2
  exact World.block_lt_of_cell? w1 _ (h2 0 (by decide)))
 clear HB hb hR hC hc3 r0 r1
 have HB := bI
 clear bI
 have hsz := aC.mk Vi
 generalize hdd : iE [1, -1] = dd at hsz ⊢
 have HD := aC.mk hdd
 clear hdd
 go_wp2_with (first | ((with_reducible refine cK (N := 1) rfl ?_); refine Ef ?hg (N := 1) ?hd (cs := #[.string ⟨#[]⟩, .int .i64 0, .slice none 0 0, .string ⟨#[]⟩]) (t := 33) ?hr ?_; (case hd => rfl); (case hg => rfl); (case hr => first | (go_simp; done) | (go_simp; rfl)); intro gT hg wT aG hb; have Rp := aC.mk (jV HB.out hb); have Rq := aC.mk aG; have gQ := aC.mk (by rw [hg]; exact iI HB.out : w.heap.size ≤ gT); have Rs := aC.mk (Kd.gN HC.out hb); clear HB HC; have HB := Rp; have kF := Rq; have r_ := gQ; have HC := Rs; clear Rp Rq gQ Rs; have HN := aC.mk (show ∀ ad, A2 = some ad → 0 < ([2] : List Int).length → ad.block ≠ gT from fun ad e _ => by have := HF.out ad e; omega); clear hb aG hg; have c0 : wT.cell? ⟨gT, 0, none⟩ = some (.string ⟨#[]⟩) := (aM kF.out 0).trans rfl; have f0 := eZ kF.out 0; have c1 : wT.cell? ⟨gT, 1, none⟩ = some (.int .i64 0) := (aM kF.out 1).trans rfl; have f1 := eZ kF.out 1; have c2 : wT.cell? ⟨gT, 2, none⟩ = some (.slice none 0 0) := (aM kF.out 2).trans rfl; have f2 := eZ kF.out 2; have c3 : wT.cell? ⟨gT, 3, none⟩ = some (.string ⟨#[]⟩) := (aM kF.out 3).trans rfl; have f3 := eZ kF.out 3) | (fail))
 refine (_y.calls true _ rfl).mono ?_
 rintro e w4 ⟨rfl, hb⟩
 have bI := aC.mk (jV (fD (fD (fD (fD HB.out r_.out) r_.out) r_.out) r_.out) hb)
 have bV := aC.mk (show w4.heap[gT]? = some (.cells #[.string ⟨#[97]⟩, .int .i64 7, .slice A2 ([2] : List Int).length cp2, .string dd] 33 (0, 0)) from oK (lH (lH (lH (lH kF.out 0 _ rfl) 1 _ rfl) 2 _ rfl) 3 _ rfl) hb)
 have gB := aC.mk (Kd.gN (aDl HC.out kF.out HN.out _ _ _ _) hb)
 clear HB kF HC hb
 have HB := bI
 have kF := bV
 have HC := gB
 clear bI bV gB
 have aIm : w4.cell? ⟨gT, 0, none⟩ = some (.string ⟨#[97]⟩) := (aM kF.out 0).trans rfl
 have aIG := eZ kF.out 0
 have aIp : w4.cell? ⟨gT, 1, none⟩ = some (.int .i64 7) := (aM kF.out 1).trans rfl
 have aIJ := eZ kF.out 1
 have aIs : w4.cell? ⟨gT, 2, none⟩ = some (.slice A2 ([2] : List Int).length cp2) := (aM kF.out 2).trans rfl
 have aIM := eZ kF.out 2
 have aIv : w4.cell? ⟨gT, 3, none⟩ = some (.string dd) := (aM kF.out 3).trans rfl
 have aIP := eZ kF.out 3
 go_wp2_with (first | (fail))
 refine (_z.calls true _ rfl).mono ?_
 rintro e w5 ⟨rfl, hb⟩
 have bI := aC.mk (jV (HB.out) hb)
 have bV := aC.mk (show w5.heap[gT]? = some (.cells #[.string ⟨#[97]⟩, .int .i64 7, .slice A2 ([2] : List Int).length cp2, .string dd] 33 (0, 0)) from oK kF.out hb)
 have gB := aC.mk (Kd.gN (HC.out) hb)
 clear HB kF HC hb
 have HB := bI
 have kF := bV
 have HC := gB
 clear bI bV gB
 have aIn : w5.cell? ⟨gT, 0, none⟩ = some (.string ⟨#[97]⟩) := (aM kF.out 0).trans rfl
 have aIH := eZ kF.out 0
 have aIq : w5.cell? ⟨gT, 1, none⟩ = some (.int .i64 7) := (aM kF.out 1).trans rfl
 have aIK := eZ kF.out 1
 have aIt : w5.cell? ⟨gT, 2, none⟩ = some (.slice A2 ([2] : List Int).length cp2) := (aM kF.out 2).trans rfl
 have aIN := eZ kF.out 2
 have aIw : w5.cell? ⟨gT, 3, none⟩ = some (.string dd) := (aM kF.out 3).trans rfl
 have aIQ := eZ kF.out 3
 go_wp2_with (first | (fail))
 refine (_A.calls true _ rfl).mono ?_
 rintro e w6 ⟨rfl, hb⟩
 have bI := aC.mk (jV (HB.out) hb)
 have bV := aC.mk (show w6.heap[gT]? = some (.cells #[.string ⟨#[97]⟩, .int .i64 7, .slice A2 ([2] : List Int).length cp2, .string dd] 33 (0, 0)) from oK kF.out hb)
 have gB := aC.mk (Kd.gN (HC.out) hb)
 clear HB kF HC hb
 have HB := bI
 have kF := bV
 have HC := gB
 clear bI bV gB
 have aIo : w6.cell? ⟨gT, 0, none⟩ = some (.string ⟨#[97]⟩) := (aM kF.out 0).trans rfl
 have aII := eZ kF.out 0
 have aIr : w6.cell? ⟨gT, 1, none⟩ = some (.int .i64 7) := (aM kF.out 1).trans rfl
 have aIL := eZ kF.out 1
 have aIu : w6.cell? ⟨gT, 2, none⟩ = some (.slice A2 ([2] : List Int).length cp2) := (aM kF.out 2).trans rfl
 have aIO := eZ kF.out 2
 have aIx : w6.cell? ⟨gT, 3, none⟩ = some (.string dd) := (aM kF.out 3).trans rfl
 have aIR := eZ kF.out 3
 have q16 : ((dd.size : Int) == 16) = true := beq_iff_eq.2 (by have := hsz.out; omega)
 have q17 := hsz.out
 go_wp2_with (first | (fail))
 refine (mI.calls 20 ⟨#[97]⟩ 7 A2 cp2 [2] dd 0 _ HC.out HCC.out (by rw [← HD.out]; exact Ul)).mono ?_
 rintro e w7 ⟨rfl, hb⟩
 have bI := aC.mk (jV HB.out hb)
 clear HB hb
 have HB := bI
 go_wp2_with (first | (fail))
 go_ret
 exact ⟨rfl, HB.out⟩
def R9.f  : Option (Bool) := (lT.f (⟨#[172, 2, 120]⟩ : ByteArray)).bind fun gY => ((mW.f 300).bind fun t104 => (if t104.toList = ([172, 2] : List UInt8) then (if gY.1 = 300 then (if gY.2.1 = 2 then (some (gY.2.2 == 0)) else (some false)) else (some false)) else (some false)))
theorem R9.calls  (r : Bool) (w : World) (h : R9.f  = some r) :
 Calls Tryz.prog 83 #[] w fun e w' => e = .returned (.bool r) ∧ Below w.heap.size w w' := by
 have HB := aA (Below.refl w.heap.size w); have H : ((lT.f (⟨#[172, 2, 120]⟩ : ByteArray)).bind fun gY => ((mW.f 300).bind fun t104 => (if t104.toList = ([172, 2] : List UInt8) then (if gY.1 = 300 then (if gY.2.1 = 2 then (some (gY.2.2 == 0)) else (some false)) else (some false)) else (some false)))) = some r := h; clear h; replace H := Option.bind_eq_some_iff.mp H; obtain ⟨⟨t101, t102, t103⟩, sF, H⟩ := H; replace H : ((mW.f 300).bind fun t104 => (if t104.toList = ([172, 2] : List UInt8) then (if t101 = 300 then (if t102 = 2 then (some (t103 == 0)) else (some false)) else (some false)) else (some false))) = some r := H; have A1 := aA sF; clear sF; replace H := bnd H; obtain ⟨t104, A2, H⟩ := H
 by_cases c3 : t104.toList = ([172, 2] : List UInt8)
 ·
  rw [ip c3] at H; obtain ⟨gL, rW⟩ := dH c3; clear c3
  by_cases c4 : t101 = 300
  ·
   rw [ip c4] at H; obtain ⟨fP, oN⟩ := dH c4; clear c4
   by_cases c5 : t102 = 2
   ·
    rw [ip c5] at H; obtain ⟨iH, lF⟩ := dH c5; clear c5; obtain rfl := Option.some.inj H
    go_enter Tryz.func83, Tryz.ntmps83
    go_wp2_with (first | ((with_reducible refine dJ (f := 97) rfl ?_); refine dV (some 5) rfl rfl Tryz.func97 (by kernel_rfl) rfl #[.string ⟨#[172, 2, 120]⟩] rfl ?_; (with_reducible refine (lT.calls (⟨#[172, 2, 120]⟩ : ByteArray) t101 t102 t103 _ A1.out).mono ?_); rintro e w' ⟨rfl, ⟨nd, rfl⟩⟩; refine ⟨_, rfl, ?_⟩) | ((with_reducible refine dJ (f := 72) rfl ?_); refine dV (some 9) rfl rfl Tryz.func72 (by kernel_rfl) rfl #[.int .u64 300] rfl ?_; (with_reducible refine (mW.calls 300 t104 _ A2.out).mono ?_); rintro e w6 ⟨rfl, hb⟩; refine ⟨_, rfl, ?_⟩; replace HB := hbS HB hb; (try clear hb)))
    go_ret
    exact ⟨eH, aJ HB⟩
   ·
    rw [iN c5] at H; have iH := beq_eq_false_iff_ne.mpr c5; have lF := bne_iff_ne.mpr c5; obtain rfl := Option.some.inj H
    go_enter Tryz.func83, Tryz.ntmps83
    go_wp2_with (first | ((with_reducible refine dJ (f := 97) rfl ?_); refine dV (some 5) rfl rfl Tryz.func97 (by kernel_rfl) rfl #[.string ⟨#[172, 2, 120]⟩] rfl ?_; (with_reducible refine (lT.calls (⟨#[172, 2, 120]⟩ : ByteArray) t101 t102 t103 _ A1.out).mono ?_); rintro e w' ⟨rfl, ⟨nd, rfl⟩⟩; refine ⟨_, rfl, ?_⟩) | ((with_reducible refine dJ (f := 72) rfl ?_); refine dV (some 9) rfl rfl Tryz.func72 (by kernel_rfl) rfl #[.int .u64 300] rfl ?_; (with_reducible refine (mW.calls 300 t104 _ A2.out).mono ?_); rintro e w7 ⟨rfl, hb⟩; refine ⟨_, rfl, ?_⟩; replace HB := hbS HB hb; (try clear hb)))
    go_ret
    exact ⟨eH, aJ HB⟩
  ·
   rw [iN c4] at H; have fP := beq_eq_false_iff_ne.mpr c4; have oN := bne_iff_ne.mpr c4; obtain rfl := Option.some.inj H
   go_enter Tryz.func83, Tryz.ntmps83
   go_wp2_with (first | ((with_reducible refine dJ (f := 97) rfl ?_); refine dV (some 5) rfl rfl Tryz.func97 (by kernel_rfl) rfl #[.string ⟨#[172, 2, 120]⟩] rfl ?_; (with_reducible refine (lT.calls (⟨#[172, 2, 120]⟩ : ByteArray) t101 t102 t103 _ A1.out).mono ?_); rintro e w' ⟨rfl, ⟨nd, rfl⟩⟩; refine ⟨_, rfl, ?_⟩) | ((with_reducible refine dJ (f := 72) rfl ?_); refine dV (some 9) rfl rfl Tryz.func72 (by kernel_rfl) rfl #[.int .u64 300] rfl ?_; (with_reducible refine (mW.calls 300 t104 _ A2.out).mono ?_); rintro e w8 ⟨rfl, hb⟩; refine ⟨_, rfl, ?_⟩; replace HB := hbS HB hb; (try clear hb)))
   go_ret
   exact ⟨eH, aJ HB⟩
 ·
  rw [iN c3] at H; have gL := beq_eq_false_iff_ne.mpr c3; have rW := bne_iff_ne.mpr c3; obtain rfl := Option.some.inj H
  go_enter Tryz.func83, Tryz.ntmps83
  go_wp2_with (first | ((with_reducible refine dJ (f := 97) rfl ?_); refine dV (some 5) rfl rfl Tryz.func97 (by kernel_rfl) rfl #[.string ⟨#[172, 2, 120]⟩] rfl ?_; (with_reducible refine (lT.calls (⟨#[172, 2, 120]⟩ : ByteArray) t101 t102 t103 _ A1.out).mono ?_); rintro e w' ⟨rfl, ⟨nd, rfl⟩⟩; refine ⟨_, rfl, ?_⟩) | ((with_reducible refine dJ (f := 72) rfl ?_); refine dV (some 9) rfl rfl Tryz.func72 (by kernel_rfl) rfl #[.int .u64 300] rfl ?_; (with_reducible refine (mW.calls 300 t104 _ A2.out).mono ?_); rintro e w9 ⟨rfl, hb⟩; refine ⟨_, rfl, ?_⟩; replace HB := hbS HB hb; (try clear hb)))
  go_ret
  exact ⟨eH, aJ HB⟩
def yU.f : Option Bool := some true
theorem yU.ev (r) (h : yU.f = some r) : ∃ k : Nat, R9.f = some r := by
 refine ⟨0, ?_⟩
 rw [← h]
 have h1 : lT.f ⟨#[172, 2, 120]⟩ = some (300, 2, 0) := by
  have : eD ⟨#[172, 2, 120]⟩ = (300, 2, 0) := by decide
  unfold lT.f; rw [this]; rfl
 have h2 : mW.f 300 = some ⟨#[172, 2]⟩ := by
  unfold mW.f
  rw [ip (by decide)]
  have : uT (300 : Int).toNat = ⟨#[172, 2]⟩ := by
   show strOfNums ((tX 300).map Int.ofNat) = _
   rw [TT (by decide), TU (by decide)]; rfl
  rw [this]
 unfold R9.f yU.f
 rw [h1, h2]
 simp only [Option.bind_some]
 rw [ip (by rw [ByteArray.toList_eq])]
 rfl
theorem yU.calls  (r : Bool) (w : World) (h : yU.f  = some r) :
 Calls Tryz.prog 83 #[] w fun e w' => e = .returned (.bool r) ∧ Below w.heap.size w w' := by
 obtain ⟨k, hk⟩ := yU.ev  _ h
 exact R9.calls r w hk
theorem aEc (d : Nat) (w : World) (x0 y0 : Int) (x1 y1 : Int) (x2 y2 : Int) (x3 y3 : ByteArray) :
 (Op.equalIn (d + 2) 95 (.agg #[.int .i64 x0, .int .i64 x1, .int .u64 x2, .string x3]) (.agg #[.int .i64 y0, .int .i64 y1, .int .u64 y2, .string y3])).run Tryz.prog w = .ok (x0 == y0 && (x1 == y1 && (x2 == y2 && (x3.toList == y3.toList)))) w := by
 refine aCU Tryz.underlying95 (by kernel_rfl) ?_
 refine ak (by rfl) (by go_simp; rfl) (by go_simp; rfl) (by go_simp) ?_
 refine ak (by rfl) (by go_simp; rfl) (by go_simp; rfl) (by go_simp) ?_
 refine ak (by rfl) (by go_simp; rfl) (by go_simp; rfl) (by go_simp) ?_
 exact aAk (by rfl) (by go_simp; rfl) (by go_simp; rfl) (by go_simp)
section
attribute [local go_sem high] aEc
def SA.f  : Option (Bool) := (wS.f (⟨#[8, 150, 1]⟩ : ByteArray)).bind fun gY => ((yU.f).bind fun t105 => (if t105 = true then (if gY.2 = 0 then (if (gY.1.length : Int) = 1 then (if 0 < (gY.1.length : Int) then (some (((bY gY.1 0).f0) == 1 && (((bY gY.1 0).f1) == 0 && (((bY gY.1 0).f2) == 150 && ((((bY gY.1 0).f3).toList) == ([] : List UInt8)))))) else (none)) else (some false)) else (some false)) else (some false)))
theorem SA.calls  (r : Bool) (w : World) (h : SA.f  = some r) :
 Calls Tryz.prog 46 #[] w fun e w' => e = .returned (.bool r) ∧ Below w.heap.size w w' := by
 have EB := Tryz.underlying95; have HB := aA (Below.refl w.heap.size w); have H : ((wS.f (⟨#[8, 150, 1]⟩ : ByteArray)).bind fun gY => ((yU.f).bind fun t105 => (if t105 = true then (if gY.2 = 0 then (if (gY.1.length : Int) = 1 then (if 0 < (gY.1.length : Int) then (some (((bY gY.1 0).f0) == 1 && (((bY gY.1 0).f1) == 0 && (((bY gY.1 0).f2) == 150 && ((((bY gY.1 0).f3).toList) == ([] : List UInt8)))))) else (none)) else (some false)) else (some false)) else (some false)))) = some r := h; clear h; replace H := Option.bind_eq_some_iff.mp H; obtain ⟨⟨t101, t102⟩, sF, H⟩ := H; replace H : ((yU.f).bind fun t105 => (if t105 = true then (if t102 = 0 then (if (t101.length : Int) = 1 then (if 0 < (t101.length : Int) then (some (((bY t101 0).f0) == 1 && (((bY t101 0).f1) == 0 && (((bY t101 0).f2) == 150 && ((((bY t101 0).f3).toList) == ([] : List UInt8)))))) else (none)) else (some false)) else (some false)) else (some false))) = some r := H; have A1 := aA sF; clear sF; replace H := bnd H; obtain ⟨t105, A2, H⟩ := H
 by_cases c3 : t105 = true
 ·
  subst c3; have H1 : (if t102 = 0 then (if (t101.length : Int) = 1 then (if 0 < (t101.length : Int) then (some (((bY t101 0).f0) == 1 && (((bY t101 0).f1) == 0 && (((bY t101 0).f2) == 150 && ((((bY t101 0).f3).toList) == ([] : List UInt8)))))) else (none)) else (some false)) else (some false)) = some r := by rw [ip rfl] at H; exact H
  clear H; have H := H1; clear H1
  by_cases c4 : t102 = 0
  ·
   rw [ip c4] at H; obtain ⟨fP, oN⟩ := dH c4; clear c4
   by_cases c5 : (t101.length : Int) = 1
   ·
    rw [ip c5] at H; obtain ⟨iH, lF⟩ := dH c5; clear c5; replace H := dU H; obtain ⟨c6, H⟩ := H; have kP := dT c6; have wD : decide (0 < t101.length) = true := dT (by omega); clear c6; obtain rfl := Option.some.inj H
    go_enter Tryz.func46, Tryz.ntmps46
    go_wp2_with (first | ((with_reducible refine dJ (f := 51) rfl ?_); refine dV (some 4) rfl rfl Tryz.func51 (by kernel_rfl) rfl #[.string ⟨#[8, 150, 1]⟩] rfl ?_; (with_reducible refine (wS.calls (⟨#[8, 150, 1]⟩ : ByteArray) t101 t102 _ A1.out).mono ?_); rintro e w7 ⟨KD, rfl, ho0, hb⟩; refine ⟨_, rfl, ?_⟩; have lY := aA (Kd.nV ho0 (iI (aJ HB))); replace HB := hbS HB hb; (try clear hb); (try clear ho0)) | ((with_reducible refine dJ (f := 83) rfl ?_); refine dV (some 7) rfl rfl Tryz.func83 (by kernel_rfl) rfl #[] rfl ?_; (with_reducible refine (yU.calls  true _ A2.out).mono ?_); rintro e w8 ⟨rfl, hb⟩; refine ⟨_, rfl, ?_⟩; replace lY := aA (Kd.gU (dZ lY) hb); replace HB := hbS HB hb; (try clear hb); obtain ⟨Ao9, co9, eo9⟩ := Kd.jF lY.out; subst eo9; have uq : 0 ≤ (0 : Int) := (by omega); have uw : 0 < (t101.length : Int) := aK; obtain ⟨aHz, aEZ, iq, iw, iy, ja⟩ := E8 (Kd.jA lY.out).2.2 0 uq uw; cases aEZ; have aH8 : (0 < t101.length) = True := eT (by omega); (try rw [show ((0 : Int)).toNat = 0 from rfl] at iq); (try rw [show 0 * 4 = 0 from rfl] at iq); (try rw [Addr.add_zero'] at iq); (try rw [show ((0 : Int)).toNat = 0 from rfl] at iw); (try rw [show 0 * 4 = 0 from rfl] at iw); (try rw [Addr.add_zero'] at iw); (try rw [show ((0 : Int)).toNat = 0 from rfl] at iy); (try rw [show 0 * 4 = 0 from rfl] at iy); (try rw [Addr.add_zero'] at iy); (try rw [show ((0 : Int)).toNat = 0 from rfl] at ja); (try rw [show 0 * 4 = 0 from rfl] at ja); (try rw [Addr.add_zero'] at ja); replace uq := eT uq; replace uw := eT uw))
    go_ret
    exact ⟨eH, aJ HB⟩
   ·
    rw [iN c5] at H; have iH := beq_eq_false_iff_ne.mpr c5; have lF := bne_iff_ne.mpr c5; obtain rfl := Option.some.inj H
    go_enter Tryz.func46, Tryz.ntmps46
    go_wp2_with (first | ((with_reducible refine dJ (f := 51) rfl ?_); refine dV (some 4) rfl rfl Tryz.func51 (by kernel_rfl) rfl #[.string ⟨#[8, 150, 1]⟩] rfl ?_; (with_reducible refine (wS.calls (⟨#[8, 150, 1]⟩ : ByteArray) t101 t102 _ A1.out).mono ?_); rintro e O3 ⟨KD, rfl, ho0, hb⟩; refine ⟨_, rfl, ?_⟩; have lY := aA (Kd.nV ho0 (iI (aJ HB))); replace HB := hbS HB hb; (try clear hb); (try clear ho0)) | ((with_reducible refine dJ (f := 83) rfl ?_); refine dV (some 7) rfl rfl Tryz.func83 (by kernel_rfl) rfl #[] rfl ?_; (with_reducible refine (yU.calls  true _ A2.out).mono ?_); rintro e JE ⟨rfl, hb⟩; refine ⟨_, rfl, ?_⟩; replace lY := aA (Kd.gU (dZ lY) hb); replace HB := hbS HB hb; (try clear hb); obtain ⟨aH9, aIz, aE4⟩ := Kd.jF lY.out; subst aE4))
    go_ret
    exact ⟨eH, aJ HB⟩
  ·
   rw [iN c4] at H; have fP := beq_eq_false_iff_ne.mpr c4; have oN := bne_iff_ne.mpr c4; obtain rfl := Option.some.inj H
   go_enter Tryz.func46, Tryz.ntmps46
   go_wp2_with (first | ((with_reducible refine dJ (f := 51) rfl ?_); refine dV (some 4) rfl rfl Tryz.func51 (by kernel_rfl) rfl #[.string ⟨#[8, 150, 1]⟩] rfl ?_; (with_reducible refine (wS.calls (⟨#[8, 150, 1]⟩ : ByteArray) t101 t102 _ A1.out).mono ?_); rintro e JF ⟨KD, rfl, ho0, hb⟩; refine ⟨_, rfl, ?_⟩; have lY := aA (Kd.nV ho0 (iI (aJ HB))); replace HB := hbS HB hb; (try clear hb); (try clear ho0)) | ((with_reducible refine dJ (f := 83) rfl ?_); refine dV (some 7) rfl rfl Tryz.func83 (by kernel_rfl) rfl #[] rfl ?_; (with_reducible refine (yU.calls  true _ A2.out).mono ?_); rintro e R6 ⟨rfl, hb⟩; refine ⟨_, rfl, ?_⟩; replace lY := aA (Kd.gU (dZ lY) hb); replace HB := hbS HB hb; (try clear hb)))
   go_ret
   exact ⟨eH, aJ HB⟩
 ·
  replace c3 := Bool.eq_false_iff.mpr c3; subst c3; have H1 : (some false) = some r := by rw [iN (show ¬ (false = true) by decide)] at H; exact H
  clear H; have H := H1; clear H1; obtain rfl := Option.some.inj H
  go_enter Tryz.func46, Tryz.ntmps46
  go_wp2_with (first | ((with_reducible refine dJ (f := 51) rfl ?_); refine dV (some 4) rfl rfl Tryz.func51 (by kernel_rfl) rfl #[.string ⟨#[8, 150, 1]⟩] rfl ?_; (with_reducible refine (wS.calls (⟨#[8, 150, 1]⟩ : ByteArray) t101 t102 _ A1.out).mono ?_); rintro e O5 ⟨KD, rfl, ho0, hb⟩; refine ⟨_, rfl, ?_⟩; have lY := aA (Kd.nV ho0 (iI (aJ HB))); replace HB := hbS HB hb; (try clear hb); (try clear ho0)) | ((with_reducible refine dJ (f := 83) rfl ?_); refine dV (some 7) rfl rfl Tryz.func83 (by kernel_rfl) rfl #[] rfl ?_; (with_reducible refine (yU.calls  false _ A2.out).mono ?_); rintro e w16 ⟨rfl, hb⟩; refine ⟨_, rfl, ?_⟩; replace lY := aA (Kd.gU (dZ lY) hb); replace HB := hbS HB hb; (try clear hb)))
  go_ret
  exact ⟨eH, aJ HB⟩
end
def yV.f : Option Bool := some true
theorem Ua : eX ⟨#[8, 150, 1]⟩ = ([(1, 0, 150, ⟨#[]⟩)], 0) := by
 have h1 : l6 ⟨#[8, 150, 1]⟩ = ((1, 0, 150, ⟨#[]⟩), 3, 0) := by
  have e1 : eD ⟨#[8, 150, 1]⟩ = (8, 1, 0) := by decide
  have e2 : eD (ByteArray.extract ⟨#[8, 150, 1]⟩ 1 (ByteArray.size ⟨#[8, 150, 1]⟩)) = (150, 2, 0) := by decide
  unfold l6
  simp only [e1]
  rw [iN (by simp), iN (by simp), ip (by simp)]
  simp only [e2]
  rfl
 unfold eX
 rw [iN (by decide), show ByteArray.size ⟨#[8, 150, 1]⟩ = 3 from rfl, lX, iN (by decide), h1]
 have h2 : (ByteArray.extract ⟨#[8, 150, 1]⟩ 3 (ByteArray.size ⟨#[8, 150, 1]⟩)).size = 0 := by decide
 simp [lX, h2]
theorem yV.ev (r) (h : yV.f = some r) : ∃ k : Nat, SA.f = some r := by
 refine ⟨0, ?_⟩
 rw [← h]
 unfold SA.f yV.f
 have e : wS.f ⟨#[8, 150, 1]⟩ = some ([toP (1, 0, 150, ⟨#[]⟩)], 0) := by
  unfold wS.f
  rw [ip (by decide), Ua]; rfl
 rw [e]
 simp only [Option.bind_some, yU.f, if_true]
 rw [ip (by rfl), ip (by decide)]
 have : (toP (1, 0, 150, ⟨#[]⟩)).f3.toList = ([] : List UInt8) := toList_nil.2 rfl
 simp only [bY, Int.toNat_zero, List.getD_cons_zero]
 rw [this]
 rfl
theorem yV.calls  (r : Bool) (w : World) (h : yV.f  = some r) :
 Calls Tryz.prog 46 #[] w fun e w' => e = .returned (.bool r) ∧ Below w.heap.size w w' := by
 obtain ⟨k, hk⟩ := yV.ev  _ h
 exact SA.calls r w hk
def SB.f  : Option (Bool) := (wV.f (([(⟨1, 2, 0, (⟨#[1, 255, 255, 255, 255, 255, 255, 255, 255, 255, 1]⟩ : ByteArray)⟩ : dK), (⟨1, 0, 5, (⟨#[]⟩ : ByteArray)⟩ : dK)] : List (dK))) 1).bind fun kW => ((yV.f).bind fun t108 => (if t108 = true then (if kW.2 = 0 then ((uZ.f kW.1 (([1, (-1), 5] : List Int))).bind fun t112 => (some t112)) else (some false)) else (some false)))
theorem SB.calls  (r : Bool) (w : World) (h : SB.f  = some r) :
 Calls Tryz.prog 18 #[] w fun e w' => e = .returned (.bool r) ∧ Below w.heap.size w w' := by
 have EB := Tryz.underlying95
 have HB := aC.mk (Below.refl w.heap.size w)
 have H : ((wV.f (([(⟨1, 2, 0, (⟨#[1, 255, 255, 255, 255, 255, 255, 255, 255, 255, 1]⟩ : ByteArray)⟩ : dK), (⟨1, 0, 5, (⟨#[]⟩ : ByteArray)⟩ : dK)] : List (dK))) 1).bind fun kW => ((yV.f).bind fun t108 => (if t108 = true then (if kW.2 = 0 then ((uZ.f kW.1 (([1, (-1), 5] : List Int))).bind fun t112 => (some t112)) else (some false)) else (some false)))) = some r := h
 clear h
 obtain ⟨y101, hy101⟩ : ∃ y_ : List (dK), y_ = (([(⟨1, 2, 0, (⟨#[1, 255, 255, 255, 255, 255, 255, 255, 255, 255, 1]⟩ : ByteArray)⟩ : dK), (⟨1, 0, 5, (⟨#[]⟩ : ByteArray)⟩ : dK)] : List (dK))) := ⟨_, rfl⟩
 replace H : ((wV.f y101 1).bind fun kW => ((yV.f).bind fun t108 => (if t108 = true then (if kW.2 = 0 then ((uZ.f kW.1 (([1, (-1), 5] : List Int))).bind fun t112 => (some t112)) else (some false)) else (some false)))) = some r := by first | (rw [hy101]; with_reducible exact H) | (have fI := (Option.bind_some _ _).symm.trans H; rw [hy101]; with_reducible exact fI) | (have fI := (Option.bind_some _ _).symm.trans H; with_reducible exact fI) | with_reducible exact H | (rw [hy101]; exact H) | exact H
 have AX := aC.mk hy101
 clear hy101
 replace H := Option.bind_eq_some_iff.mp H
 obtain ⟨⟨t104, t105⟩, sF, H⟩ := H
 replace H : ((yV.f).bind fun t108 => (if t108 = true then (if t105 = 0 then ((uZ.f t104 (([1, (-1), 5] : List Int))).bind fun t112 => (some t112)) else (some false)) else (some false))) = some r := H
 have A1 := aC.mk sF
 clear sF
 replace H := Option.bind_eq_some_iff.mp H
 obtain ⟨t108, I6, H⟩ := H
 replace H : (if t108 = true then (if t105 = 0 then ((uZ.f t104 (([1, (-1), 5] : List Int))).bind fun t112 => (some t112)) else (some false)) else (some false)) = some r := H
 have A2 := aC.mk I6
 clear I6
 by_cases c3 : t108 = true
 ·
  subst c3
  have H1 : (if t105 = 0 then ((uZ.f t104 (([1, (-1), 5] : List Int))).bind fun t112 => (some t112)) else (some false)) = some r := by rw [ip rfl] at H; exact H
  clear H
  have H := H1
  clear H1
  by_cases c4 : t105 = 0
  ·
   rw [ip c4] at H
   have fP : (t105 == 0) = true := beq_iff_eq.mpr c4
   have oN : (t105 != 0) = false := bne_eq_false_iff_eq.mpr c4
   clear c4
   obtain ⟨VC, FR⟩ : ∃ y_ : List Int, y_ = (([1, (-1), 5] : List Int)) := ⟨_, rfl⟩
   replace H : ((uZ.f t104 VC).bind fun t112 => (some t112)) = some r := by first | (rw [FR]; with_reducible exact H) | (have fI := (Option.bind_some _ _).symm.trans H; rw [FR]; with_reducible exact fI) | (have fI := (Option.bind_some _ _).symm.trans H; with_reducible exact fI) | with_reducible exact H | (rw [FR]; exact H) | exact H
   have Y6 := aC.mk FR
   clear FR
   replace H := Option.bind_eq_some_iff.mp H
   obtain ⟨t112, Pg, H⟩ := H
   replace H : (some t112) = some r := H
   have A5 := aC.mk Pg
   clear Pg
   obtain rfl := Option.some.inj H
   go_enter Tryz.func18, Tryz.ntmps18
   go_wp2_with (first | ((with_reducible refine cK (N := 6) rfl ?_); (try (refine uG (by rfl) ?_; dsimp only)); refine Kd.QF lN _ 95 ?hg (N := 6) ?hd (xs := ([(⟨1, 2, 0, (⟨#[1, 255, 255, 255, 255, 255, 255, 255, 255, 255, 1]⟩ : ByteArray)⟩ : dK), (⟨1, 0, 5, (⟨#[]⟩ : ByteArray)⟩ : dK)] : List (dK))) (inner := [.int .i64 1, .int .i64 2, .int .u64 0, .string ⟨#[1, 255, 255, 255, 255, 255, 255, 255, 255, 255, 1]⟩, .int .i64 1, .int .i64 0, .int .u64 5, .string ⟨#[]⟩]) (ok := fun _ => True) (qC := fun _ => True) ?hr ?hp (fun _ hk => hk) trivial (Below.refl _ _) (Nat.le_refl _) (by simp) ?_; (case hd => rfl); (case hg => rfl); (case hr => first | (go_simp; done) | (go_simp; rfl)); (case hp => exact (jI.c4 (show Kd.M lN _ _ _ (⟨1, 2, 0, (⟨#[1, 255, 255, 255, 255, 255, 255, 255, 255, 255, 1]⟩ : ByteArray)⟩ : dK) [.int .i64 1, .int .i64 2, .int .u64 0, .string ⟨#[1, 255, 255, 255, 255, 255, 255, 255, 255, 255, 1]⟩] from (LG _ _ _ (⟨1, 2, 0, (⟨#[1, 255, 255, 255, 255, 255, 255, 255, 255, 255, 1]⟩ : ByteArray)⟩ : dK) )) (jI.c4 (show Kd.M lN _ _ _ (⟨1, 0, 5, (⟨#[]⟩ : ByteArray)⟩ : dK) [.int .i64 1, .int .i64 0, .int .u64 5, .string ⟨#[]⟩] from (LG _ _ _ (⟨1, 0, 5, (⟨#[]⟩ : ByteArray)⟩ : dK) )) (jI.none _ _)))); intro KC w6 V9 hb F9 FP; clear F9 FP; (first | rw [← AX.out] at V9 | (simp only [Int.reduceToNat] at V9; rw [← AX.out] at V9)); have bI := aC.mk (Kd.nV V9 (iI (aJ HB))); have bV := aC.mk (jV (aJ HB) hb); clear HB; have jN := bI; have HB := bV; clear bI bV; clear hb V9; obtain ⟨VF, V3, V4⟩ := Kd.jF jN.out; subst V4) | ((with_reducible refine dJ (f := 45) rfl ?_); refine DZ (some 7) rfl rfl Tryz.func45 (by kernel_rfl) rfl #[.slice VF y101.length V3, .int .i64 1] rfl (by (try simp only [List.map_toArray, List.map_cons, List.map_nil]); first | done | rfl | (simp only [List.length_drop, List.length_take]; rfl)) ?_; (with_reducible refine (wV.calls _ _ y101 1 t104 t105 _ ?iU ?iV A1.out).mono ?_); (case iU => repeat (first | exact (Kd.jA jN.out).2.2 | (with_reducible refine Kd.xY ?_ _) | (with_reducible refine Kd.ES ?_ _) | (with_reducible refine Kd.E5 ?_))); (case iV => exact (Kd.jA jN.out).2.1); rintro e w9 ⟨RF, rfl, ho0, hb⟩; refine ⟨_, rfl, ?_⟩; have bI := aC.mk (Kd.gU (dZ jN) hb); have bV := aC.mk (Kd.nV ho0 (iI (aJ HB))); have gB := aC.mk (jV (aJ HB) hb); clear jN; clear HB; have jN := bI; have rD := bV; have HB := gB; clear bI bV gB; (try clear hb); (try clear hb2); (try clear hk); (try clear hi); (try clear ho0)) | ((with_reducible refine dJ (f := 46) rfl ?_); refine DZ (some 10) rfl rfl Tryz.func46 (by kernel_rfl) rfl #[] rfl (by (try simp only [List.map_toArray, List.map_cons, List.map_nil]); first | done | rfl | (simp only [List.length_drop, List.length_take]; rfl)) ?_; (with_reducible refine (yV.calls  true _ A2.out).mono ?_); rintro e O3 ⟨rfl, hb⟩; refine ⟨_, rfl, ?_⟩; have bI := aC.mk (Kd.gU (dZ jN) hb); have bV := aC.mk (Kd.gU (dZ rD) hb); have gB := aC.mk (jV (aJ HB) hb); clear jN; clear rD; clear HB; have jN := bI; have rD := bV; have HB := gB; clear bI bV gB; (try clear hb); (try clear hb2); (try clear hk); (try clear hi)) | ((with_reducible refine cK (N := 17) rfl ?_); (try (refine uG (by rfl) ?_; dsimp only)); refine Kd.QF (Kd.int .i64) _ 2 ?hg (N := 17) ?hd (xs := ([1, (-1), 5] : List Int)) (inner := [.int .i64 1, .int .i64 (-1), .int .i64 5]) (ok := fun _ => True) (qC := fun _ => True) ?hr ?hp (fun _ hk => hk) trivial (Below.refl _ _) (Nat.le_refl _) (by simp) ?_; (case hd => rfl); (case hg => rfl); (case hr => first | (go_simp; done) | (go_simp; rfl)); (case hp => exact (jI.one (show Kd.M (Kd.int .i64) _ _ _ 1 [.int .i64 1] from rfl) (jI.one (show Kd.M (Kd.int .i64) _ _ _ (-1) [.int .i64 (-1)] from rfl) (jI.one (show Kd.M (Kd.int .i64) _ _ _ 5 [.int .i64 5] from rfl) (jI.none _ _))))); intro uz JE Q6 hb F9 FP; clear F9 FP; (first | rw [← Y6.out] at Q6 | (simp only [Int.reduceToNat] at Q6; rw [← Y6.out] at Q6)); have bI := aC.mk (Kd.gU (dZ jN) hb); have bV := aC.mk (Kd.aAe (dZ rD) (Kd.aCI Q6) hb); have gB := aC.mk (Kd.nV (Kd.aCJ Q6 (Kd.aEM (dZ rD))) (iI (aJ HB))); have kL := aC.mk (jV (aJ HB) hb); clear jN; clear rD; clear HB; have jN := bI; have rD := bV; have LV := gB; have HB := kL; clear bI bV gB kL; clear hb Q6; obtain ⟨aEs, aEU, tq⟩ := Kd.jF rD.out; subst tq; obtain ⟨aEt, aEV, tu⟩ := Kd.jF LV.out; subst tu) | (go_at_call 47; (with_reducible refine (uZ.calls _ _ t104 _ _ VC t112 _ ?iU ?iV ?pq ?pz A5.out).mono ?_); (case iU => repeat (first | exact (Kd.jA rD.out).2.2 | (with_reducible refine Kd.xY ?_ _) | (with_reducible refine Kd.ES ?_ _) | (with_reducible refine Kd.E5 ?_))); (case iV => exact (Kd.jA rD.out).2.1); (case pq => repeat (first | exact (Kd.jA LV.out).2.2 | (with_reducible refine Kd.xY ?_ _) | (with_reducible refine Kd.ES ?_ _) | (with_reducible refine Kd.E5 ?_))); (case pz => exact (Kd.jA LV.out).2.1); rintro e w' ⟨rfl, ⟨nd, rfl⟩⟩))
   go_ret
   exact ⟨by first | rfl | (simp [nG, nH] <;> rfl) | (simp [*, nG, nH] <;> rfl), aJ HB⟩
  ·
   rw [iN c4] at H
   have fP : (t105 == 0) = false := beq_eq_false_iff_ne.mpr c4
   have oN : (t105 != 0) = true := bne_iff_ne.mpr c4
   obtain rfl := Option.some.inj H
   go_enter Tryz.func18, Tryz.ntmps18
   go_wp2_with (first | ((with_reducible refine cK (N := 6) rfl ?_); (try (refine uG (by rfl) ?_; dsimp only)); refine Kd.QF lN _ 95 ?hg (N := 6) ?hd (xs := ([(⟨1, 2, 0, (⟨#[1, 255, 255, 255, 255, 255, 255, 255, 255, 255, 1]⟩ : ByteArray)⟩ : dK), (⟨1, 0, 5, (⟨#[]⟩ : ByteArray)⟩ : dK)] : List (dK))) (inner := [.int .i64 1, .int .i64 2, .int .u64 0, .string ⟨#[1, 255, 255, 255, 255, 255, 255, 255, 255, 255, 1]⟩, .int .i64 1, .int .i64 0, .int .u64 5, .string ⟨#[]⟩]) (ok := fun _ => True) (qC := fun _ => True) ?hr ?hp (fun _ hk => hk) trivial (Below.refl _ _) (Nat.le_refl _) (by simp) ?_; (case hd => rfl); (case hg => rfl); (case hr => first | (go_simp; done) | (go_simp; rfl)); (case hp => exact (jI.c4 (show Kd.M lN _ _ _ (⟨1, 2, 0, (⟨#[1, 255, 255, 255, 255, 255, 255, 255, 255, 255, 1]⟩ : ByteArray)⟩ : dK) [.int .i64 1, .int .i64 2, .int .u64 0, .string ⟨#[1, 255, 255, 255, 255, 255, 255, 255, 255, 255, 1]⟩] from (LG _ _ _ (⟨1, 2, 0, (⟨#[1, 255, 255, 255, 255, 255, 255, 255, 255, 255, 1]⟩ : ByteArray)⟩ : dK) )) (jI.c4 (show Kd.M lN _ _ _ (⟨1, 0, 5, (⟨#[]⟩ : ByteArray)⟩ : dK) [.int .i64 1, .int .i64 0, .int .u64 5, .string ⟨#[]⟩] from (LG _ _ _ (⟨1, 0, 5, (⟨#[]⟩ : ByteArray)⟩ : dK) )) (jI.none _ _)))); intro KC O5 U6 hb F9 FP; clear F9 FP; (first | rw [← AX.out] at U6 | (simp only [Int.reduceToNat] at U6; rw [← AX.out] at U6)); have bI := aC.mk (Kd.nV U6 (iI (aJ HB))); have bV := aC.mk (jV (aJ HB) hb); clear HB; have jN := bI; have HB := bV; clear bI bV; clear hb U6; obtain ⟨qh, su, uf⟩ := Kd.jF jN.out; subst uf) | ((with_reducible refine dJ (f := 45) rfl ?_); refine DZ (some 7) rfl rfl Tryz.func45 (by kernel_rfl) rfl #[.slice qh y101.length su, .int .i64 1] rfl (by (try simp only [List.map_toArray, List.map_cons, List.map_nil]); first | done | rfl | (simp only [List.length_drop, List.length_take]; rfl)) ?_; (with_reducible refine (wV.calls _ _ y101 1 t104 t105 _ ?iU ?iV A1.out).mono ?_); (case iU => repeat (first | exact (Kd.jA jN.out).2.2 | (with_reducible refine Kd.xY ?_ _) | (with_reducible refine Kd.ES ?_ _) | (with_reducible refine Kd.E5 ?_))); (case iV => exact (Kd.jA jN.out).2.1); rintro e _t ⟨RF, rfl, ho0, hb⟩; refine ⟨_, rfl, ?_⟩; have bI := aC.mk (Kd.gU (dZ jN) hb); have bV := aC.mk (Kd.nV ho0 (iI (aJ HB))); have gB := aC.mk (jV (aJ HB) hb); clear jN; clear HB; have jN := bI; have rD := bV; have HB := gB; clear bI bV gB; (try clear hb); (try clear hb2); (try clear hk); (try clear hi); (try clear ho0)) | ((with_reducible refine dJ (f := 46) rfl ?_); refine DZ (some 10) rfl rfl Tryz.func46 (by kernel_rfl) rfl #[] rfl (by (try simp only [List.map_toArray, List.map_cons, List.map_nil]); first | done | rfl | (simp only [List.length_drop, List.length_take]; rfl)) ?_; (with_reducible refine (yV.calls  true _ A2.out).mono ?_); rintro e qY ⟨rfl, hb⟩; refine ⟨_, rfl, ?_⟩; have bI := aC.mk (Kd.gU (dZ jN) hb); have bV := aC.mk (Kd.gU (dZ rD) hb); have gB := aC.mk (jV (aJ HB) hb); clear jN; clear rD; clear HB; have jN := bI; have rD := bV; have HB := gB; clear bI bV gB; (try clear hb); (try clear hb2); (try clear hk); (try clear hi)))
   go_ret
   exact ⟨by first | rfl | (simp [nG, nH] <;> rfl) | (simp [*, nG, nH] <;> rfl), aJ HB⟩
 ·
  replace c3 := Bool.eq_false_iff.mpr c3
  subst c3
  have H1 : (some false) = some r := by rw [iN (show ¬ (false = true) by decide)] at H; exact H
  clear H
  have H := H1
  clear H1
  obtain rfl := Option.some.inj H
  go_enter Tryz.func18, Tryz.ntmps18
  go_wp2_with (first | ((with_reducible refine cK (N := 6) rfl ?_); (try (refine uG (by rfl) ?_; dsimp only)); refine Kd.QF lN _ 95 ?hg (N := 6) ?hd (xs := ([(⟨1, 2, 0, (⟨#[1, 255, 255, 255, 255, 255, 255, 255, 255, 255, 1]⟩ : ByteArray)⟩ : dK), (⟨1, 0, 5, (⟨#[]⟩ : ByteArray)⟩ : dK)] : List (dK))) (inner := [.int .i64 1, .int .i64 2, .int .u64 0, .string ⟨#[1, 255, 255, 255, 255, 255, 255, 255, 255, 255, 1]⟩, .int .i64 1, .int .i64 0, .int .u64 5, .string ⟨#[]⟩]) (ok := fun _ => True) (qC := fun _ => True) ?hr ?hp (fun _ hk => hk) trivial (Below.refl _ _) (Nat.le_refl _) (by simp) ?_; (case hd => rfl); (case hg => rfl); (case hr => first | (go_simp; done) | (go_simp; rfl)); (case hp => exact (jI.c4 (show Kd.M lN _ _ _ (⟨1, 2, 0, (⟨#[1, 255, 255, 255, 255, 255, 255, 255, 255, 255, 1]⟩ : ByteArray)⟩ : dK) [.int .i64 1, .int .i64 2, .int .u64 0, .string ⟨#[1, 255, 255, 255, 255, 255, 255, 255, 255, 255, 1]⟩] from (LG _ _ _ (⟨1, 2, 0, (⟨#[1, 255, 255, 255, 255, 255, 255, 255, 255, 255, 1]⟩ : ByteArray)⟩ : dK) )) (jI.c4 (show Kd.M lN _ _ _ (⟨1, 0, 5, (⟨#[]⟩ : ByteArray)⟩ : dK) [.int .i64 1, .int .i64 0, .int .u64 5, .string ⟨#[]⟩] from (LG _ _ _ (⟨1, 0, 5, (⟨#[]⟩ : ByteArray)⟩ : dK) )) (jI.none _ _)))); intro KC WT U7 hb F9 FP; clear F9 FP; (first | rw [← AX.out] at U7 | (simp only [Int.reduceToNat] at U7; rw [← AX.out] at U7)); have bI := aC.mk (Kd.nV U7 (iI (aJ HB))); have bV := aC.mk (jV (aJ HB) hb); clear HB; have jN := bI; have HB := bV; clear bI bV; clear hb U7; obtain ⟨aEu, aEW, aE6⟩ := Kd.jF jN.out; subst aE6) | ((with_reducible refine dJ (f := 45) rfl ?_); refine DZ (some 7) rfl rfl Tryz.func45 (by kernel_rfl) rfl #[.slice aEu y101.length aEW, .int .i64 1] rfl (by (try simp only [List.map_toArray, List.map_cons, List.map_nil]); first | done | rfl | (simp only [List.length_drop, List.length_take]; rfl)) ?_; (with_reducible refine (wV.calls _ _ y101 1 t104 t105 _ ?iU ?iV A1.out).mono ?_); (case iU => repeat (first | exact (Kd.jA jN.out).2.2 | (with_reducible refine Kd.xY ?_ _) | (with_reducible refine Kd.ES ?_ _) | (with_reducible refine Kd.E5 ?_))); (case iV => exact (Kd.jA jN.out).2.1); rintro e Bj ⟨RF, rfl, ho0, hb⟩; refine ⟨_, rfl, ?_⟩; have bI := aC.mk (Kd.gU (dZ jN) hb); have bV := aC.mk (Kd.nV ho0 (iI (aJ HB))); have gB := aC.mk (jV (aJ HB) hb); clear jN; clear HB; have jN := bI; have rD := bV; have HB := gB; clear bI bV gB; (try clear hb); (try clear hb2); (try clear hk); (try clear hi); (try clear ho0)) | ((with_reducible refine dJ (f := 46) rfl ?_); refine DZ (some 10) rfl rfl Tryz.func46 (by kernel_rfl) rfl #[] rfl (by (try simp only [List.map_toArray, List.map_cons, List.map_nil]); first | done | rfl | (simp only [List.length_drop, List.length_take]; rfl)) ?_; (with_reducible refine (yV.calls  false _ A2.out).mono ?_); rintro e yS ⟨rfl, hb⟩; refine ⟨_, rfl, ?_⟩; have bI := aC.mk (Kd.gU (dZ jN) hb); have bV := aC.mk (Kd.gU (dZ rD) hb); have gB := aC.mk (jV (aJ HB) hb); clear jN; clear rD; clear HB; have jN := bI; have rD := bV; have HB := gB; clear bI bV gB; (try clear hb); (try clear hb2); (try clear hk); (try clear hi)))
  go_ret
  exact ⟨by first | rfl | (simp [nG, nH] <;> rfl) | (simp [*, nG, nH] <;> rfl), aJ HB⟩
def NA.f : Option Bool := some true
theorem Ub : mJ 11 [] ⟨#[1, 255, 255, 255, 255, 255, 255, 255, 255, 255, 1]⟩ = ([1, -1], 0) := by
 have e1 : eD ⟨#[1, 255, 255, 255, 255, 255, 255, 255, 255, 255, 1]⟩ = (1, 1, 0) := by decide
 have e2 : ByteArray.extract ⟨#[1, 255, 255, 255, 255, 255, 255, 255, 255, 255, 1]⟩ 1 (ByteArray.size ⟨#[1, 255, 255, 255, 255, 255, 255, 255, 255, 255, 1]⟩) = ⟨#[255, 255, 255, 255, 255, 255, 255, 255, 255, 1]⟩ := by decide
 have e3 : eD ⟨#[255, 255, 255, 255, 255, 255, 255, 255, 255, 1]⟩ = (18446744073709551615, 10, 0) := by decide
 have e4 : ByteArray.extract ⟨#[255, 255, 255, 255, 255, 255, 255, 255, 255, 1]⟩ 10 (ByteArray.size ⟨#[255, 255, 255, 255, 255, 255, 255, 255, 255, 1]⟩) = ⟨#[]⟩ := by decide
 have w1 : wrap64 1 = 1 := fC (by decide) (by decide)
 have w2 : wrap64 18446744073709551615 = -1 := by unfold wrap64; decide
 rw [mJ, iN (by decide), e1]
 rw [iN (by simp), iN (by simp)]
 simp only [e2]
 rw [mJ, iN (by decide), e3]
 rw [iN (by simp), iN (by simp)]
 simp only [e4]
 rw [mJ, ip (by decide)]
 show ([] ++ [wrap64 1] ++ [wrap64 18446744073709551615], 0) = _
 rw [w1, w2]; rfl
theorem NA.ev (r) (h : NA.f = some r) : ∃ k : Nat, SB.f = some r := by
 refine ⟨0, ?_⟩
 rw [← h]
 unfold SB.f NA.f
 have w5 : wrap64 5 = 5 := fC (by decide) (by decide)
 have e1 : wV.f [(⟨1, 2, 0, ⟨#[1, 255, 255, 255, 255, 255, 255, 255, 255, 255, 1]⟩⟩ : dK), ⟨1, 0, 5, ⟨#[]⟩⟩] 1 = some ([1, -1, 5], 0) := by
  unfold wV.f
  rw [ip ⟨by decide, by simp; decide⟩]
  have : mF (([(⟨1, 2, 0, ⟨#[1, 255, 255, 255, 255, 255, 255, 255, 255, 255, 1]⟩⟩ : dK), ⟨1, 0, 5, ⟨#[]⟩⟩].filter fun x => x.f0 == 1).map mD) [] = ([1, -1, 5], 0) := by
   show mF [(1, 2, 0, ⟨#[1, 255, 255, 255, 255, 255, 255, 255, 255, 255, 1]⟩), (1, 0, 5, ⟨#[]⟩)] [] = _
   rw [mF, iN (by decide), ip rfl]
   show (if (mJ 11 [] ⟨#[1, 255, 255, 255, 255, 255, 255, 255, 255, 255, 1]⟩).2 ≠ 0 then _ else mF _ (mJ 11 [] ⟨#[1, 255, 255, 255, 255, 255, 255, 255, 255, 255, 1]⟩).1) = _
   rw [Ub, iN (by simp), mF, ip rfl, iN (by simp), mF]
   show ([1, -1] ++ [wrap64 5], 0) = _
   rw [w5]; rfl
  rw [this]; rfl
 rw [e1]
 simp only [Option.bind_some, yV.f, if_true]
 unfold uZ.f
 rw [ip (by decide)]
 rfl
theorem NA.calls  (r : Bool) (w : World) (h : NA.f  = some r) :
 Calls Tryz.prog 18 #[] w fun e w' => e = .returned (.bool r) ∧ Below w.heap.size w w' := by
 obtain ⟨k, hk⟩ := NA.ev  _ h
 exact SB.calls r w hk
theorem YO (s : ByteArray) (b : Bool) (h : yF s = b) (hs : s.size ≤ 140737488351232) (w : World) : Calls Tryz.prog 41 #[.string s] w fun e w' => e = .returned (.bool b) ∧ Below w.heap.size w w' := by
 rw [← h]; exact ay s hs w
theorem kb1 : yF ⟨#[119, 47, 97, 46, 98, 105, 110]⟩ = true := by kernel_rfl
theorem kb2 : yF ⟨#[46, 46, 47, 97]⟩ = false := by kernel_rfl
theorem kb3 : yF ⟨#[47, 97]⟩ = false := by kernel_rfl
theorem kb4 : yF ⟨#[97, 47, 47, 98]⟩ = false := by kernel_rfl
theorem We (w : World) : Calls Tryz.prog 20 #[] w fun e w' => e = .returned (.bool true) ∧ Below w.heap.size w w' := by
 have HB := aC.mk (Below.refl w.heap.size w)
 go_enter Tryz.func20, Tryz.ntmps20
 go_wp2_with (first | fail)
 refine (YO _ _ kb1 (by decide) _).mono ?_
 rintro e w1 ⟨rfl, hb⟩
 replace HB := hbS HB hb
 clear hb
 go_wp2_with (first | fail)
 refine (YO _ _ kb2 (by decide) _).mono ?_
 rintro e w2 ⟨rfl, hb⟩
 replace HB := hbS HB hb
 clear hb
 go_wp2_with (first | fail)
 refine (YO _ _ kb3 (by decide) _).mono ?_
 rintro e w3 ⟨rfl, hb⟩
 replace HB := hbS HB hb
 clear hb
 go_wp2_with (first | fail)
 refine (YO _ _ kb4 (by decide) _).mono ?_
 rintro e w4 ⟨rfl, hb⟩
 replace HB := hbS HB hb
 clear hb
 go_wp2
 go_ret
 exact ⟨rfl, HB.out⟩
theorem Wn : AB.f ⟨#[97]⟩ 7 [1] (iE [5]) = some (⟨#[10, 1, 1, 16, 7, 66, 1, 97, 74, 8, 5, 0, 0, 0, 0, 0, 0, 0]⟩, 0) := by decide +kernel
theorem _J (w : World) : Calls Tryz.prog 6 #[] w fun e w' => e = .returned (.bool true) ∧ Below w.heap.size w w' := by
 go_enter Tryz.func6, Tryz.ntmps6
 go_wp2_with (first | fail)
 have hb0 : ((w.alloc (Obj.cells #[Value.int IntKind.i64 1] 2)).alloc (Obj.cells #[Value.int IntKind.i64 5] 2)).heap[w.heap.size]? = some (Obj.cells #[Value.int IntKind.i64 1] 2) := DV (vL w _) _
 have hb1 : ((w.alloc (Obj.cells #[Value.int IntKind.i64 1] 2)).alloc (Obj.cells #[Value.int IntKind.i64 5] 2)).heap[w.heap.size + 1]? = some (Obj.cells #[Value.int IntKind.i64 5] 2) := by
  have h := vL (w.alloc (Obj.cells #[Value.int IntKind.i64 1] 2)) (Obj.cells #[Value.int IntKind.i64 5] 2)
  rw [DT] at h; exact h
 have r0 : Kd.C (Kd.int .i64) ((w.alloc (Obj.cells #[Value.int IntKind.i64 1] 2)).alloc (Obj.cells #[Value.int IntKind.i64 5] 2)) (some ⟨w.heap.size, 0, none⟩) ([1] : List Int).length [1] := Kd.K6 (d := (0 : Int)) (h1 := fun _ => rfl) ⟨rfl, by decide, fun _ => ⟨_, rfl, fun j hj => by
  have hj0 : j = 0 := by simp at hj; omega
  subst hj0
  exact (aM hb0 0).trans rfl⟩⟩
 have r1 : Kd.C (Kd.int .i64) ((w.alloc (Obj.cells #[Value.int IntKind.i64 1] 2)).alloc (Obj.cells #[Value.int IntKind.i64 5] 2)) (some ⟨w.heap.size + 1, 0, none⟩) ([5] : List Int).length [5] := Kd.K6 (d := (0 : Int)) (h1 := fun _ => rfl) ⟨rfl, by decide, fun _ => ⟨_, rfl, fun j hj => by
  have hj0 : j = 0 := by simp at hj; omega
  subst hj0
  exact (aM hb1 0).trans rfl⟩⟩
 have HB := aC.mk (iD (iD (Below.refl w.heap.size w) (Obj.cells #[Value.int IntKind.i64 1] 2)) (Obj.cells #[Value.int IntKind.i64 5] 2))
 clear hb0 hb1
 refine (Cf.calls ⟨#[97]⟩ _ 1 [1] _ 1 [5] _ r0 (Nat.le_refl _) r1 (Nat.le_refl _) (by decide) (by decide) (by simp)).mono ?_
 rintro e w1 ⟨v2, rfl, hR, hb⟩
 obtain ⟨A2, cp2, rfl⟩ := Kd.jF hR
 replace HB := hbS HB hb
 have HC := aA (Kd.jA hR).2
 clear hb hR r0 r1
 go_wp2_with (first | fail)
 refine (AB.calls ⟨#[97]⟩ 7 A2 cp2 [1] _ _ _ _ HC.out.2 HC.out.1 Wn).mono ?_
 rintro e w2 ⟨rfl, hb⟩
 replace HB := hbS HB hb
 clear hb HC
 go_wp2_with (first | fail)
 refine (NA.calls true _ rfl).mono ?_
 rintro e w3 ⟨rfl, hb⟩
 replace HB := hbS HB hb
 clear hb
 go_wp2_with (first | fail)
 refine (_B.calls true _ rfl).mono ?_
 rintro e w4 ⟨rfl, hb⟩
 replace HB := hbS HB hb
 clear hb
 go_wp2_with (first | fail)
 refine (We _).mono ?_
 rintro e w5 ⟨rfl, hb⟩
 replace HB := hbS HB hb
 clear hb
 go_wp2
 go_ret
 exact ⟨rfl, HB.out⟩
end Go.Proofs.YtgmggompdidcoaaGreatDoor.X
