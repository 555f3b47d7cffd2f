import Derived.Test.YtgmggompdidcoaaGreatDoorMPbtensorReads18
namespace Go.Proofs.YtgmggompdidcoaaGreatDoor.X
open Go.RowKit Go.Proofs.YtgmggompdidcoaaGreatDoorW.aX Go.Proofs.YtgmggompdidcoaaGreatDoorW.bJ Go.Proofs.YtgmggompdidcoaaGreatDoorW.bK
attribute [local go_sem] bO bQ bS bU bM bN bP bR
set_option linter.unusedVariables false
set_option linter.unusedSimpArgs false
set_option maxHeartbeats 8000000
set_option maxRecDepth 100000
def aAT (w : World) (E : List (ByteArray × ByteArray) × Int) (en : Ending) (w' : World) : Prop := ∃ m : Option Nat, en = .returned (.tuple #[.map m, .int .i64 E.2]) ∧ oZ w' m E.1 ∧ Below w.heap.size w w'
theorem Ep (ok : Bool) (ty kind e : Int) (h : e ≠ 0) : kT ok ty kind e = e := by
 unfold kT
 rw [iN h]
 split
 · split <;> rfl
 · rfl
theorem aAj {s : ByteArray} {t : List ByteArray} {mm : List (ByteArray × ByteArray)} {L : List dK} {c0 : Nat} {k0 k1 k2 v0 v1 v2 : Int} {k3 v3 : ByteArray} {ko vo : Bool} (hL : (eX s).1.map toP = L) (h0 : (eX s).2 = c0)
 (hk : pM ((L.filter fun x => x.f0 == 1).getLast?) = (k0, k1, k2, k3, ko)) (hv : pM ((L.filter fun x => x.f0 == 2).getLast?) = (v0, v1, v2, v3, vo)) :
 o7 (s :: t) mm = if kT vo v1 2 (kT ko k1 2 (c0 : Int)) ≠ 0 then ([], kT vo v1 2 (kT ko k1 2 (c0 : Int))) else o7 t (kK mm k3 v3) := by
 rw [o7, hL, h0]
 by_cases hc : c0 ≠ 0
 · have hz : (c0 : Int) ≠ 0 := by omega
   rw [ip hc, Ep _ _ _ _ hz, Ep _ _ _ _ hz, ip hz]
 · have hz : c0 = 0 := by omega
   subst hz
   rw [iN (by simp)]
   dsimp only
   rw [hk, hv]
   rfl
theorem Ws (name : ByteArray) (kd : Int) (A1 : Option Addr) (n1 c1 : Nat) (data : ByteArray) (A2 : Option Addr) (n2 c2 : Nat) (A3 : Option Addr) (n3 c3 : Nat) (raw : Bool) (A4 : Option Addr) (c4 : Nat) (ext : List ByteArray) (wh els : Int) (w : World)
 (hx : Kd.C Kd.string w A4 ext.length ext) (hs : ∀ s ∈ ext, s.size ≤ 140737488351232) :
 Calls Tryz.prog 59 #[.agg #[.string name, .int .i64 kd, .slice A1 n1 c1, .string data, .slice A2 n2 c2, .slice A3 n3 c3, .bool raw, .slice A4 ext.length c4, .int .u64 wh, .int .i64 els]] w (aAT w (o7 ext [])) := by
 have tN := Tryz.underlying59
 have EB := Tryz.underlying95
 have HX := aC.mk hx
 have HS := aC.mk hs
 have ym := aC.mk hx.2.1
 have HB := aC.mk (Below.refl w.heap.size w)
 obtain ⟨E, hE⟩ : ∃ E, o7 ext [] = E := ⟨_, rfl⟩
 have I7 := aC.mk hE
 rw [hE]
 clear hx hs hE
 go_enter Tryz.func59, Tryz.ntmps59
 go_wp2_with (first | ((with_reducible refine cK (N := 1) rfl ?_); refine dB (N := 1) (cs := #[.string name, .int .i64 kd, .slice A1 n1 c1, .string data, .slice A2 n2 c2, .slice A3 n3 c3, .bool raw, .slice A4 ext.length c4, .int .u64 wh, .int .i64 els]) (t := 59) ?_; intro gm hg w1 aG hb; have BM := aA aG; replace HB := hbS HB hb; clear hb aG hg) | ((with_reducible refine cK (N := 13) rfl ?_); refine Ow (N := 13) ?_; intro gp hg w2 aG hb; have BP := aA aG; have GP := bB HB hg; replace BM := aI BM hb; replace HB := hbS HB hb; clear hb aG hg; have jL := aM BM.out 7))
 go_loopg [17] ext.length (fun kq v17 w' => ∃ (i : Nat) (mm : List (ByteArray × ByteArray)), v17 = .int .i64 i ∧ aC (i + kq = ext.length) ∧ aC (E = o7 (ext.drop i) mm) ∧ aC (w'.heap[gp]? = some (.map (pE mm) mm.length)) ∧ aC (Below w.heap.size w w'))
 case atStart => exact ⟨0, [], rfl, ⟨by omega⟩, ⟨I7.out.symm⟩, BP, HB⟩
 case round =>
 clear BM BP HB jL
 obtain ⟨i, mm, rfl, HN, HE, BP, HB⟩ := hrel
 by_cases hlt : i < ext.length
 · have hlt' : decide ((i : Int) < (ext.length : Int)) = true := dT (by omega)
   obtain ⟨kk, rfl⟩ : ∃ m, gk = m + 1 := ⟨gk - 1, by have := HN.out; omega⟩
   have p1 : 0 ≤ (i : Int) := Int.natCast_nonneg i
   have q1 : (i : Int) < (ext.length : Int) := by omega
   obtain ⟨ad, ea, hx⟩ := Kd.Ec (Kd.gN HX.out HB.out) (i : Int) p1 q1
   cases ea
   have hrd : RD ByteArray.empty ext (i : Int) = ext[i] := by simp [RD, hlt]
   rw [hrd, Int.toNat_natCast] at hx
   have RQ := aC.mk (HS.out ext[i] (List.getElem_mem hlt))
   have HD := aC.mk (show ext.drop i = ext[i] :: ext.drop (i + 1) from List.drop_eq_getElem_cons hlt)
   clear hrd
   generalize ext[i] = s at hx RQ HD
   have Hw : aC (wrap64 ((i : Int) + 1) = (i : Int) + 1) := ⟨by have := ym.out; exact fC (by omega) (by omega)⟩
   clear hlt
   replace p1 := eT p1
   replace q1 := eT q1
   go_wp2_with (first | fail)
   refine (wS.calls s _ _ _ (ip RQ.out)).mono ?_
   rintro en w3 ⟨v, rfl, zV, hb⟩
   obtain ⟨A, c, rfl⟩ := Kd.jF zV
   have HF := aA (Kd.jA zV).2.2
   have rO := aA (Kd.jA zV).2.1
   have H3 := aA (Below.refl w3.heap.size w3)
   replace BP := aI BP hb
   replace HB := hbS HB hb
   clear hb zV hx
   have sG := aA (show ((eX s).1.map toP).length ≤ 3518437208883 from by rw [List.length_map]; exact XA s)
   obtain ⟨c0, hc0⟩ : ∃ c0 : Nat, (eX s).2 = c0 := ⟨_, rfl⟩
   obtain ⟨L, hL⟩ : ∃ L, (eX s).1.map toP = L := ⟨_, rfl⟩
   obtain ⟨k0, k1, k2, k3, ko, hk⟩ : ∃ k0 k1 k2 k3 ko, pM ((L.filter fun x => x.f0 == 1).getLast?) = (k0, k1, k2, k3, ko) := ⟨_, _, _, _, _, rfl⟩
   obtain ⟨v0, v1, v2, v3, vo, hv⟩ : ∃ k0 k1 k2 k3 ko, pM ((L.filter fun x => x.f0 == 2).getLast?) = (k0, k1, k2, k3, ko) := ⟨_, _, _, _, _, rfl⟩
   have yJ := aA (HE.out.trans (by rw [HD.out, aAj hL hc0 hk hv]))
   rw [hL] at HF rO sG ⊢
   rw [hc0]
   have HK := aA hk
   have HV := aA hv
   clear hc0 hL hk hv HE HD
   obtain ⟨e1, he1⟩ : ∃ e1, kT ko k1 2 (c0 : Int) = e1 := ⟨_, rfl⟩
   obtain ⟨e2, he2⟩ : ∃ e2, kT vo v1 2 e1 = e2 := ⟨_, rfl⟩
   rw [he1, he2] at yJ
   have aED := aA he1
   have aEE := aA he2
   clear he1 he2
   go_wp2_with (first | ((with_reducible refine cK (N := 8) rfl ?_); refine dB (N := 8) (cs := #[.int .i64 0]) (t := 34) ?_; intro ge hg w4 aG hb; have BE := aA aG; have GE := bB HB hg; have Pm := bB H3 hg; have zn := cO BP hg; have NEP := dD BP hg; replace BP := aI BP hb; replace HB := hbS HB hb; replace H3 := hbS H3 hb; clear hb aG hg; have he0 := iA BE; have KQ := fz BE 0))
   obtain ⟨w5, hw⟩ : ∃ wb, wb = w4.setCell ⟨ge, 0, none⟩ (.int .i64 (c0 : Int)) := ⟨_, rfl⟩
   rw [← hw]
   replace BP := aA (show w5.heap[gp]? = some _ from by rw [hw]; exact EC BP.out zn)
   replace BE := aA (show w5.heap[ge]? = some (.cells #[.int .i64 (c0 : Int)] 34 (0, 0)) from by rw [hw]; exact aU BE)
   replace HB := aA (show Below w.heap.size w w5 from by rw [hw]; exact fD HB.out GE.out)
   replace H3 := aA (show Below w3.heap.size w3 w5 from by rw [hw]; exact fD H3.out Pm.out)
   clear hw he0 KQ
   refine (PO A c L 1 2 ge (c0 : Int) _ _ _ _ _ _ (Kd.gN HF.out H3.out) rO.out sG.out BE.out HK.out).mono ?_
   rintro en w6 ⟨rfl, hB, hbe⟩
   rw [aED.out] at hbe
   replace BP := kS BP hB zn
   replace H3 := BB H3 hB Pm
   replace HB := BB HB hB GE
   replace BE := aA hbe
   clear hB hbe
   go_wp2_with (first | ((with_reducible refine cK (N := 9) rfl ?_); refine dB (N := 9) (cs := #[.int .i64 0, .int .i64 0, .int .u64 0, .string ⟨#[]⟩]) (t := 95) ?_; intro V7 hg w7 aG hb; have BK := aA aG; have GK := bB HB hg; have VK := bB H3 hg; have M_ := cO BP hg; have NKP := dD BP hg; replace BP := aI BP hb; have NEK := cO BE hg; have VW := dD BE hg; replace BE := aI BE hb; replace HB := hbS HB hb; replace H3 := hbS H3 hb; clear hb aG hg; obtain ⟨hc0, hc1, hc2, hc3⟩ := aN BK; have hf0 := fz BK 0; have hf1 := fz BK 1; have hf2 := fz BK 2; have hf3 := fz BK 3))
   obtain ⟨w8, hw⟩ : ∃ wb, wb = (((w7.setCell ⟨V7, 0, none⟩ (.int .i64 k0)).setCell ⟨V7, 1, none⟩ (.int .i64 k1)).setCell ⟨V7, 2, none⟩ (.int .u64 k2)).setCell ⟨V7, 3, none⟩ (.string k3) := ⟨_, rfl⟩
   rw [← hw]
   replace BP := aA (show w8.heap[gp]? = some _ from by rw [hw]; exact EC (EC (EC (EC BP.out M_) M_) M_) M_)
   replace BE := aA (show w8.heap[ge]? = some _ from by rw [hw]; exact aU BE)
   replace BK := aA (show w8.heap[V7]? = some (.cells #[.int .i64 k0, .int .i64 k1, .int .u64 k2, .string k3] 95 (0, 0)) from by rw [hw]; exact aU BK)
   replace HB := aA (show Below w.heap.size w w8 from by rw [hw]; exact dR HB.out GK.out)
   replace H3 := aA (show Below w3.heap.size w3 w8 from by rw [hw]; exact dR H3.out VK.out)
   clear hw hc0 hc1 hc2 hc3 hf0 hf1 hf2 hf3
   refine (PO A c L 2 2 ge e1 _ _ _ _ _ _ (Kd.gN HF.out H3.out) rO.out sG.out BE.out HV.out).mono ?_
   rintro en w9 ⟨rfl, hB, hbe⟩
   rw [aEE.out] at hbe
   replace BP := kS BP hB zn
   replace BK := kS BK hB VW
   replace HB := BB HB hB GE
   replace BE := aA hbe
   clear hB hbe H3 HF rO
   by_cases h0 : e2 ≠ 0
   · have b0 : (e2 != 0) = true := bne_iff_ne.2 h0
     have HE2 := aA (yJ.out.trans (ip h0))
     clear h0 yJ
     go_wp2_with (first | ((with_reducible refine cK (N := 11) rfl ?_); refine dB (N := 11) (cs := #[.int .i64 0, .int .i64 0, .int .u64 0, .string ⟨#[]⟩]) (t := 95) ?_; intro gv hg O3 aG hb; have BV := aA aG; have GV := bB HB hg; have VX := cO BP hg; have NVP := dD BP hg; replace BP := aI BP hb; have L_ := cO BE hg; have zq := dD BE hg; replace BE := aI BE hb; have CF := cO BK hg; have CJ := dD BK hg; replace BK := aI BK hb; replace HB := hbS HB hb; clear hb aG hg; obtain ⟨hc0, hc1, hc2, hc3⟩ := aN BV; have hf0 := fz BV 0; have hf1 := fz BV 1; have hf2 := fz BV 2; have hf3 := fz BV 3; have he0 := iA BE; have KQ := fz BE 0; obtain ⟨hk0, hk1, hk2, hk3⟩ := aN BK; have n1 := L_.out; have n2 := zq.out; have n3 := CF.out; have n4 := CJ.out))
     have n3 := L_.out
     go_region
     go_wp2
     go_ret2
     rw [HE2.out]
     exact ⟨none, rfl, .inl ⟨rfl, rfl⟩, iO (dR HB.out GV.out)⟩
   · have b0 : (e2 != 0) = false := bne_eq_false_iff_eq.2 (Classical.not_not.1 h0)
     have HE2 := aA (yJ.out.trans (iN h0))
     clear h0 yJ
     go_wp2_with (first | ((with_reducible refine cK (N := 11) rfl ?_); refine dB (N := 11) (cs := #[.int .i64 0, .int .i64 0, .int .u64 0, .string ⟨#[]⟩]) (t := 95) ?_; intro gv hg O3 aG hb; have BV := aA aG; have GV := bB HB hg; have VX := cO BP hg; have NVP := dD BP hg; replace BP := aI BP hb; have L_ := cO BE hg; have zq := dD BE hg; replace BE := aI BE hb; have CF := cO BK hg; have CJ := dD BK hg; replace BK := aI BK hb; replace HB := hbS HB hb; clear hb aG hg; obtain ⟨hc0, hc1, hc2, hc3⟩ := aN BV; have hf0 := fz BV 0; have hf1 := fz BV 1; have hf2 := fz BV 2; have hf3 := fz BV 3; have he0 := iA BE; have KQ := fz BE 0; obtain ⟨hk0, hk1, hk2, hk3⟩ := aN BK; have n1 := L_.out; have n2 := zq.out; have n3 := CF.out; have n4 := CJ.out; obtain ⟨O4, hrun, jE, KR, _, _⟩ := Lv (w := w) (W := (((O3.setCell ⟨gv, 0, none⟩ (.int .i64 v0)).setCell ⟨gv, 1, none⟩ (.int .i64 v1)).setCell ⟨gv, 2, none⟩ (.int .u64 v2)).setCell ⟨gv, 3, none⟩ (.string v3)) mm k3 v3 (EC (EC (EC (EC BP.out VX) VX) VX) VX) GP.out (dR HB.out GV.out); have HM9 := aA jE; have xq := aA KR; clear jE KR))
     go_roundg kk
     case measure => omega
     case rel => exact ⟨i + 1, kK mm k3 v3, by rw [Hw.out]; rfl, ⟨by have := HN.out; omega⟩, HE2, HM9, xq⟩
 · have hge : decide ((i : Int) < (ext.length : Int)) = false := dF (by omega)
   have hi : i = ext.length := by
    have := HN.out
    omega
   subst hi
   have HE2 := aC.mk (show E = (mm, 0) from by rw [HE.out, List.drop_length]; rfl)
   clear hlt HE
   go_wp2_with (first | fail)
   go_ret2
   rw [HE2.out]
   exact ⟨some gp, rfl, .inr ⟨gp, rfl, BP.out⟩, HB.out⟩
theorem Ei {b : ByteArray} {d : Int} (h : pF (some b) d = none) : zQ b = (0, false) := by
 have h2 : (uR b).map (fun n : Nat => (n : Int)) = none := h
 unfold zQ
 cases hd : uR b with
 | none => rfl
 | some m => rw [hd] at h2; cases h2
theorem Ej {b : ByteArray} {d n : Int} (h : pF (some b) d = some n) : zQ b = (n, true) := by
 have h2 : (uR b).map (fun n : Nat => (n : Int)) = some n := h
 unfold zQ
 cases hd : uR b with
 | none => rw [hd] at h2; cases h2
 | some m => rw [hd] at h2; rw [← Option.some.inj h2]
theorem Nu {mp : Option Nat} {name K : ByteArray} {need o : Int} {l : List jK} (hH : ql name need l) (hK : K.size ≤ 10000) (ho : 0 ≤ o ∧ o < 9223372036854775808) {R : ByteArray × Int} (hR : sJ (fV l) K o need = R) :
 ∀ W, oZ W mp (fV l) → Calls Tryz.prog 61 #[.agg #[.map mp], .string K, .int .i64 o, .int .i64 need] W (Fq W R) := fun W hM => by
 rw [← hR]
 exact aAf mp (fV l) K o need W hM (by omega) (fun b hb => by
  obtain ⟨p, hp, e⟩ := X4 _ hb
  obtain ⟨f, hf, e2⟩ := List.mem_map.1 hp
  have := hH.short f hf
  rw [← e, ← e2]; dsimp only; omega) (by omega) (by have := hH.n0; have := hH.n1; omega)
theorem Zu (name : ByteArray) (kd : Int) (P : Nat → Prop) (A1 : Option Addr) (c1 : Nat) (bE : List Int) (data : ByteArray) (A2 : Option Addr) (c2 : Nat) (few : List Int) (A3 : Option Addr) (c3 : Nat) (many : List Int) (raw : Bool) (A4 : Option Addr) (c4 : Nat) (ext : List ByteArray) (wh els : Int) (mp : Option Nat) (l : List jK) (w : World)
 (h1 : Kd.F (Kd.int .i64) w P A1 bE.length bE) (h1c : bE.length ≤ c1) (hf : few.length ≤ 65536) (hm : many.length ≤ 65536) (hx : Kd.C Kd.string w A4 ext.length ext) (hs : ∀ s ∈ ext, s.size ≤ 10000) (hM : oZ w mp (fV l)) (hH : ql name (els * gF kd) l) :
 Calls Tryz.prog 23 #[.agg #[.string name, .int .i64 kd, .slice A1 bE.length c1, .string data, .slice A2 few.length c2, .slice A3 many.length c3, .bool raw, .slice A4 ext.length c4, .int .u64 wh, .int .i64 els], .agg #[.map mp]] w (G7 w P (lG name kd bE (zR (raw || decide (0 < few.length + many.length)) ext (els * gF kd) (fV l)))) := by
 have tN := Tryz.underlying59
 have lZ := Tryz.underlying33
 have Ou := Tryz.underlying25
 have H1 := aA h1
 have yH := aA h1c
 have HX := aA hx
 have I_ := aA hs
 have HM := aA hM
 have HH := aA hH
 have HB := aC.mk (Below.refl w.heap.size w)
 obtain ⟨need, hN⟩ : ∃ need, els * gF kd = need := ⟨_, rfl⟩
 rw [hN] at HH ⊢
 have I8 := aA hN
 have hz : IntKind.i64.wrap ((few.length : Int) + (many.length : Int)) = (few.length : Int) + (many.length : Int) := by rw [dC]; exact fC (by omega) (by omega)
 clear h1 h1c hx hs hM hH hN
 obtain ⟨full, hfu⟩ : ∃ full, (raw || decide (0 < few.length + many.length)) = full := ⟨_, rfl⟩
 rw [hfu]
 obtain ⟨R, hR⟩ : ∃ R, lG name kd bE (zR full ext need (fV l)) = R := ⟨_, rfl⟩
 rw [hR]
 have HR := aA hR.symm
 clear hR
 go_enter Tryz.func23, Tryz.ntmps23
 cases full with
 | true =>
  have HR4 := aA (show R = (iJ, 19) from HR.out.trans (LC name kd bE (by decide)))
  clear HR
  cases raw with
  | true =>
   clear hfu hz hf hm
   go_wp2_with (first | ((with_reducible refine cK (N := 2) rfl ?_); refine dB (N := 2) (cs := #[.string name, .int .i64 kd, .slice A1 bE.length c1, .string data, .slice A2 few.length c2, .slice A3 many.length c3, .bool true, .slice A4 ext.length c4, .int .u64 wh, .int .i64 els]) (t := 59) ?_; intro gm hg w1 aG hb; have BM := aA aG; replace HB := hbS HB hb; replace HM := aA (HM.out.kept hb); clear hb aG hg) | ((with_reducible refine cK (N := 3) rfl ?_); refine dB (N := 3) (cs := #[.map mp]) (t := 25) ?_; intro gs hg w2 aG hb; have BS := aA aG; replace BM := aI BM hb; replace HB := hbS HB hb; replace HM := aA (HM.out.kept hb); clear hb aG hg) | ((with_reducible refine cK (N := 4) rfl ?_); refine dB (N := 4) (cs := #[.string ⟨#[]⟩, .int .i64 0, .slice none 0 0, .string ⟨#[]⟩]) (t := 33) ?_; intro gr hg w3 aG hb; have BR := aA aG; have GR := bB HB hg; have wL := cO BM hg; have wM := dD BM hg; have KM := cO BS hg; replace BM := aI BM hb; replace BS := aI BS hb; replace HB := hbS HB hb; replace HM := aA (HM.out.kept hb); clear hb aG hg; obtain ⟨hm0, hm1, hm2, kG, jQ, jR, kH, jL, jS, jE⟩ := pU BM; obtain ⟨hr0, hr1, hr2, hr3⟩ := aN BR; have fJ := fz BR 0; have fQ := fz BR 1; have fT := fz BR 2; have fU := fz BR 3))
   refine bodyPost_ret (eP rfl _ _ gr 33 #[.string ⟨#[]⟩, .int .i64 0, .slice none 0 0, .string ⟨#[]⟩] (0, 0) _ rfl (aU BR) lZ rfl (by kernel_rfl)) rfl ?_
   exact jH HR4.out (dR HB.out GR.out)
  | false =>
   have b0 : decide (0 < (few.length : Int) + (many.length : Int)) = true := dT (by have := of_decide_eq_true (show decide (0 < few.length + many.length) = true from hfu); omega)
   clear hfu hf hm
   go_wp2_with (first | ((with_reducible refine cK (N := 2) rfl ?_); refine dB (N := 2) (cs := #[.string name, .int .i64 kd, .slice A1 bE.length c1, .string data, .slice A2 few.length c2, .slice A3 many.length c3, .bool false, .slice A4 ext.length c4, .int .u64 wh, .int .i64 els]) (t := 59) ?_; intro gm hg w1 aG hb; have BM := aA aG; replace HB := hbS HB hb; replace HM := aA (HM.out.kept hb); clear hb aG hg) | ((with_reducible refine cK (N := 3) rfl ?_); refine dB (N := 3) (cs := #[.map mp]) (t := 25) ?_; intro gs hg w2 aG hb; have BS := aA aG; replace BM := aI BM hb; replace HB := hbS HB hb; replace HM := aA (HM.out.kept hb); clear hb aG hg) | ((with_reducible refine cK (N := 4) rfl ?_); refine dB (N := 4) (cs := #[.string ⟨#[]⟩, .int .i64 0, .slice none 0 0, .string ⟨#[]⟩]) (t := 33) ?_; intro gr hg w3 aG hb; have BR := aA aG; have GR := bB HB hg; have wL := cO BM hg; have wM := dD BM hg; have KM := cO BS hg; replace BM := aI BM hb; replace BS := aI BS hb; replace HB := hbS HB hb; replace HM := aA (HM.out.kept hb); clear hb aG hg; obtain ⟨hm0, hm1, hm2, kG, jQ, jR, kH, jL, jS, jE⟩ := pU BM; obtain ⟨hr0, hr1, hr2, hr3⟩ := aN BR; have fJ := fz BR 0; have fQ := fz BR 1; have fT := fz BR 2; have fU := fz BR 3))
   refine bodyPost_ret (eP rfl _ _ gr 33 #[.string ⟨#[]⟩, .int .i64 0, .slice none 0 0, .string ⟨#[]⟩] (0, 0) _ rfl (aU BR) lZ rfl (by kernel_rfl)) rfl ?_
   exact jH HR4.out (dR HB.out GR.out)
 | false =>
  have yt := aA (show raw = false ∧ ¬ 0 < few.length + many.length from by
   cases raw with
   | true => cases hfu
   | false => exact ⟨rfl, of_decide_eq_false hfu⟩)
  obtain rfl := yt.out.1
  have b0 : decide (0 < (few.length : Int) + (many.length : Int)) = false := dF (by have := yt.out.2; omega)
  clear hfu yt hf hm
  go_wp2_with (first | ((with_reducible refine cK (N := 2) rfl ?_); refine dB (N := 2) (cs := #[.string name, .int .i64 kd, .slice A1 bE.length c1, .string data, .slice A2 few.length c2, .slice A3 many.length c3, .bool false, .slice A4 ext.length c4, .int .u64 wh, .int .i64 els]) (t := 59) ?_; intro gm hg w1 aG hb; have BM := aA aG; replace HB := hbS HB hb; replace HM := aA (HM.out.kept hb); clear hb aG hg) | ((with_reducible refine cK (N := 3) rfl ?_); refine dB (N := 3) (cs := #[.map mp]) (t := 25) ?_; intro gs hg w2 aG hb; have BS := aA aG; replace BM := aI BM hb; replace HB := hbS HB hb; replace HM := aA (HM.out.kept hb); clear hb aG hg) | ((with_reducible refine cK (N := 4) rfl ?_); refine dB (N := 4) (cs := #[.string ⟨#[]⟩, .int .i64 0, .slice none 0 0, .string ⟨#[]⟩]) (t := 33) ?_; intro gr hg w3 aG hb; have BR := aA aG; have GR := bB HB hg; have wL := cO BM hg; have wM := dD BM hg; have KM := cO BS hg; replace BM := aI BM hb; replace BS := aI BS hb; replace HB := hbS HB hb; replace HM := aA (HM.out.kept hb); clear hb aG hg; obtain ⟨hm0, hm1, hm2, kG, jQ, jR, kH, jL, jS, jE⟩ := pU BM))
  refine (Ws name kd A1 bE.length c1 data A2 few.length c2 A3 many.length c3 false A4 c4 ext wh els _ (Kd.gN HX.out HB.out) (fun s hs => by have := I_.out s hs; omega)).mono ?_
  rintro e w4 ⟨mp2, rfl, hM2, hb⟩
  replace BM := aI BM hb
  replace BS := aI BS hb
  replace BR := aI BR hb
  replace HM := aA (HM.out.kept hb)
  replace HB := hbS HB hb
  have x_ := aA (El 10000 ext [] I_.out (fun p hp => by cases hp))
  obtain ⟨E, ec, hE⟩ : ∃ E ec, o7 ext [] = (E, ec) := ⟨_, _, rfl⟩
  rw [hE] at hM2 x_ ⊢
  dsimp only at hM2 x_ ⊢
  have l8 := aA hM2
  have HR2 := aA (HR.out.trans (by unfold zR; rw [iN (by decide), hE]))
  clear hE hb hM2 HR hm0 hm1 hm2 kG jQ jR kH jL jS jE b0 hz
  by_cases h0 : ec ≠ 0
  · have b0 : (ec != 0) = true := bne_iff_ne.2 h0
    have HR4 := aA (show R = (iJ, ec) from HR2.out.trans (by rw [ip h0]; exact LC _ _ _ h0))
    clear h0 HR2
    obtain ⟨hr0, hr1, hr2, hr3⟩ := aN BR
    have fJ := fz BR 0
    have fQ := fz BR 1
    have fT := fz BR 2
    have fU := fz BR 3
    go_wp2
    refine bodyPost_ret (eP rfl _ _ gr 33 #[.string ⟨#[]⟩, .int .i64 0, .slice none 0 0, .string ⟨#[]⟩] (0, 0) _ rfl (aU BR) lZ rfl (by kernel_rfl)) rfl ?_
    exact jH HR4.out (dR HB.out GR.out)
  have b0 : (ec != 0) = false := bne_eq_false_iff_eq.2 (Classical.not_not.1 h0)
  have HR3 := aA (show R = lG name kd bE (rZ E need (fV l)) from HR2.out.trans (by rw [iN h0]))
  clear h0 HR2
  have hlk := SQ l8.out (⟨#[108, 111, 99, 97, 116, 105, 111, 110]⟩ : ByteArray)
  rw [show fB E (⟨#[108, 111, 99, 97, 116, 105, 111, 110]⟩ : ByteArray) = fB E qM from rfl] at hlk
  cases hLo : fB E qM with
  | none =>
   rw [hLo] at hlk
   have HR4 := aA (show R = (iJ, 18) from HR3.out.trans (by rw [Lf hLo]; exact LC _ _ _ (by decide)))
   clear hLo
   obtain ⟨hr0, hr1, hr2, hr3⟩ := aN BR
   have fJ := fz BR 0
   have fQ := fz BR 1
   have fT := fz BR 2
   have fU := fz BR 3
   go_wp2
   refine bodyPost_ret (eP rfl _ _ gr 33 #[.string ⟨#[]⟩, .int .i64 0, .slice none 0 0, .string ⟨#[]⟩] (0, 0) _ rfl (aU BR) lZ rfl (by kernel_rfl)) rfl ?_
   exact jH HR4.out (dR HB.out GR.out)
  | some K =>
   rw [hLo] at hlk
   have zS := aA hLo
   have UY := aA (show K.size ≤ 10000 from by
    obtain ⟨p, hp, e⟩ := X4 E hLo
    rw [← e]; exact x_.out p hp)
   clear hLo x_
   obtain ⟨hm0, hm1, hm2, kG, jQ, jR, kH, jL, jS, jE⟩ := pU BM
   go_wp2_with (first | fail)
   replace BM := aA (kU BM.out)
   replace BS := aA (kU BS.out)
   replace BR := aA (kU BR.out)
   replace HM := aA (show oZ w4.drew mp (fV l) from HM.out)
   replace l8 := aA (show oZ w4.drew mp2 E from l8.out)
   replace HB := aA (iO HB.out)
   have hmul : wrap64 (els * gF kd) = need := by rw [I8.out]; have h0 := HH.out.n0; have h1 := HH.out.n1; exact fC (by omega) (by omega)
   clear hm0 hm1 hm2 kG jQ jR kH jL jS jE hlk
   refine vQ (n := 8) (S := fun w' => w'.heap[gm]? = some (.cells #[.string name, .int .i64 kd, .slice A1 bE.length c1, .string data, .slice A2 few.length c2, .slice A3 many.length c3, .bool false, .slice A4 ext.length c4, .int .u64 wh, .int .i64 els] 59 (0, 0))) (ds := []) (bA 8 0) (by kernel_rfl) rfl rfl BM.out (fun hHeld => ?_)
   generalize w4.drew = wk0 at BM BS BR HM l8 HB hHeld ⊢
   refine yC (i := 0) (N := some 48) (v := ?_) (a' := ?_) (bA 8 1) rfl rfl (by kernel_rfl) (fun _ _ _ h => h) (Or.inl ⟨by rfl, ?_⟩) hHeld ?_ ?_
   rotate_left
   · intro w' hs
     obtain ⟨hm0, hm1, hm2, kG, jQ, jR, kH, jL, jS, jE⟩ := pU (aA hs)
     go_simp
     with_reducible rfl
   rotate_left
   · simp only [Act.put, List.setIfInBounds_toArray, List.set_cons_zero, List.set_cons_succ, dC, iC]
     rfl
   refine yC (i := 1) (N := some 49) (v := ?_) (a' := ?_) (bA 8 3) rfl rfl (by kernel_rfl) (fun _ _ _ h => h) (Or.inl ⟨by rfl, ?_⟩) hHeld ?_ ?_
   rotate_left
   · intro w' hs
     obtain ⟨hm0, hm1, hm2, kG, jQ, jR, kH, jL, jS, jE⟩ := pU (aA hs)
     go_simp
     with_reducible rfl
   rotate_left
   · simp only [Act.put, List.setIfInBounds_toArray, List.set_cons_zero, List.set_cons_succ, dC, iC]
     rfl
   refine yC (i := 2) (N := some 50) (v := ?_) (a' := ?_) (bA 8 7) rfl rfl (by kernel_rfl) (fun _ _ _ h => h) (Or.inl ⟨by rfl, ?_⟩) hHeld ?_ ?_
   rotate_left
   · intro w' hs
     obtain ⟨hm0, hm1, hm2, kG, jQ, jR, kH, jL, jS, jE⟩ := pU (aA hs)
     go_simp
     with_reducible rfl
   rotate_left
   · simp only [Act.put, List.setIfInBounds_toArray, List.set_cons_zero, List.set_cons_succ, dC, iC]
     rfl
   refine yC (i := 3) (N := some 51) (v := ?_) (a' := ?_) (bA 8 15) rfl rfl (by kernel_rfl) (fun _ _ _ h => h) (Or.inl ⟨by rfl, ?_⟩) hHeld ?_ ?_
   rotate_left
   · intro w' hs
     obtain ⟨hm0, hm1, hm2, kG, jQ, jR, kH, jL, jS, jE⟩ := pU (aA hs)
     go_simp
     with_reducible rfl
   rotate_left
   · simp only [Act.put, List.setIfInBounds_toArray, List.set_cons_zero, List.set_cons_succ, dC, iC]
     rfl
   refine yC (i := 4) (N := some 52) (v := ?_) (a' := ?_) (bA 8 31) rfl rfl (by kernel_rfl) (fun _ _ _ h => h) (Or.inl ⟨by rfl, ?_⟩) hHeld ?_ ?_
   rotate_left
   · intro w' hs
     obtain ⟨hm0, hm1, hm2, kG, jQ, jR, kH, jL, jS, jE⟩ := pU (aA hs)
     go_simp
     with_reducible rfl
   rotate_left
   · simp only [Act.put, List.setIfInBounds_toArray, List.set_cons_zero, List.set_cons_succ, dC, iC]
     rfl
   refine sN (i := 5) (N := some 53) (bA 8 63) rfl rfl (by kernel_rfl) (by decide) (fun K_ hK => ?_)
   refine xO Tryz.func56 (by kernel_rfl) rfl #[.int .i64 kd] (by rfl) rfl rfl ?_
   refine (oV.calls kd (gF kd) _ rfl).mono ?_
   rintro e wk ⟨rfl, hb⟩
   refine ⟨_, rfl, ?_⟩
   clear hHeld
   replace BM := aI BM hb
   replace BS := aI BS hb
   replace BR := aI BR hb
   replace HM := aA (HM.out.kept hb)
   replace HB := hbS HB hb
   replace l8 := aA (l8.out.kept hb)
   clear hb
   refine hK.out _ _ BM.out (fun hHeld => ?_)
   clear hK K_
   refine xP 53 ?_
   refine JC (i := 6) (N := some 54) (bA 8 127) ?_
   refine JC (i := 7) (N := some 10) (bA 8 255) ?_
   refine FL (by kernel_rfl) ?_
   rw [hmul]
   clear hmul I8
   have hlk := SQ l8.out (⟨#[111, 102, 102, 115, 101, 116]⟩ : ByteArray)
   rw [show fB E (⟨#[111, 102, 102, 115, 101, 116]⟩ : ByteArray) = fB E rT from rfl] at hlk
   cases hO : fB E rT
   rotate_left
   focus
    rename_i xo
    rw [hO] at hlk
    go_wp2_with (first | fail)
    rcases aj xo 0 with ⟨m1, m2⟩ | ⟨n2, m1, m2, m3⟩
    · have HR4 := aA (show R = (iJ, 17) from HR3.out.trans (by rw [Hm zS.out (by rw [hO]; exact m1)]; exact LC _ _ _ (by decide)))
      have HP := aA (Ei m1)
      clear m1 m2 hO hlk
      refine (lS.calls 20 xo (zQ xo).1 (zQ xo).2 _ (YV xo 20 (Nat.le_refl _))).mono ?_
      rintro e wd ⟨rfl, hd⟩
      rw [HP.out]
      have hb := wU hd
      replace BM := aI BM hb
      replace BS := aI BS hb
      replace BR := aI BR hb
      replace HM := aA (HM.out.kept hb)
      replace HB := hbS HB hb
      replace l8 := aA (l8.out.kept hb)
      clear hb hd
      obtain ⟨hr0, hr1, hr2, hr3⟩ := aN BR
      have fJ := fz BR 0
      have fQ := fz BR 1
      have fT := fz BR 2
      have fU := fz BR 3
      go_wp2
      refine bodyPost_ret (eP rfl _ _ gr 33 #[.string ⟨#[]⟩, .int .i64 0, .slice none 0 0, .string ⟨#[]⟩] (0, 0) _ rfl (aU BR) lZ rfl (by kernel_rfl)) rfl ?_
      exact jH HR4.out (dR HB.out GR.out)
    have HP := aA (Ej m1)
    obtain ⟨rd, rc, hrd⟩ : ∃ rd rc, sJ (fV l) K (n2 : Int) need = (rd, rc) := ⟨_, _, rfl⟩
    have rf := aA (Nu (mp := mp) HH.out UY.out (by omega) hrd)
    have uV := aA (show rd.size ≤ 1000000000 from by have h := XD (L := fV l) (key := K) (o := (n2 : Int)) HH.out.n1 HH.out.n0; rw [hrd] at h; exact h)
    have UX := aA (show pF (fB E mX) need = some need → rZ E need (fV l) = (rd, rc) from fun h => (YW zS.out (by rw [hO]; exact m1) h).trans hrd)
    have A_ := aA (show pF (fB E mX) need = none → rZ E need (fV l) = (⟨#[]⟩, 17) from fun h => bz zS.out (by rw [hO]; exact m1) h)
    have z_ := aA (show ∀ n, pF (fB E mX) need = some n → n ≠ need → rZ E need (fV l) = (⟨#[]⟩, 7) from fun n h hn => oq zS.out (by rw [hO]; exact m1) h hn)
    clear hrd
    clear m1 m2 m3 hO hlk
    refine (lS.calls 20 xo (zQ xo).1 (zQ xo).2 _ (YV xo 20 (Nat.le_refl _))).mono ?_
    rintro e wd ⟨rfl, hd⟩
    rw [HP.out]
    have hb := wU hd
    replace BM := aI BM hb
    replace BS := aI BS hb
    replace BR := aI BR hb
    replace HM := aA (HM.out.kept hb)
    replace HB := hbS HB hb
    replace l8 := aA (l8.out.kept hb)
    clear hb hd
   rotate_left
   focus
    rw [hO] at hlk
    obtain ⟨rd, rc, hrd⟩ : ∃ rd rc, sJ (fV l) K (0 : Int) need = (rd, rc) := ⟨_, _, rfl⟩
    have rf := aA (Nu (mp := mp) HH.out UY.out (by decide) hrd)
    have uV := aA (show rd.size ≤ 1000000000 from by have h := XD (L := fV l) (key := K) (o := (0 : Int)) HH.out.n1 HH.out.n0; rw [hrd] at h; exact h)
    have UX := aA (show pF (fB E mX) need = some need → rZ E need (fV l) = (rd, rc) from fun h => (YW zS.out (by rw [hO]; rfl) h).trans hrd)
    have A_ := aA (show pF (fB E mX) need = none → rZ E need (fV l) = (⟨#[]⟩, 17) from fun h => bz zS.out (by rw [hO]; rfl) h)
    have z_ := aA (show ∀ n, pF (fB E mX) need = some n → n ≠ need → rZ E need (fV l) = (⟨#[]⟩, 7) from fun n h hn => oq zS.out (by rw [hO]; rfl) h hn)
    clear hrd
    go_upto_region 12 with (fail)
    clear hO hlk
   all_goals
    have hlk := SQ l8.out (⟨#[108, 101, 110, 103, 116, 104]⟩ : ByteArray)
    rw [show fB E (⟨#[108, 101, 110, 103, 116, 104]⟩ : ByteArray) = fB E mX from rfl] at hlk
    cases hO2 : fB E mX
    rotate_left
    focus
     rename_i xl
     rw [hO2] at hlk
     (try go_simp)
     go_wp2_with (first | fail)
     rcases aj xl need with ⟨m1, m2⟩ | ⟨n3, m1, m2, m3⟩
     · have HR4 := aA (show R = (iJ, 17) from HR3.out.trans (by rw [A_.out (by rw [hO2]; exact m1)]; exact LC _ _ _ (by decide)))
       have VS := aA (Ei m1)
       clear m1 m2 hO2 hlk
       refine (lS.calls 20 xl (zQ xl).1 (zQ xl).2 _ (YV xl 20 (Nat.le_refl _))).mono ?_
       rintro e wd ⟨rfl, hd⟩
       rw [VS.out]
       have hb := wU hd
       replace BM := aI BM hb
       replace BS := aI BS hb
       replace BR := aI BR hb
       replace HM := aA (HM.out.kept hb)
       replace HB := hbS HB hb
       replace l8 := aA (l8.out.kept hb)
       clear hb hd
       obtain ⟨hr0, hr1, hr2, hr3⟩ := aN BR
       have fJ := fz BR 0
       have fQ := fz BR 1
       have fT := fz BR 2
       have fU := fz BR 3
       go_wp2
       refine bodyPost_ret (eP rfl _ _ gr 33 #[.string ⟨#[]⟩, .int .i64 0, .slice none 0 0, .string ⟨#[]⟩] (0, 0) _ rfl (aU BR) lZ rfl (by kernel_rfl)) rfl ?_
       exact jH HR4.out (dR HB.out GR.out)
     have VS := aA (Ej m1)
     have MM := aA (show pF (fB E mX) need = some (n3 : Int) from by rw [hO2]; exact m1)
     clear m1 m2 m3 hO2 hlk
     refine (lS.calls 20 xl (zQ xl).1 (zQ xl).2 _ (YV xl 20 (Nat.le_refl _))).mono ?_
     rintro e wd ⟨rfl, hd⟩
     rw [VS.out]
     have hb := wU hd
     replace BM := aI BM hb
     replace BS := aI BS hb
     replace BR := aI BR hb
     replace HM := aA (HM.out.kept hb)
     replace HB := hbS HB hb
     replace l8 := aA (l8.out.kept hb)
     clear hb hd
     by_cases hm : (n3 : Int) = need
     rotate_left
     · have b2 : ((n3 : Int) != need) = true := bne_iff_ne.2 hm
       have HR4 := aA (show R = (iJ, 7) from HR3.out.trans (by rw [z_.out _ MM.out hm]; exact LC _ _ _ (by decide)))
       clear hm
       obtain ⟨hr0, hr1, hr2, hr3⟩ := aN BR
       have fJ := fz BR 0
       have fQ := fz BR 1
       have fT := fz BR 2
       have fU := fz BR 3
       go_wp2
       refine bodyPost_ret (eP rfl _ _ gr 33 #[.string ⟨#[]⟩, .int .i64 0, .slice none 0 0, .string ⟨#[]⟩] (0, 0) _ rfl (aU BR) lZ rfl (by kernel_rfl)) rfl ?_
       exact jH HR4.out (dR HB.out GR.out)
     have HR4 := aA (show R = lG name kd bE (rd, rc) from HR3.out.trans (by rw [UX.out (by rw [MM.out, hm])]))
     clear HR3 UX A_ z_ MM
     subst hm
     have b2 : ((n3 : Int) != (n3 : Int)) = false := bne_self_eq_false _
    rotate_left
    focus
     rw [hO2] at hlk
     (try go_simp)
     have HR4 := aA (show R = lG name kd bE (rd, rc) from HR3.out.trans (by rw [UX.out (by rw [hO2]; rfl)]))
     clear hO2 HR3 UX A_ z_
     have b2 : (need != need) = false := bne_self_eq_false _
   all_goals
    obtain ⟨hm0, hm1, hm2, kG, jQ, jR, kH, jL, jS, jE⟩ := pU BM
    go_wp2_with (first | ((with_reducible refine cK (N := 17) rfl ?_); refine dB (N := 17) (cs := #[.string ⟨#[]⟩, .int .i64 0, .slice none 0 0, .string ⟨#[]⟩]) (t := 33) ?_; intro gt hg wx aG hb; have BT := aA aG; have GT := bB HB hg; have zT := cO BM hg; have zU := dD BM hg; have OV := cO BS hg; have OW := dD BS hg; have lM := cO BR hg; have l9 := dD BR hg; replace BM := aI BM hb; replace BS := aI BS hb; replace BR := aI BR hb; replace HM := aA (HM.out.kept hb); replace HB := hbS HB hb; clear hb aG hg hm0 hm1 hm2 kG jQ jR kH jL jS jE; obtain ⟨hm0, hm1, hm2, kG, jQ, jR, kH, jL, jS, jE⟩ := pU BM; obtain ⟨ht0, ht1, ht2, ht3⟩ := aN BT; have CY := fz BT 0; have CZ := fz BT 1; have C8 := fz BT 2; have qB := fz BT 3; have hs0 := iA BS; have n1 := OV.out; have n2 := OW.out))
    obtain ⟨wy, hw⟩ : ∃ wb, wb = (((wx.setCell ⟨gt, 0, none⟩ (.string name)).setCell ⟨gt, 1, none⟩ (.int .i64 kd)).setCell ⟨gt, 2, none⟩ (.slice A1 bE.length c1)).setCell ⟨gt, 3, none⟩ (.string data) := ⟨_, rfl⟩
    rw [← hw]
    replace BR := aA (show wy.heap[gr]? = some _ from by rw [hw]; exact aU BR)
    replace HM := aA (show oZ wy mp (fV l) from by rw [hw]; exact (((HM.out.set BT.out _).set (jT BT.out 0 _) _).set (jT (jT BT.out 0 _) 1 _) _).set (jT (jT (jT BT.out 0 _) 1 _) 2 _) _)
    replace BT := aA (show wy.heap[gt]? = some (.cells #[.string name, .int .i64 kd, .slice A1 bE.length c1, .string data] 33 (0, 0)) from by rw [hw]; exact aU BT)
    replace HB := aA (show Below w.heap.size w wy from by rw [hw]; exact dR HB.out GT.out)
    clear hw hm0 hm1 hm2 kG jQ jR kH jL jS jE ht0 ht1 ht2 ht3 CY CZ C8 qB hs0 n1 n2 BM BS l8
    refine (rf.out _ HM.out).mono ?_
    rintro e wv ⟨rfl, hb⟩
    replace BR := aI BR hb
    replace BT := aI BT hb
    replace HB := hbS HB hb
    clear hb HM rf
    dsimp only
    obtain ⟨ht0, ht1, ht2, ht3⟩ := aN BT
    have qB := fz BT 3
    have n1 := lM.out
    have n2 := l9.out
    by_cases h0 : rc ≠ 0
    · have b0 : (rc != 0) = true := bne_iff_ne.2 h0
      replace HR4 := aA (show R = (iJ, rc) from HR4.out.trans (LC _ _ _ h0))
      clear h0
      obtain ⟨hr0, hr1, hr2, hr3⟩ := aN BR
      have fJ := fz BR 0
      have fQ := fz BR 1
      have fT := fz BR 2
      have fU := fz BR 3
      go_wp2
      refine bodyPost_ret (eP rfl _ _ gr 33 #[.string ⟨#[]⟩, .int .i64 0, .slice none 0 0, .string ⟨#[]⟩] (0, 0) _ rfl (aU BR) lZ rfl (by kernel_rfl)) rfl ?_
      exact jH HR4.out (dR (fD HB.out GT.out) GR.out)
    · have b0 : (rc != 0) = false := bne_eq_false_iff_eq.2 (Classical.not_not.1 h0)
      obtain rfl : rc = 0 := Classical.not_not.1 h0
      have qH := aA (show R = ((name, kd, bE, rd), qR name kd bE rd) from HR4.out.trans (jc _ _ _ _))
      clear h0 HR4
      go_wp2_with (first | fail)
      obtain ⟨wz, hw⟩ : ∃ wb, wb = wv.setCell ⟨gt, 3, none⟩ (.string rd) := ⟨_, rfl⟩
      rw [← hw]
      replace BR := aA (show wz.drew.heap[gr]? = some _ from by rw [hw]; exact kU (aU BR))
      replace BT := aA (show wz.drew.heap[gt]? = some (.cells #[.string name, .int .i64 kd, .slice A1 bE.length c1, .string rd] 33 (0, 0)) from by rw [hw]; exact kU (aU BT))
      replace HB := aA (show Below w.heap.size w wz.drew from by rw [hw]; exact iO (fD HB.out GT.out))
      clear hw ht0 ht1 ht2 ht3 qB n1 n2
      refine vQ (n := 5) (S := fun w' => w'.heap[gt]? = some (.cells #[.string name, .int .i64 kd, .slice A1 bE.length c1, .string rd] 33 (0, 0))) (ds := []) (bA 5 0) (by kernel_rfl) rfl rfl BT.out (fun hHeld => ?_)
      generalize wz.drew = we at BR BT HB hHeld ⊢
      refine yC (i := 0) (N := some 103) (v := ?_) (a' := ?_) (bA 5 1) rfl rfl (by kernel_rfl) (fun _ _ _ h => h) (Or.inl ⟨by rfl, ?_⟩) hHeld ?_ ?_
      rotate_left
      · intro w' hs
        obtain ⟨s0, s1, s2, s3⟩ := aN (aA hs)
        go_simp
        with_reducible rfl
      rotate_left
      · simp only [Act.put, List.setIfInBounds_toArray, List.set_cons_zero, List.set_cons_succ, dC, iC]
        rfl
      refine yC (i := 1) (N := some 104) (v := ?_) (a' := ?_) (bA 5 3) rfl rfl (by kernel_rfl) (fun _ _ _ h => h) (Or.inl ⟨by rfl, ?_⟩) hHeld ?_ ?_
      rotate_left
      · intro w' hs
        obtain ⟨s0, s1, s2, s3⟩ := aN (aA hs)
        go_simp
        with_reducible rfl
      rotate_left
      · simp only [Act.put, List.setIfInBounds_toArray, List.set_cons_zero, List.set_cons_succ, dC, iC]
        rfl
      refine sN (i := 2) (N := some 105) (bA 5 7) rfl rfl (by kernel_rfl) (by decide) (fun K_ hK => ?_)
      refine xO Tryz.func34 (by kernel_rfl) rfl #[.agg #[.string name, .int .i64 kd, .slice A1 bE.length c1, .string rd]] (by rfl) rfl rfl ?_
      refine (xQ.calls name kd A1 c1 bE rd _ we (Kd.gN (Kd.mK H1.out) HB.out) yH.out (ZI name kd bE rd HH.out.nm (by have := uV.out; omega))).mono ?_
      rintro e wf ⟨rfl, hb⟩
      refine ⟨_, rfl, ?_⟩
      replace BR := aI BR hb
      replace BT := aI BT hb
      replace HB := hbS HB hb
      clear hb hHeld
      refine hK.out _ _ BT.out (fun hHeld => ?_)
      clear hK K_
      refine xP 105 ?_
      refine sN (i := 3) (N := none) (bA 5 15) rfl rfl (by kernel_rfl) (by decide) (fun K_ hK => ?_)
      obtain ⟨hr0, hr1, hr2, hr3⟩ := aN BR
      have fJ := fz BR 0
      have fQ := fz BR 1
      have fT := fz BR 2
      have fU := fz BR 3
      have n3 := lM.out
      have n4 := l9.out
      refine J6 (w1 := ?_) (by rfl) rfl ?_ ?_
      rotate_left
      · go_simp
        rfl
      refine hK.out _ _ (aU BT) (fun hHeld => ?_)
      clear hK K_
      refine JC (i := 4) (N := some 5) (bA 5 31) ?_
      refine FL (by kernel_rfl) ?_
      go_wp2
      refine bodyPost_ret (eP rfl _ _ gr 33 #[.string name, .int .i64 kd, .slice A1 bE.length c1, .string rd] (0, 0) _ rfl (aU BR) lZ rfl (by kernel_rfl)) rfl ?_
      exact PN qH.out (dR HB.out GR.out) H1.out yH.out
theorem _W (B : Nat) : ∀ (l : List Fl) (out : List ByteArray), (∀ x ∈ l, x.2.2.2.size ≤ B) → (∀ s ∈ out, s.size ≤ B) → ∀ s ∈ (vR l out).1, s.size ≤ B
 | [], out, _, ho => ho
 | f :: l, out, hl, ho => by
  rw [vR]
  split
  · refine _W B l _ (fun x hx => hl x (List.mem_cons_of_mem _ hx)) (fun s hs => ?_)
    rcases List.mem_append.1 hs with h | h
    · exact ho s h
    · rw [List.mem_singleton.1 h]; exact hl f (List.mem_cons_self ..)
  · intro s hs; cases hs
theorem Em (b : ByteArray) : ∀ x ∈ (eX b).1, x.2.2.2.size ≤ b.size := by
 intro x hx
 unfold eX at hx
 by_cases h : b.size > 1048576
 · rw [ip h] at hx; cases hx
 · rw [iN h] at hx
   exact _H _ b x hx
structure o_ (B : Nat) (m : uQ) : Prop where
 name : m.name.size ≤ B
 data : m.data.size ≤ B
 few : m.few.length ≤ 65536
 many : m.many.length ≤ 65536
 ext : ∀ s ∈ m.ext, s.size ≤ B
 n0 : 0 ≤ m.els * gF m.kind
 n1 : m.els * gF m.kind ≤ 1000000
 els : 0 ≤ m.els ∧ m.els ≤ 65536
theorem NL (B : Nat) : o_ B mY := ⟨Nat.zero_le _, Nat.zero_le _, Nat.zero_le _, Nat.zero_le _, (fun s hs => by cases hs), by decide, by decide, by decide⟩
theorem Kw (k : Int) : 0 ≤ gF k ∧ gF k ≤ 8 := by
 unfold gF
 repeat' split
 all_goals omega
theorem ae : ∀ (l : List Int) (n : Int) (z : Bool), ¬ (nX l n z).2 = 0 → (nX l n z).1 = 0
 | [], n, z, h => by
  rw [nX] at h ⊢
  by_cases h1 : z = true
  · rw [ip h1]
  · rw [iN h1] at h ⊢
    by_cases h2 : n > 65536
    · rw [ip h2]
    · rw [iN h2] at h; exact absurd rfl h
 | d :: l, n, z, h => by
  rw [nX] at h ⊢
  by_cases h1 : d > 65536
  · rw [ip h1]
  · rw [iN h1] at h ⊢
    by_cases h2 : d = 0
    · rw [ip h2] at h ⊢; exact ae l _ _ h
    · rw [iN h2] at h ⊢; exact ae l _ _ h
theorem Dh (l : List Int) : 0 ≤ (kE l).1 ∧ (kE l).1 ≤ 65536 := by
 by_cases h : (kE l).2 = 0
 · exact _V h
 · have : (kE l).1 = 0 := by
    unfold kE at h ⊢
    split
    · rfl
    · split
      · rfl
      · rename_i h1 h2
        rw [iN h1, iN h2] at h
        exact ae l 1 false h
   omega
theorem Wh {B : Nat} (k2 : Int) (n3 d3 : ByteArray) (dO : Bool) (o2 : Int) (x1 x5 x7 : List Int) (ts : List ByteArray) (kd : Int) (hn : n3.size ≤ B) (hd : d3.size ≤ B) (h5 : x5.length ≤ 65536) (h7 : x7.length ≤ 65536) (ht : ∀ s ∈ ts, s.size ≤ B) : o_ B (xC k2 n3 d3 dO o2 x1 x5 x7 ts kd).1 := by
 unfold xC
 split
 · exact NL _
 · split
   · exact NL _
   · split
     · exact NL _
     · have hs := Dh x1
       have h8 := Kw kd
       exact ⟨hn, hd, h5, h7, ht, Int.mul_nonneg hs.1 h8.1, Int.le_trans (Int.mul_le_mul hs.2 h8.2 h8.1 (by decide)) (by decide), hs⟩
theorem Dn (b : ByteArray) : o_ b.size (jM b).1 := by
 unfold jM
 split
 · exact NL _
 · unfold YU P9
   split
   · exact NL _
   · unfold jl DY
     split
     · exact NL _
     · split
       · exact NL _
       · refine Wh _ _ _ _ _ _ _ _ _ _ (PK b 8) (PK b 9) (PI _ _ (Nat.zero_le _)) (PI _ _ (Nat.zero_le _)) (_W _ _ _ (fun x hx => ?_) (fun s hs => by cases hs))
         obtain ⟨y, hy, rfl⟩ := List.mem_map.1 hx
         obtain ⟨z, hz, rfl⟩ := List.mem_map.1 (List.mem_filter.1 hy).1
         exact Em b z hz
theorem Dt (m : uQ) (L : List (ByteArray × ByteArray)) : UI m L = zR (m.raw || decide (0 < m.few.length + m.many.length)) m.ext (m.els * gF m.kind) L := by
 rw [Yk]
 unfold zR
 by_cases h : m.raw = true ∨ 0 < m.few.length + m.many.length
 · rw [ip h, ip (by rw [Bool.or_eq_true]; exact h.imp id (fun h => dT h))]
 · rw [iN h, iN (fun g => h ((Bool.or_eq_true _ _ ▸ g : m.raw = true ∨ decide (0 < m.few.length + m.many.length) = true).imp id of_decide_eq_true))]
theorem JW {α : Type} {e : Kd α} {n g : Nat} {ok : Nat → Prop} {W : World} {A : Option Addr} {xs : List α} {a b c d : Value} (h : Kd.F e W ok A n xs) (hok : ∀ k, ok k → k ≠ g) : Kd.F e ((((W.setCell ⟨g, 0, none⟩ a).setCell ⟨g, 1, none⟩ b).setCell ⟨g, 2, none⟩ c).setCell ⟨g, 3, none⟩ d) ok A n xs :=
 Kd.FC (Kd.FC (Kd.FC (Kd.FC h (p := ⟨g, 0, none⟩) hok a) (p := ⟨g, 1, none⟩) hok b) (p := ⟨g, 2, none⟩) hok c) (p := ⟨g, 3, none⟩) hok d
theorem NN {w w' : World} {P Q : Nat → Prop} {R : Tn × Int} {c : Int} {name data : ByteArray} {kd : Int} {bE : List Int} {A1 : Option Addr} {c1 : Nat} (h : R = ((name, kd, bE, data), c)) (hb : Below w.heap.size w w') (hf : Kd.F (Kd.int .i64) w' Q A1 bE.length bE) (hc : bE.length ≤ c1) (hq : ∀ k, Q k → P k) : G7 w P R (.returned (.tuple #[.agg #[.string name, .int .i64 kd, .slice A1 bE.length c1, .string data], .int .i64 c])) w' := by
 subst h
 exact ⟨_, rfl, Kd.ru hc (Kd.P7 hf hq), hb⟩
theorem aAN {W : World} {mp : Option Nat} {L : List (ByteArray × ByteArray)} {g t : Nat} {cs : Array Value} {v0 v1 v2 v3 v4 v5 v6 v7 v8 v9 : Value} (h : oZ W mp L) (hg : W.heap[g]? = some (.cells cs t (0, 0))) :
 oZ ((((((((((W.setCell ⟨g, 0, none⟩ v0).setCell ⟨g, 1, none⟩ v1).setCell ⟨g, 2, none⟩ v2).setCell ⟨g, 3, none⟩ v3).setCell ⟨g, 4, none⟩ v4).setCell ⟨g, 5, none⟩ v5).setCell ⟨g, 6, none⟩ v6).setCell ⟨g, 7, none⟩ v7).setCell ⟨g, 8, none⟩ v8).setCell ⟨g, 9, none⟩ v9) mp L := by
 have k0 := jT hg 0 v0
 have k1 := jT k0 1 v1
 have k2 := jT k1 2 v2
 have k3 := jT k2 3 v3
 have k4 := jT k3 4 v4
 have k5 := jT k4 5 v5
 have k6 := jT k5 6 v6
 have k7 := jT k6 7 v7
 have k8 := jT k7 8 v8
 exact (((((((((h.set hg v0).set k0 v1).set k1 v2).set k2 v3).set k3 v4).set k4 v5).set k5 v6).set k6 v7).set k7 v8).set k8 v9
theorem Yo (b : ByteArray) (mp : Option Nat) (l : List jK) (w : World) (hb : b.size ≤ 10000) (hM : oZ w mp (fV l)) (hf : l.length ≤ 100) (hsh : ∀ f ∈ l, f.f0.size + f.f1.size ≤ 10000) :
 Calls Tryz.prog 7 #[.string b, .agg #[.map mp]] w (G7 w (fun k => w.heap.size ≤ k) (II b (fV l))) := by
 have tN := Tryz.underlying59
 have lZ := Tryz.underlying33
 have Ou := Tryz.underlying25
 have w_ := aC.mk (Dn b)
 have HA := aC.mk (show ∀ w, _ from fun w => Yq b w (by omega))
 have HS := aC.mk (And.intro hf (And.intro hsh hb))
 have HM := aA hM
 have HB := aC.mk (Below.refl w.heap.size w)
 obtain ⟨R, hR⟩ : ∃ R, II b (fV l) = R := ⟨_, rfl⟩
 rw [hR]
 have HR := aA (show R = if (jM b).2 ≠ 0 then (iJ, (jM b).2) else if (jM b).1.wh = 1 then o6 (jM b).1.name (jM b).1.kind (jM b).1.bE (UI (jM b).1 (fV l)) else o6 (jM b).1.name (jM b).1.kind (jM b).1.bE (oL (jM b).1.kind (jM b).1.data (jM b).1.few (jM b).1.many (jM b).1.raw) from hR.symm)
 obtain ⟨m, ec, hS⟩ : ∃ m ec, jM b = (m, ec) := ⟨_, _, rfl⟩
 rw [hS] at HA w_ HR
 have HR1 := aA (show R = if ec ≠ 0 then (iJ, ec) else if m.wh = 1 then o6 m.name m.kind m.bE (UI m (fV l)) else o6 m.name m.kind m.bE (oL m.kind m.data m.few m.many m.raw) from HR.out)
 have IZ := aA (show o_ b.size m from w_.out)
 clear hb hM hf hsh hR hS HR w_
 rw [Dt] at HR1
 obtain ⟨name, kd, bE, data, few, many, raw, ext, wh, els⟩ := m
 dsimp only at HR1 HA
 go_enter Tryz.func7, Tryz.ntmps7
 go_wp2_with (first | ((with_reducible refine cK (N := 3) rfl ?_); refine dB (N := 3) (cs := #[.map mp]) (t := 25) ?_; intro gs hg w1 aG hb; have BS := aA aG; replace HB := hbS HB hb; replace HM := aA (HM.out.kept hb); clear hb aG hg) | ((with_reducible refine cK (N := 4) rfl ?_); refine dB (N := 4) (cs := #[.string ⟨#[]⟩, .int .i64 0, .slice none 0 0, .string ⟨#[]⟩]) (t := 33) ?_; intro gr hg w2 aG hb; have BR := aA aG; have GR := bB HB hg; have KM := cO BS hg; replace BS := aI BS hb; replace HB := hbS HB hb; replace HM := aA (HM.out.kept hb); clear hb aG hg))
 refine (HA.out _).mono ?_
 rintro en w3 ⟨A1, c1, A2, c2, A3, c3, A4, c4, rfl, q1, q2, q3, q4, hb⟩
 dsimp only at q1 q2 q3 q4 ⊢
 have Q1 := aA (show Kd.F (Kd.int .i64) w3 (fun k => w2.heap.size ≤ k ∧ k < w3.heap.size) A1 bE.length bE from Kd.KN (Kd.eO (Kd.nU q1) (fun k hk => ⟨hk.2.1, hk.2.2.1⟩)))
 have Qs := aA (Kd.jA q1).2.1
 have Q2 := aA (Kd.jA q2).2
 have Q3 := aA (Kd.jA q3).2
 have Q4 := aA (Kd.jA q4).2
 have R2 := aA (jB BR.out)
 have H3 := aA (Below.refl w3.heap.size w3)
 have S2 := aA HB.out.size
 replace BS := aI BS hb
 replace BR := aI BR hb
 replace HM := aA (HM.out.kept hb)
 replace HB := hbS HB hb
 clear q1 q2 q3 q4 hb HA
 by_cases h0 : ec ≠ 0
 · have b0 : (ec != 0) = true := bne_iff_ne.2 h0
   have HR4 := aA (show R = (iJ, ec) from HR1.out.trans (ip h0))
   clear h0
   go_wp2_with (first | ((with_reducible refine cK (N := 6) rfl ?_); refine dB (N := 6) (cs := #[.string ⟨#[]⟩, .int .i64 0, .slice none 0 0, .string ⟨#[]⟩, .slice none 0 0, .slice none 0 0, .bool false, .slice none 0 0, .int .u64 0, .int .i64 0]) (t := 59) ?_; intro gm hg w4 aG hb; have BM := aA aG; have GM := bB HB hg; have Pn := bB H3 hg; have wM := cO BR hg; have wL := dD BR hg; have NSM := cO BS hg; replace BR := aI BR hb; replace BS := aI BS hb; replace HM := aA (HM.out.kept hb); replace H3 := hbS H3 hb; replace HB := hbS HB hb; clear hb aG hg; obtain ⟨hm0, hm1, hm2, kG, jQ, jR, kH, jL, jS, jE⟩ := pU BM; have R_ := fz BM 0; have V5 := fz BM 1; have MS := fz BM 2; have S_ := fz BM 3; have MU := fz BM 4; have MV := fz BM 5; have T_ := fz BM 6; have MW := fz BM 7; have U_ := fz BM 8; have R4 := fz BM 9; obtain ⟨hr0, hr1, hr2, hr3⟩ := aN BR; have fJ := fz BR 0; have fQ := fz BR 1; have fT := fz BR 2; have fU := fz BR 3; have n1 := wM.out; have n2 := wL.out))
   refine bodyPost_ret (eP rfl _ _ gr 33 #[.string ⟨#[]⟩, .int .i64 0, .slice none 0 0, .string ⟨#[]⟩] (0, 0) _ rfl (aU BR) lZ rfl (by kernel_rfl)) rfl ?_
   exact jH HR4.out (dR (vK HB.out GM.out) GR.out)
 have b0 : (ec != 0) = false := bne_eq_false_iff_eq.2 (Classical.not_not.1 h0)
 have HR2 := aA (HR1.out.trans (iN h0))
 clear h0 HR1
 go_wp2_with (first | ((with_reducible refine cK (N := 6) rfl ?_); refine dB (N := 6) (cs := #[.string ⟨#[]⟩, .int .i64 0, .slice none 0 0, .string ⟨#[]⟩, .slice none 0 0, .slice none 0 0, .bool false, .slice none 0 0, .int .u64 0, .int .i64 0]) (t := 59) ?_; intro gm hg w4 aG hb; have BM := aA aG; have GM := bB HB hg; have Pn := bB H3 hg; have wM := cO BR hg; have wL := dD BR hg; have NSM := cO BS hg; replace BR := aI BR hb; replace BS := aI BS hb; replace HM := aA (HM.out.kept hb); replace H3 := hbS H3 hb; replace HB := hbS HB hb; clear hb aG hg; obtain ⟨hm0, hm1, hm2, kG, jQ, jR, kH, jL, jS, jE⟩ := pU BM; have R_ := fz BM 0; have V5 := fz BM 1; have MS := fz BM 2; have S_ := fz BM 3; have MU := fz BM 4; have MV := fz BM 5; have T_ := fz BM 6; have MW := fz BM 7; have U_ := fz BM 8; have R4 := fz BM 9; obtain ⟨hr0, hr1, hr2, hr3⟩ := aN BR; have fJ := fz BR 0; have fQ := fz BR 1; have fT := fz BR 2; have fU := fz BR 3; have n1 := wM.out; have n2 := wL.out))
 obtain ⟨w5, hw⟩ : ∃ wb, wb = ((((((((((w4.setCell ⟨gm, 0, none⟩ (.string name)).setCell ⟨gm, 1, none⟩ (.int .i64 kd)).setCell ⟨gm, 2, none⟩ (.slice A1 bE.length c1)).setCell ⟨gm, 3, none⟩ (.string data)).setCell ⟨gm, 4, none⟩ (.slice A2 few.length c2)).setCell ⟨gm, 5, none⟩ (.slice A3 many.length c3)).setCell ⟨gm, 6, none⟩ (.bool raw)).setCell ⟨gm, 7, none⟩ (.slice A4 ext.length c4)).setCell ⟨gm, 8, none⟩ (.int .u64 wh)).setCell ⟨gm, 9, none⟩ (.int .i64 els)) := ⟨_, rfl⟩
 rw [← hw]
 replace BR := aA (show w5.heap[gr]? = some _ from by rw [hw]; exact aU BR)
 replace BS := aA (show w5.heap[gs]? = some _ from by rw [hw]; exact aU BS)
 replace HM := aA (show oZ w5 mp (fV l) from by rw [hw]; exact aAN HM.out BM.out)
 replace BM := aA (show w5.heap[gm]? = some (.cells #[.string name, .int .i64 kd, .slice A1 bE.length c1, .string data, .slice A2 few.length c2, .slice A3 many.length c3, .bool raw, .slice A4 ext.length c4, .int .u64 wh, .int .i64 els] 59 (0, 0)) from by rw [hw]; exact aCP BM.out)
 replace HB := aA (show Below w.heap.size w w5 from by rw [hw]; exact vK HB.out GM.out)
 replace H3 := aA (show Below w3.heap.size w3 w5 from by rw [hw]; exact vK H3.out Pn.out)
 clear hw hm0 hm1 hm2 kG jQ jR kH jL jS jE R_ V5 MS S_ MU MV T_ MW U_ R4 hr0 hr1 hr2 hr3 fJ fQ fT fU n1 n2
 have Qg := aA (kZ Q1.out H3.out)
 refine (aAl name kd _ A1 c1 bE data A2 c2 few A3 c3 many raw A4 c4 ext wh els w5 Qg.out Qs.out (Kd.gN Q2.out.2 H3.out) Q2.out.1 (Kd.gN Q3.out.2 H3.out) Q3.out.1 IZ.out.few IZ.out.many (by have := IZ.out.name; have := HS.out.2.2; dsimp only at *; omega) (by have := IZ.out.data; have := HS.out.2.2; dsimp only at *; omega)).mono ?_
 rintro en w6 ⟨v, rfl, hv, hb⟩
 obtain ⟨⟨rn, rk, rd, nM⟩, rc, uB⟩ : ∃ t c, lG name kd bE (oL kd data few many raw) = (t, c) := ⟨_, _, rfl⟩
 rw [uB] at hv ⊢
 dsimp only at hv ⊢
 obtain ⟨AV, cV, rfl⟩ := Kd.LF hv
 have HV := aA hv
 have HR3 := aA (show R = if wh = 1 then o6 name kd bE (zR (raw || decide (0 < few.length + many.length)) ext (els * gF kd) (fV l)) else (if rc ≠ 0 then (iJ, rc) else ((rn, rk, rd, nM), 0)) from HR2.out.trans (by unfold o6; rw [uB]))
 replace BR := aI BR hb
 replace BS := aI BS hb
 replace BM := aI BM hb
 replace HM := aA (HM.out.kept hb)
 replace H3 := hbS H3 hb
 replace HB := hbS HB hb
 clear hv hb uB HR2
 by_cases hw1 : wh = 1
 · have b1 : (wh == 1) = true := beq_iff_eq.2 hw1
   have HR4 := aA (HR3.out.trans (ip hw1))
   clear HR3 hw1
   go_wp2_with (first | ((with_reducible refine cK (N := 8) rfl ?_); refine dB (N := 8) (cs := #[.string ⟨#[]⟩, .int .i64 0, .slice none 0 0, .string ⟨#[]⟩]) (t := 33) ?_; intro gt hg w7 aG hb; have BT := aA aG; have GT := bB HB hg; have VL := bB H3 hg; have lM := cO BR hg; have l9 := dD BR hg; have zT := cO BM hg; have zU := dD BM hg; have OV := cO BS hg; have OW := dD BS hg; replace BR := aI BR hb; replace BS := aI BS hb; replace BM := aI BM hb; replace HM := aA (HM.out.kept hb); replace HV := aA (Kd.SX HV.out hb); replace H3 := hbS H3 hb; replace HB := hbS HB hb; clear hb aG hg; obtain ⟨ht0, ht1, ht2, ht3⟩ := aN BT; have CY := fz BT 0; have CZ := fz BT 1; have C8 := fz BT 2; have qB := fz BT 3; obtain ⟨hm0, hm1, hm2, kG, jQ, jR, kH, jL, jS, jE⟩ := pU BM; have hs0 := iA BS; have n1 := zT.out; have n2 := zU.out; have n5 := OV.out; have n6 := OW.out))
   obtain ⟨w8, hw⟩ : ∃ wb, wb = (((w7.setCell ⟨gt, 0, none⟩ (.string rn)).setCell ⟨gt, 1, none⟩ (.int .i64 rk)).setCell ⟨gt, 2, none⟩ (.slice AV rd.length cV)).setCell ⟨gt, 3, none⟩ (.string nM) := ⟨_, rfl⟩
   rw [← hw]
   replace BR := aA (show w8.heap[gr]? = some _ from by rw [hw]; exact aU BR)
   replace HM := aA (show oZ w8 mp (fV l) from by rw [hw]; exact (((HM.out.set BT.out _).set (jT BT.out 0 _) _).set (jT (jT BT.out 0 _) 1 _) _).set (jT (jT (jT BT.out 0 _) 1 _) 2 _) _)
   replace BT := aA (show w8.heap[gt]? = some (.cells #[.string rn, .int .i64 rk, .slice AV rd.length cV, .string nM] 33 (0, 0)) from by rw [hw]; exact aU BT)
   replace HB := aA (show Below w.heap.size w w8 from by rw [hw]; exact dR HB.out GT.out)
   replace H3 := aA (show Below w3.heap.size w3 w8 from by rw [hw]; exact dR H3.out VL.out)
   clear hw hm0 hm1 hm2 kG jQ jR kH jL jS jE ht0 ht1 ht2 ht3 CY CZ C8 qB hs0 n1 n2 n5 n6 HV Qg BM BS
   refine (Zu name kd _ A1 c1 bE data A2 c2 few A3 c3 many raw A4 c4 ext wh els mp l w8 (kZ Q1.out H3.out) Qs.out IZ.out.few IZ.out.many (Kd.gN Q4.out.2 H3.out) (fun s hs => Nat.le_trans (IZ.out.ext s hs) HS.out.2.2) HM.out ⟨by have := IZ.out.name; have := HS.out.2.2; dsimp only at *; omega, IZ.out.n0, by have := IZ.out.n1; dsimp only at *; omega, HS.out.1, HS.out.2.1⟩).mono ?_
   rintro en w9 ⟨v, rfl, hv, hb⟩
   obtain ⟨⟨sn, sk, sd, FZ⟩, sc, uB⟩ : ∃ t c, lG name kd bE (zR (raw || decide (0 < few.length + many.length)) ext (els * gF kd) (fV l)) = (t, c) := ⟨_, _, rfl⟩
   rw [uB] at hv ⊢
   dsimp only at hv ⊢
   obtain ⟨AU, cU, rfl⟩ := Kd.LF hv
   have OQ := aA (Kd.MQ hv)
   have F5 := aA (Kd.LB hv).2.1
   have VU := aA (show R = if sc ≠ 0 then (iJ, sc) else ((sn, sk, sd, FZ), 0) from HR4.out.trans (by unfold o6; rw [uB]))
   replace BR := aI BR hb
   replace BT := aI BT hb
   replace HB := hbS HB hb
   clear hv hb uB HR4 HM H3
   obtain ⟨ht0, ht1, ht2, ht3⟩ := aN BT
   have CY := fz BT 0
   have CZ := fz BT 1
   have C8 := fz BT 2
   have qB := fz BT 3
   obtain ⟨hr0, hr1, hr2, hr3⟩ := aN BR
   have fJ := fz BR 0
   have fQ := fz BR 1
   have fT := fz BR 2
   have fU := fz BR 3
   have n3 := lM.out
   have n4 := l9.out
   by_cases hc : sc ≠ 0
   · have b2 : (sc != 0) = true := bne_iff_ne.2 hc
     have qH := aA (show R = (iJ, sc) from VU.out.trans (ip hc))
     clear hc
     go_wp2
     refine bodyPost_ret (eP rfl _ _ gr 33 #[.string ⟨#[]⟩, .int .i64 0, .slice none 0 0, .string ⟨#[]⟩] (0, 0) _ rfl (aU BR) lZ rfl (by kernel_rfl)) rfl ?_
     exact jH qH.out (dR (dR HB.out GT.out) GR.out)
   · have b2 : (sc != 0) = false := bne_eq_false_iff_eq.2 (Classical.not_not.1 hc)
     have qH := aA (VU.out.trans (iN hc))
     clear hc
     go_wp2
     refine bodyPost_ret (eP rfl _ _ gr 33 #[.string sn, .int .i64 sk, .slice AU sd.length cU, .string FZ] (0, 0) _ rfl (aU BR) lZ rfl (by kernel_rfl)) rfl ?_
     exact NN qH.out (dR (dR HB.out GT.out) GR.out) (JW (JW OQ.out (fun k hk => Nat.ne_of_lt (Nat.lt_of_lt_of_le hk.2 VL.out))) (fun k hk => Nat.ne_of_gt (Nat.lt_of_lt_of_le R2.out hk.1))) F5.out (fun k hk => Nat.le_trans S2.out hk.1)
 · have b1 : (wh == 1) = false := beq_eq_false_iff_ne.2 hw1
   have VU := aA (HR3.out.trans (iN hw1))
   have F5 := aA (Kd.LB HV.out).2.1
   clear HR3 hw1
   by_cases hc : rc ≠ 0
   · have b2 : (rc != 0) = true := bne_iff_ne.2 hc
     have qH := aA (show R = (iJ, rc) from VU.out.trans (ip hc))
     clear hc
     go_wp2_with (first | ((with_reducible refine cK (N := 8) rfl ?_); refine dB (N := 8) (cs := #[.string ⟨#[]⟩, .int .i64 0, .slice none 0 0, .string ⟨#[]⟩]) (t := 33) ?_; intro gt hg w7 aG hb; have BT := aA aG; have GT := bB HB hg; have VL := bB H3 hg; have lM := cO BR hg; have l9 := dD BR hg; have zT := cO BM hg; have zU := dD BM hg; have OV := cO BS hg; have OW := dD BS hg; replace BR := aI BR hb; replace BS := aI BS hb; replace BM := aI BM hb; replace HM := aA (HM.out.kept hb); replace HV := aA (Kd.SX HV.out hb); replace H3 := hbS H3 hb; replace HB := hbS HB hb; clear hb aG hg; obtain ⟨ht0, ht1, ht2, ht3⟩ := aN BT; have CY := fz BT 0; have CZ := fz BT 1; have C8 := fz BT 2; have qB := fz BT 3; obtain ⟨hm0, hm1, hm2, kG, jQ, jR, kH, jL, jS, jE⟩ := pU BM; have hs0 := iA BS; have n1 := zT.out; have n2 := zU.out; have n5 := OV.out; have n6 := OW.out; obtain ⟨hr0, hr1, hr2, hr3⟩ := aN BR; have fJ := fz BR 0; have fQ := fz BR 1; have fT := fz BR 2; have fU := fz BR 3; have n3 := lM.out; have n4 := l9.out))
     refine bodyPost_ret (eP rfl _ _ gr 33 #[.string ⟨#[]⟩, .int .i64 0, .slice none 0 0, .string ⟨#[]⟩] (0, 0) _ rfl (aU BR) lZ rfl (by kernel_rfl)) rfl ?_
     exact jH qH.out (dR (dR HB.out GT.out) GR.out)
   · have b2 : (rc != 0) = false := bne_eq_false_iff_eq.2 (Classical.not_not.1 hc)
     have qH := aA (VU.out.trans (iN hc))
     clear hc
     go_wp2_with (first | ((with_reducible refine cK (N := 8) rfl ?_); refine dB (N := 8) (cs := #[.string ⟨#[]⟩, .int .i64 0, .slice none 0 0, .string ⟨#[]⟩]) (t := 33) ?_; intro gt hg w7 aG hb; have BT := aA aG; have GT := bB HB hg; have VL := bB H3 hg; have lM := cO BR hg; have l9 := dD BR hg; have zT := cO BM hg; have zU := dD BM hg; have OV := cO BS hg; have OW := dD BS hg; replace BR := aI BR hb; replace BS := aI BS hb; replace BM := aI BM hb; replace HM := aA (HM.out.kept hb); replace HV := aA (Kd.SX HV.out hb); replace H3 := hbS H3 hb; replace HB := hbS HB hb; clear hb aG hg; obtain ⟨ht0, ht1, ht2, ht3⟩ := aN BT; have CY := fz BT 0; have CZ := fz BT 1; have C8 := fz BT 2; have qB := fz BT 3; obtain ⟨hm0, hm1, hm2, kG, jQ, jR, kH, jL, jS, jE⟩ := pU BM; have hs0 := iA BS; have n1 := zT.out; have n2 := zU.out; have n5 := OV.out; have n6 := OW.out; obtain ⟨hr0, hr1, hr2, hr3⟩ := aN BR; have fJ := fz BR 0; have fQ := fz BR 1; have fT := fz BR 2; have fU := fz BR 3; have n3 := lM.out; have n4 := l9.out))
     refine bodyPost_ret (eP rfl _ _ gr 33 #[.string rn, .int .i64 rk, .slice AV rd.length cV, .string nM] (0, 0) _ rfl (aU BR) lZ rfl (by kernel_rfl)) rfl ?_
     exact NN qH.out (dR (dR HB.out GT.out) GR.out) (JW (JW (Kd.MQ HV.out) (fun k hk => Nat.ne_of_lt (Nat.lt_of_lt_of_le hk.2 VL.out))) (fun k hk => Nat.ne_of_gt (Nat.lt_of_lt_of_le R2.out hk.1))) F5.out (fun k hk => Nat.le_trans S2.out hk.1)
end Go.Proofs.YtgmggompdidcoaaGreatDoor.X
