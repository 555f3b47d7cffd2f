import Derived.Test.YtgmggompdidcoaaGreatDoorMPbtensorReads22
import Derived.ChangeSlices
import Derived.SizedLaws
import Derived.ProofKit
import Derived.OpenShut
import Derived.ShutString
import Derived.ChangeOld
import Derived.Test.YtgmggompdidcoaaGreatDoorRows
import Derived.Test.YtgmggompdidcoaaGreatDoorCards
import Derived.Test.YtgmggompdidcoaaGreatDoorTie
import Derived.Carry
import Derived.Lay
import Derived.LaidOnce
import Derived.LaidMore
import Derived.SevenTiedAt
import Derived.Deep.DeepHandedRow
import Derived.Deep.CondSized
namespace Go.Proofs.YtgmggompdidcoaaGreatDoor.X
open Go.RowKit Go.Proofs.YtgmggompdidcoaaGreatDoorW.aX Go.Proofs.YtgmggompdidcoaaGreatDoorW.bJ Go.Proofs.YtgmggompdidcoaaGreatDoorW.bK
attribute [local go_sem] bO bQ bS bU bM bN bP bR
set_option linter.unusedVariables false
set_option linter.unusedSimpArgs false
set_option maxHeartbeats 8000000
set_option maxRecDepth 100000
theorem Dm (b : ByteArray) : (jM b).1.bE.length ≤ 65536 := by
 unfold jM
 split
 · exact Nat.zero_le _
 · unfold YU P9
   split
   · exact Nat.zero_le _
   · unfold jl DY
     split
     · exact Nat.zero_le _
     · split
       · exact Nat.zero_le _
       · unfold xC
         repeat' split
         all_goals first | exact Nat.zero_le _ | exact PI _ _ (Nat.zero_le _)
theorem Eh (name : ByteArray) (kd : Int) (bE : List Int) (d : ByteArray × Int) : (o6 name kd bE d).1.2.2.1.length ≤ bE.length := by
 unfold o6 lG
 repeat' split
 all_goals first | exact Nat.zero_le _ | exact Nat.le_refl _
theorem Xb (b : ByteArray) (L : List (ByteArray × ByteArray)) : (II b L).1.2.2.1.length ≤ 65536 := by
 unfold II
 repeat' split
 · exact Nat.zero_le _
 · exact Nat.le_trans (Eh _ _ _ _) (Dm b)
 · exact Nat.le_trans (Eh _ _ _ _) (Dm b)
def M8.T6 : Bool × List (List Nat × List Nat) := (true, [([], []), ([0, 0], [0]), ([1], [1]), ([1], [1]), ([2, 3, 1], [1, 2, 3]), ([1, 4], [1, 4]), ([5, 1], [5]), ([6], [6]), ([7, 6, 6], [6, 7]), ([6], [6]), ([8, 9, 8, 6], [6, 8, 9]), ([6, 10], [6, 10]), ([11, 10, 0, 1, 2, 3, 4, 5, 6, 7, 8, 9, 10, 11], [11])])
def M8.B6 : List Nat := [0, 1, 3, 3, 15, 31, 63, 127, 255, 127, 1023, 2047, 4095]
theorem M8.aFv : jU .any (opsOf Tryz.f3 6) = M8.T6 := by kernel_rfl
theorem M8.aDP : uK M8.T6.2 M8.B6 = true := by kernel_rfl
theorem aCD (b : ByteArray) (A : Option Addr) (c : Nat) (l : List jK) (w : World) (hr : Kd.C JB w A l.length l) (hc : l.length ≤ c) (hl : l.length ≤ 4398046510976) (hs : ∀ f ∈ l, f.f0.size ≤ 140737488351232 ∧ f.f1.size ≤ 140737488351232) (hb : b.size ≤ 140737488351232) :
 Calls Tryz.prog 3 #[.string b, .slice A l.length c] w (aDL w) := by
 have lZ := Tryz.underlying33
 have jY := Tryz.underlying38
 have Ou := Tryz.underlying25
 have CB := aA (fun w => aAd A c l w)
 have HR := aA hr
 have HP := aA (And.intro hc (And.intro hl hs))
 have HB := aC.mk (Below.refl w.heap.size w)
 have bb : b.size ≤ 9223372036854775807 := by omega
 clear hr hc hl hs hb
 go_enter Tryz.func3, Tryz.ntmps3
 go_wp2_with (first | fail)
 refine (CB.out _ (Kd.gN HR.out HB.out) HP.out.1 HP.out.2.1 HP.out.2.2).mono ?_
 rintro e w2 ⟨m, A2, n2, c2, ok, rfl, hb, hok⟩
 have Qe := aA hok
 replace HB := hbS HB hb
 clear hb hok CB HR HP
 cases ok with
 | false =>
  go_wp2_with (first | ((with_reducible refine cK (N := 5) rfl ?_); refine dB (N := 5) (cs := #[.map none]) (t := 25) ?_; intro g5 hg w3 aG hb; have BS := aA aG; have GS := bB HB hg; replace HB := hbS HB hb; clear hb aG hg; have hs0 := iA BS; have OY := fz BS 0))
  refine (_J _).mono ?_
  rintro e w9 ⟨rfl, hb⟩
  replace HB := hbS HB hb
  clear hb
  go_wp2
  go_ret
  exact ⟨rfl, HB.out⟩
 | true =>
  obtain ⟨hk1, hk2, hk3, hk4, rfl, Rj, Rk⟩ := Qe.out rfl
  have HM := aA hk4
  have mQ := aA Rj
  have H2 := aA (Below.refl w2.heap.size w2)
  have HL := aA Rk
  have Qi := aA (show ∀ f ∈ l, f.f0.size + f.f1.size ≤ 10000 from fun f hf => Nat.le_trans (Gv hf) hk2)
  have sG := aA (show l.length ≤ 100 from by omega)
  clear Qe hk1 hk2 hk3 hk4 Rj Rk
  by_cases q1 : b.size > 3000
  · have b1 : decide (3000 < (b.size : Int)) = true := dT (by omega)
    clear q1
    go_wp2_with (first | ((with_reducible refine cK (N := 5) rfl ?_); refine dB (N := 5) (cs := #[.map none]) (t := 25) ?_; intro g5 hg w3 aG hb; have BS := aA aG; have GS := bB HB hg; replace HB := hbS HB hb; clear hb aG hg; have hs0 := iA BS; have OY := fz BS 0))
    refine (_J _).mono ?_
    rintro e w9 ⟨rfl, hb⟩
    replace HB := hbS HB hb
    clear hb
    go_wp2
    go_ret
    exact ⟨rfl, HB.out⟩
  have b1 : decide (3000 < (b.size : Int)) = false := dF (by omega)
  have HQ := aA q1
  clear q1
  go_wp2_with (first | ((with_reducible refine cK (N := 5) rfl ?_); refine dB (N := 5) (cs := #[.map none]) (t := 25) ?_; intro g5 hg w3 aG hb; have BS := aA aG; have GS := bB HB hg; replace HM := aA (HM.out.kept hb); have GS2 := bB H2 hg; replace H2 := hbS H2 hb; replace HB := hbS HB hb; clear hb aG hg; have hs0 := iA BS; have OY := fz BS 0))
  obtain ⟨w4, hw⟩ : ∃ wb, wb = w3.setCell ⟨g5, 0, none⟩ (.map m) := ⟨_, rfl⟩
  rw [← hw]
  replace HM := aA (show oZ w4 m (fV l) from by rw [hw]; exact HM.out.set BS.out _)
  replace H2 := aA (show Below w2.heap.size w2 w4 from by rw [hw]; exact fD H2.out GS2.out)
  replace HB := aA (show Below w.heap.size w w4 from by rw [hw]; exact fD HB.out GS.out)
  clear hw hs0 OY BS
  refine (Yo b m l w4 (by have := HQ.out; omega) HM.out sG.out Qi.out).mono ?_
  rintro e w5 ⟨v, rfl, hv, hb⟩
  obtain ⟨⟨rn, rk, rd, nM⟩, rc, hR⟩ : ∃ t c, II b (fV l) = (t, c) := ⟨_, _, rfl⟩
  rw [hR] at hv ⊢
  dsimp only at hv ⊢
  obtain ⟨AU, cU, rfl⟩ := Kd.LF hv
  have HU := aA (Kd.MQ hv)
  have HUc := aA (Kd.LB hv).2.1
  have Qh := aA hR
  have HRl := aA (show rd.length ≤ 65536 from by have h := Xb b (fV l); rw [hR] at h; exact h)
  have H5 := aA (Below.refl w5.heap.size w5)
  replace H2 := hbS H2 hb
  replace HB := hbS HB hb
  clear hv hb hR HM
  go_wp2_with (first | ((with_reducible refine cK (N := 8) rfl ?_); refine dB (N := 8) (cs := #[.string ⟨#[]⟩, .int .i64 0, .slice none 0 0, .string ⟨#[]⟩]) (t := 33) ?_; intro g8 hg w6 aG hb; have BX := aA aG; have GX := bB HB hg; have Pq := bB H2 hg; have t_ := bB H5 hg; replace H2 := hbS H2 hb; replace H5 := hbS H5 hb; replace HB := hbS HB hb; clear hb aG hg; obtain ⟨hu0, hu1, hu2, hu3⟩ := aN BX; have Ai := fz BX 0; have Aj := fz BX 1; have Ak := fz BX 2; have Al := fz BX 3))
  obtain ⟨w7, hw⟩ : ∃ wb, wb = (((w6.setCell ⟨g8, 0, none⟩ (.string rn)).setCell ⟨g8, 1, none⟩ (.int .i64 rk)).setCell ⟨g8, 2, none⟩ (.slice AU rd.length cU)).setCell ⟨g8, 3, none⟩ (.string nM) := ⟨_, rfl⟩
  rw [← hw]
  have BU := aA (show w7.heap[g8]? = some (.cells #[.string rn, .int .i64 rk, .slice AU rd.length cU, .string nM] 33 (0, 0)) from by rw [hw]; exact aU BX)
  replace HB := aA (show Below w.heap.size w w7 from by rw [hw]; exact dR HB.out GX.out)
  replace H2 := aA (show Below w2.heap.size w2 w7 from by rw [hw]; exact dR H2.out Pq.out)
  replace H5 := aA (show Below w5.heap.size w5 w7 from by rw [hw]; exact dR H5.out t_.out)
  clear hw BX GX Pq t_ hu0 hu1 hu2 hu3 Ai Aj Ak Al
  refine (Vu b A2 c2 l w7 (by have := HQ.out; omega) (Kd.gN HL.out H2.out) mQ.out sG.out Qi.out).mono ?_
  rintro e w9 ⟨v, rfl, hv, hb⟩
  rw [Qh.out] at hv ⊢
  dsimp only at hv ⊢
  obtain ⟨AV, cV, rfl⟩ := Kd.LF hv
  have HV := aA (Kd.MQ hv)
  have F5 := aA (Kd.LB hv).2.1
  have H9 := aA (Below.refl w9.heap.size w9)
  replace BU := aI BU hb
  replace H5 := hbS H5 hb
  replace HB := hbS HB hb
  clear hv hb Qh H2 HL
  go_wp2_with (first | ((with_reducible refine cK (N := 10) rfl ?_); refine dB (N := 10) (cs := #[.string ⟨#[]⟩, .int .i64 0, .slice none 0 0, .string ⟨#[]⟩]) (t := 38) ?_; intro g10 hg JE aG hb; have BX := aA aG; have GX := bB HB hg; have NUX := cO BU hg; have NXU := dD BU hg; replace BU := aI BU hb; have t_ := bB H5 hg; have GX9 := bB H9 hg; replace H5 := hbS H5 hb; replace H9 := hbS H9 hb; replace HB := hbS HB hb; clear hb aG hg; obtain ⟨hu0, hu1, hu2, hu3⟩ := aN BX; have Ai := fz BX 0; have Aj := fz BX 1; have Ak := fz BX 2; have Al := fz BX 3))
  obtain ⟨O4, hw⟩ : ∃ wb, wb = (((JE.setCell ⟨g10, 0, none⟩ (.string rn)).setCell ⟨g10, 1, none⟩ (.int .i64 rk)).setCell ⟨g10, 2, none⟩ (.slice AV rd.length cV)).setCell ⟨g10, 3, none⟩ (.string nM) := ⟨_, rfl⟩
  rw [← hw]
  have H_ := aA (show MP w O4 g10 g8 rn rk rd nM AV cV AU cU from by
   rw [hw]
   exact ⟨dR HB.out GX.out, aU BX, aU BU, F5.out, HUc.out, Kd.P7 (kZ HV.out (dR H9.out GX9.out)) (fun _ _ => trivial), Kd.P7 (kZ HU.out (dR H5.out t_.out)) (fun _ _ => trivial)⟩)
  replace H_ := aA H_.out.drew
  have HSm := aC.mk (show JJ.f rn rk rd nM rn rk rd nM = some true from by
   unfold JJ.f pg
   rw [ip (by have := HRl.out; omega), dT ⟨rfl, rfl, rfl, rfl⟩])
  have HEe := aC.mk (show (rc == rc) = true from beq_self_eq_true rc)
  clear hw hu0 hu1 hu2 hu3 Ai Aj Ak Al NUX NXU BU BX HV HU HB H5 H9
  refine vQ (n := 13) (S := fun w' => True) (ds := []) #[false, false, false, false, false, false, false, false, false, false, false, false, false] (by kernel_rfl) rfl rfl trivial (fun hHeld => ?_)
  refine G6 M8.aFv M8.aDP (fun gP pX => ?_)
  generalize O4.drew = wd at H_ hHeld ⊢
  refine QA [0, 1, 2, 3, 4, 5, 6, 7, 8, 9, 10, 11, 12] (fun F7 b a w' => ∃ (p8 : Option Addr) (q8 : Nat) (nE : Value), a = kV F7 b [(0, 38, .bool true), (1, 39, .bool true), (2, 40, .int .i64 rc), (3, 41, .int .i64 rc), (4, 42, .bool true), (5, 43, .bool true), (6, 44, .bool true), (7, 45, .agg #[.string rn, .int .i64 rk, .slice AU rd.length cU, .string nM]), (8, 46, nE), (9, 47, .agg #[.string rn, .int .i64 rk, .slice AV rd.length cV, .string nM]), (10, 48, .bool true), (11, 49, .bool true), (12, 4, .bool true)] ∧ (MP w w' g10 g8 rn rk rd nM AV cV AU cU) ∧ (b 8 = true → rd.length ≤ q8 ∧ Kd.F (Kd.int .i64) w' (fun _ => True) p8 rd.length rd) ∧ (b 8 = true → (nE : Value) = .agg #[.string rn, .int .i64 rk, .slice p8 rd.length q8, .string nM])) gP.out pX.out (by kernel_rfl) (by kernel_rfl) ?_ ?_ ?_
  · exact ⟨none, 0, .bool false, by simp only [kV, Bool.false_eq_true, if_false], H_.out, fun h_ => absurd h_ (by decide), fun h_ => absurd h_ (by decide)⟩
  · skip
    skip
    refine gG ?_ ?_
    · rintro b a w' ⟨p8, q8, nE, ha, aW, dA, tF⟩ bZ hon hoff
      refine ⟨_, rfl, fun K hK => ?_⟩
      replace ha := aC.mk ha
      have R := aC.mk aW
      refine call_ 6 #[] (by rfl) rfl (by go_simp; try rfl) ?_
      refine (_J w').mono ?_
      rintro e w1 ⟨rfl, hB⟩
      refine ⟨_, rfl, ?_⟩
      refine hK.out _ _ ⟨p8, q8, nE, (by rw [ha.out]; exact gM 0 bZ rfl rfl rfl), R.out.step hB, fun aQ => absurd ((hoff 8 (by kernel_rfl)).symm.trans aQ) (by decide), fun aQ => absurd ((hoff 8 (by kernel_rfl)).symm.trans aQ) (by decide)⟩
    refine gG ?_ ?_
    · rintro b a w' ⟨p8, q8, nE, ha, aW, dA, tF⟩ bZ hon hoff
      refine ⟨_, rfl, fun K hK => ?_⟩
      have e38 : a.tmps[38]? = some (.bool true) := by rw [ha]; exact fK (e := (0, 38, .bool true)) 0 rfl rfl (hon 0 (by kernel_rfl)) rfl
      replace ha := aC.mk ha
      have R := aC.mk aW
      refine iF (w1 := w') (v := .bool true) (by rfl) rfl ?_ ?_
      · go_simp
        (try simp only [dC])
        try rfl
      refine hK.out _ _ ⟨p8, q8, nE, (by rw [ha.out]; exact gM 1 bZ rfl rfl rfl), aW, fun aQ => absurd ((hoff 8 (by kernel_rfl)).symm.trans aQ) (by decide), fun aQ => absurd ((hoff 8 (by kernel_rfl)).symm.trans aQ) (by decide)⟩
    refine gG ?_ ?_
    · rintro b a w' ⟨p8, q8, nE, ha, aW, dA, tF⟩ bZ hon hoff
      refine ⟨_, rfl, fun K hK => ?_⟩
      have e9 : a.tmps[9]? = some (.int .i64 rc) := by rw [ha]; exact (nT rfl).trans rfl
      have e39 : a.tmps[39]? = some (.bool true) := by rw [ha]; exact fK (e := (1, 39, .bool true)) 1 rfl rfl (hon 1 (by kernel_rfl)) rfl
      replace ha := aC.mk ha
      have R := aC.mk aW
      refine iF (w1 := w') (v := .int .i64 rc) (ER rfl rfl rfl (e39.trans (by first | rfl | (simp [*]; done)))) rfl ?_ ?_
      · go_simp
        (try simp only [dC])
        try rfl
      refine hK.out _ _ ⟨p8, q8, nE, (by rw [ha.out]; exact gM 2 bZ rfl rfl rfl), aW, fun aQ => absurd ((hoff 8 (by kernel_rfl)).symm.trans aQ) (by decide), fun aQ => absurd ((hoff 8 (by kernel_rfl)).symm.trans aQ) (by decide)⟩
    refine gG ?_ ?_
    · rintro b a w' ⟨p8, q8, nE, ha, aW, dA, tF⟩ bZ hon hoff
      refine ⟨_, rfl, fun K hK => ?_⟩
      have e11 : a.tmps[11]? = some (.int .i64 rc) := by rw [ha]; exact (nT rfl).trans rfl
      have e39 : a.tmps[39]? = some (.bool true) := by rw [ha]; exact fK (e := (1, 39, .bool true)) 1 rfl rfl (hon 1 (by kernel_rfl)) rfl
      replace ha := aC.mk ha
      have R := aC.mk aW
      refine iF (w1 := w') (v := .int .i64 rc) (ER rfl rfl rfl (e39.trans (by first | rfl | (simp [*]; done)))) rfl ?_ ?_
      · go_simp
        (try simp only [dC])
        try rfl
      refine hK.out _ _ ⟨p8, q8, nE, (by rw [ha.out]; exact gM 3 bZ rfl rfl rfl), aW, fun aQ => absurd ((hoff 8 (by kernel_rfl)).symm.trans aQ) (by decide), fun aQ => absurd ((hoff 8 (by kernel_rfl)).symm.trans aQ) (by decide)⟩
    refine gG ?_ ?_
    · rintro b a w' ⟨p8, q8, nE, ha, aW, dA, tF⟩ bZ hon hoff
      refine ⟨_, rfl, fun K hK => ?_⟩
      have e40 : a.tmps[40]? = some (.int .i64 rc) := by rw [ha]; exact fK (e := (2, 40, .int .i64 rc)) 2 rfl rfl (hon 2 (by kernel_rfl)) rfl
      have e41 : a.tmps[41]? = some (.int .i64 rc) := by rw [ha]; exact fK (e := (3, 41, .int .i64 rc)) 3 rfl rfl (hon 3 (by kernel_rfl)) rfl
      have e39 : a.tmps[39]? = some (.bool true) := by rw [ha]; exact fK (e := (1, 39, .bool true)) 1 rfl rfl (hon 1 (by kernel_rfl)) rfl
      replace ha := aC.mk ha
      have R := aC.mk aW
      have oD := HEe.out
      refine iF (w1 := w') (v := .bool true) (ER rfl rfl rfl (e39.trans (by first | rfl | (simp [*]; done)))) rfl ?_ ?_
      · go_simp
        (try simp only [dC])
        try rfl
      refine hK.out _ _ ⟨p8, q8, nE, (by rw [ha.out]; exact gM 4 bZ rfl rfl rfl), aW, fun aQ => absurd ((hoff 8 (by kernel_rfl)).symm.trans aQ) (by decide), fun aQ => absurd ((hoff 8 (by kernel_rfl)).symm.trans aQ) (by decide)⟩
    refine gG ?_ ?_
    · rintro b a w' ⟨p8, q8, nE, ha, aW, dA, tF⟩ bZ hon hoff
      refine ⟨_, rfl, fun K hK => ?_⟩
      have e39 : a.tmps[39]? = some (.bool true) := by rw [ha]; exact fK (e := (1, 39, .bool true)) 1 rfl rfl (hon 1 (by kernel_rfl)) rfl
      have e42 : a.tmps[42]? = some (.bool true) := by rw [ha]; exact fK (e := (4, 42, .bool true)) 4 rfl rfl (hon 4 (by kernel_rfl)) rfl
      replace ha := aC.mk ha
      have R := aC.mk aW
      refine iF (w1 := w') (v := .bool true) (by rfl) rfl ?_ ?_
      · go_simp
        (try simp only [dC])
        try rfl
      refine hK.out _ _ ⟨p8, q8, nE, (by rw [ha.out]; exact gM 5 bZ rfl rfl rfl), aW, fun aQ => absurd ((hoff 8 (by kernel_rfl)).symm.trans aQ) (by decide), fun aQ => absurd ((hoff 8 (by kernel_rfl)).symm.trans aQ) (by decide)⟩
    refine gG ?_ ?_
    · rintro b a w' ⟨p8, q8, nE, ha, aW, dA, tF⟩ bZ hon hoff
      refine ⟨_, rfl, fun K hK => ?_⟩
      have e43 : a.tmps[43]? = some (.bool true) := by rw [ha]; exact fK (e := (5, 43, .bool true)) 5 rfl rfl (hon 5 (by kernel_rfl)) rfl
      replace ha := aC.mk ha
      have R := aC.mk aW
      refine iF (w1 := w') (v := .bool true) (by rfl) rfl ?_ ?_
      · go_simp
        (try simp only [dC])
        try rfl
      refine hK.out _ _ ⟨p8, q8, nE, (by rw [ha.out]; exact gM 6 bZ rfl rfl rfl), aW, fun aQ => absurd ((hoff 8 (by kernel_rfl)).symm.trans aQ) (by decide), fun aQ => absurd ((hoff 8 (by kernel_rfl)).symm.trans aQ) (by decide)⟩
    refine gG ?_ ?_
    · rintro b a w' ⟨p8, q8, nE, ha, aW, dA, tF⟩ bZ hon hoff
      refine ⟨_, rfl, fun K hK => ?_⟩
      have e8 : a.tmps[8]? = some (.pointer (some ⟨g8, 0, none⟩)) := by rw [ha]; exact (nT rfl).trans rfl
      have e44 : a.tmps[44]? = some (.bool true) := by rw [ha]; exact fK (e := (6, 44, .bool true)) 6 rfl rfl (hon 6 (by kernel_rfl)) rfl
      replace ha := aC.mk ha
      have R := aC.mk aW
      obtain ⟨aQ, F8, OZ, O0⟩ := aN (aA R.out.u)
      refine iF (w1 := w') (v := .agg #[.string rn, .int .i64 rk, .slice AU rd.length cU, .string nM]) (ER rfl rfl rfl (e44.trans (by first | rfl | (simp [*]; done)))) rfl ?_ ?_
      · go_simp
        (try simp only [dC])
        try rfl
      refine hK.out _ _ ⟨p8, q8, nE, (by rw [ha.out]; exact gM 7 bZ rfl rfl rfl), aW, fun aQ => absurd ((hoff 8 (by kernel_rfl)).symm.trans aQ) (by decide), fun aQ => absurd ((hoff 8 (by kernel_rfl)).symm.trans aQ) (by decide)⟩
    refine gG ?_ ?_
    · rintro b a w' ⟨p8, q8, nE, ha, aW, dA, tF⟩ bZ hon hoff
      refine ⟨_, rfl, fun K hK => ?_⟩
      have e45 : a.tmps[45]? = some (.agg #[.string rn, .int .i64 rk, .slice AU rd.length cU, .string nM]) := by rw [ha]; exact fK (e := (7, 45, .agg #[.string rn, .int .i64 rk, .slice AU rd.length cU, .string nM])) 7 rfl rfl (hon 7 (by kernel_rfl)) rfl
      have e44 : a.tmps[44]? = some (.bool true) := by rw [ha]; exact fK (e := (6, 44, .bool true)) 6 rfl rfl (hon 6 (by kernel_rfl)) rfl
      replace ha := aC.mk ha
      have R := aC.mk aW
      refine call_ 10 #[.agg #[.string rn, .int .i64 rk, .slice AU rd.length cU, .string nM]] (ER rfl rfl rfl (e44.trans rfl)) rfl (by go_simp; try rfl) ?_
      refine (_E.calls rn rk (fun _ => True) AU cU rd nM rn rk rd nM w' (Kd.ru R.out.l10 R.out.Bf) rfl).mono ?_
      rintro e w1 ⟨v2, rfl, hO, hB⟩
      obtain ⟨r1, s1, rfl⟩ := Kd.LF hO
      refine ⟨_, rfl, ?_⟩
      refine hK.out _ _ ⟨r1, s1, (.agg #[.string rn, .int .i64 rk, .slice r1 rd.length s1, .string nM]), (by rw [ha.out]; exact gM 8 bZ rfl rfl rfl), R.out.step hB, fun _ => ⟨(Kd.LB hO).2.1, Kd.P7 (Kd.MQ hO) (fun _ _ => trivial)⟩, fun _ => rfl⟩
    refine gG ?_ ?_
    · rintro b a w' ⟨p8, q8, nE, ha, aW, dA, tF⟩ bZ hon hoff
      refine ⟨_, rfl, fun K hK => ?_⟩
      have e10 : a.tmps[10]? = some (.pointer (some ⟨g10, 0, none⟩)) := by rw [ha]; exact (nT rfl).trans rfl
      have e44 : a.tmps[44]? = some (.bool true) := by rw [ha]; exact fK (e := (6, 44, .bool true)) 6 rfl rfl (hon 6 (by kernel_rfl)) rfl
      replace ha := aC.mk ha
      have R := aC.mk aW
      obtain ⟨aQ, F8, OZ, O0⟩ := aN (aA R.out.m)
      refine iF (w1 := w') (v := .agg #[.string rn, .int .i64 rk, .slice AV rd.length cV, .string nM]) (ER rfl rfl rfl (e44.trans (by first | rfl | (simp [*]; done)))) rfl ?_ ?_
      · go_simp
        (try simp only [dC])
        try rfl
      refine hK.out _ _ ⟨p8, q8, nE, (by rw [ha.out]; exact gM 9 bZ rfl rfl rfl), aW, dA, tF⟩
    refine gG ?_ ?_
    · rintro b a w' ⟨p8, q8, nE, ha, aW, dA, tF⟩ bZ hon hoff
      refine ⟨_, rfl, fun K hK => ?_⟩
      have e46 : a.tmps[46]? = some (nE) := by rw [ha]; exact fK (e := (8, 46, nE)) 8 rfl rfl (hon 8 (by kernel_rfl)) rfl
      rw [tF (hon 8 (by kernel_rfl))] at e46
      have e47 : a.tmps[47]? = some (.agg #[.string rn, .int .i64 rk, .slice AV rd.length cV, .string nM]) := by rw [ha]; exact fK (e := (9, 47, .agg #[.string rn, .int .i64 rk, .slice AV rd.length cV, .string nM])) 9 rfl rfl (hon 9 (by kernel_rfl)) rfl
      have e44 : a.tmps[44]? = some (.bool true) := by rw [ha]; exact fK (e := (6, 44, .bool true)) 6 rfl rfl (hon 6 (by kernel_rfl)) rfl
      replace ha := aC.mk ha
      have R := aC.mk aW
      have O := aC.mk (dA (hon 8 (by kernel_rfl)))
      refine call_ 9 #[.agg #[.string rn, .int .i64 rk, .slice p8 rd.length q8, .string nM], .agg #[.string rn, .int .i64 rk, .slice AV rd.length cV, .string nM]] (ER rfl rfl rfl (e44.trans rfl)) rfl (by go_simp; try rfl) ?_
      refine (JJ.calls rn rk p8 q8 rd nM rn rk AV cV rd nM true w' (Kd.mK O.out.2) O.out.1 (Kd.mK R.out.r5) R.out.l5 HSm.out).mono ?_
      rintro e w1 ⟨rfl, hB⟩
      refine ⟨_, rfl, ?_⟩
      refine hK.out _ _ ⟨p8, q8, nE, (by rw [ha.out]; exact gM 10 bZ rfl rfl rfl), R.out.step hB, fun _ => ⟨O.out.1, kZ O.out.2 hB⟩, tF⟩
    refine gG ?_ ?_
    · rintro b a w' ⟨p8, q8, nE, ha, aW, dA, tF⟩ bZ hon hoff
      refine ⟨_, rfl, fun K hK => ?_⟩
      have e44 : a.tmps[44]? = some (.bool true) := by rw [ha]; exact fK (e := (6, 44, .bool true)) 6 rfl rfl (hon 6 (by kernel_rfl)) rfl
      have e48 : a.tmps[48]? = some (.bool true) := by rw [ha]; exact fK (e := (10, 48, .bool true)) 10 rfl rfl (hon 10 (by kernel_rfl)) rfl
      replace ha := aC.mk ha
      have R := aC.mk aW
      have O := aC.mk (dA (hon 8 (by kernel_rfl)))
      refine iF (w1 := w') (v := .bool true) (by rfl) rfl ?_ ?_
      · go_simp
        (try simp only [dC])
        try rfl
      refine hK.out _ _ ⟨p8, q8, nE, (by rw [ha.out]; exact gM 11 bZ rfl rfl rfl), aW, dA, tF⟩
    refine gG ?_ ?_
    · rintro b a w' ⟨p8, q8, nE, ha, aW, dA, tF⟩ bZ hon hoff
      refine ⟨_, rfl, fun K hK => ?_⟩
      have e49 : a.tmps[49]? = some (.bool true) := by rw [ha]; exact fK (e := (11, 49, .bool true)) 11 rfl rfl (hon 11 (by kernel_rfl)) rfl
      replace ha := aC.mk ha
      have R := aC.mk aW
      have O := aC.mk (dA (hon 8 (by kernel_rfl)))
      refine iF (w1 := w') (v := .bool true) (by rfl) rfl ?_ ?_
      · go_simp
        (try simp only [dC])
        try rfl
      refine hK.out _ _ ⟨p8, q8, nE, (by rw [ha.out]; exact gM 12 bZ rfl rfl rfl), aW, dA, tF⟩
    exact PL
  · rintro b a w' hall ⟨p8, q8, nE, ha, aW, dA, tF⟩
    skip
    have wE := hall 0 (by kernel_rfl)
    have wF := hall 1 (by kernel_rfl)
    have r9 := hall 2 (by kernel_rfl)
    have wG := hall 3 (by kernel_rfl)
    have wH := hall 4 (by kernel_rfl)
    have wI := hall 5 (by kernel_rfl)
    have wJ := hall 6 (by kernel_rfl)
    have sD := hall 7 (by kernel_rfl)
    have tL := hall 8 (by kernel_rfl)
    have uS := hall 9 (by kernel_rfl)
    have zO := hall 10 (by kernel_rfl)
    have uP := hall 11 (by kernel_rfl)
    have IP := hall 12 (by kernel_rfl)
    subst ha
    obtain rfl := tF tL
    simp only [kV, wE, wF, r9, wG, wH, wI, wJ, sD, tL, uS, zO, uP, IP, if_true, Act.put, List.setIfInBounds_toArray, List.set_cons_zero, List.set_cons_succ]
    have R := aC.mk aW
    clear aW
    have O := aC.mk (dA tL)
    clear dA
    clear hall wE wF r9 wG wH wI wJ sD tL uS zO uP IP
    go_wp2
    go_ret
    exact ⟨rfl, R.out.b⟩
section
open Go.ChangeShapes Go.WideShapes
structure AY {H : Type} (enc : TypeId × Value → H) (P : Program) (W : World) (t : TypeId) {α : Type} (d : Kd α) (wf : α → Prop) : Prop where
 cells : P.cellsOf t = d.sz
 go : ∀ (fuel : Nat) (cs : List Value) (x : DataW H × List MemPlace), DataW.trod enc P W 0 (fun _ => true) true fuel t cs = some x →
  (∀ n ∈ DataW.weights P t x.1, n ≤ reachBytes) → ∃ a, d.K W a cs ∧ wf a
theorem AY.int {H : Type} {enc : TypeId × Value → H} {P : Program} {W : World} {t : TypeId} {k : IntKind} (ht : P.underlying t = some (.int k)) (hc : P.cellsOf t = 1) :
 AY enc P W t (Kd.int k) (fun a => (Lit.int k a).wf = true) := by
 refine ⟨hc, fun fuel cs x h _ => ?_⟩
 obtain ⟨n, rfl, _, hw⟩ := DataW.trod_int ht h
 exact ⟨n, rfl, hw⟩
theorem AY.bool {H : Type} {enc : TypeId × Value → H} {P : Program} {W : World} {t : TypeId} (ht : P.underlying t = some .bool) (hc : P.cellsOf t = 1) :
 AY enc P W t Kd.bool (fun _ => True) := by
 refine ⟨hc, fun fuel cs x h _ => ?_⟩
 obtain ⟨b, rfl, _⟩ := DataW.trod_bool ht h
 exact ⟨b, rfl, trivial⟩
theorem AY.string {H : Type} {enc : TypeId × Value → H} {P : Program} {W : World} {t : TypeId} (ht : P.underlying t = some .string) (hc : P.cellsOf t = 1) :
 AY enc P W t Kd.string (fun a => a.size ≤ 140737488351232) := by
 refine ⟨hc, fun fuel cs x h hw => ?_⟩
 obtain ⟨s, rfl, rfl, _⟩ := DataW.trod_string ht h
 refine ⟨s, rfl, ?_⟩
 have := hw s.data.toList.length (by simp [DataW.weights])
 rw [Array.length_toList] at this
 exact this
theorem _D {H : Type} {P : Program} {e : TypeId} : ∀ {l : List (DataW H)} {y : DataW H}, y ∈ l → ∀ n ∈ DataW.weights P e y, n ∈ DataW.weightsAll P e l
 | d :: r, y, hy, n, hn => by
  simp only [DataW.weightsAll, List.mem_append]
  rcases List.mem_cons.1 hy with rfl | hy
  · exact .inl hn
  · exact .inr (_D hy n hn)
theorem AY.slice {H : Type} {enc : TypeId × Value → H} {P : Program} {W : World} {t e : TypeId} {α : Type} {d : Kd α} {wf : α → Prop} {B : Nat} (ht : P.underlying t = some (.slice e)) (hc : P.cellsOf t = 1) (hB : P.bytesOf e = B)
 (he : AY enc P W e d wf) :
 AY enc P W t (Kd.slice e d) (fun l => l.length ≤ maxLen ∧ l.length * B ≤ 140737488351232 ∧ ∀ x ∈ l, wf x) := by
 refine ⟨hc, fun fuel cs x h hw => ?_⟩
 rcases DataW.trod_slice ht h with ⟨rfl, rfl⟩ | ⟨a, len, cap, elems, rest, n, _, rfl, rfl, hb, hl, hm, hlen, hel, hsp, hns⟩
 · exact ⟨[], ⟨none, 0, rfl, Nat.le_refl _, rfl, Nat.zero_le _, fun h => absurd h (Nat.lt_irrefl 0)⟩, by simp, by simp, by simp⟩
 · have WA : ∀ y ∈ elems, ∀ n ∈ DataW.weights P e y.1, n ≤ reachBytes := by
    intro y hy n hn
    refine hw n ?_
    simp only [DataW.weights, ht, List.mem_cons, List.mem_append]
    exact .inr (.inl (_D (List.mem_map_of_mem hy) n hn))
   have hsize : (elems.length + rest.length) * P.bytesOf e ≤ reachBytes := by
    have := hw ((elems.length + rest.length) * P.bytesOf e) (by simp [DataW.weights, ht])
    exact this
   have each : ∀ i, i < len → ∃ y c, W.cells? 0 (a.add (i * P.cellsOf e)) (P.cellsOf e) = some c ∧ d.K W y c ∧ wf y := by
    intro i hi
    have h1 := hel i hi
    have h2 : elems[i]? = some elems[i] := List.getElem?_eq_getElem (by omega)
    rw [h2, Option.bind_eq_some_iff] at h1
    obtain ⟨c, hcs, hy⟩ := h1
    obtain ⟨y, hk, hwf⟩ := he.go n c _ hy (WA _ (List.getElem_mem _))
    exact ⟨y, c, hcs, hk, hwf⟩
   obtain ⟨l, hll, hlp⟩ : ∃ l : List α, l.length = len ∧ ∀ i p, l[i]? = some p → ∃ c, W.cells? 0 (a.add (i * P.cellsOf e)) (P.cellsOf e) = some c ∧ d.K W p c ∧ wf p := by
    clear hel h hw WA hsize hlen hl hsp hns hm hb ht hc
    induction len with
    | zero => exact ⟨[], rfl, by simp⟩
    | succ m ih =>
     obtain ⟨l, hll, hlp⟩ := ih (fun i hi => each i (by omega))
     obtain ⟨y, c, hcs, hk, hwf⟩ := each m (by omega)
     refine ⟨l ++ [y], by simp [hll], fun i p hp => ?_⟩
     rcases Nat.lt_or_ge i l.length with hi | hi
     · rw [List.getElem?_append_left hi] at hp
       exact hlp i p hp
     · rw [List.getElem?_append_right hi] at hp
       obtain ⟨h0, rfl⟩ : i - l.length = 0 ∧ y = p := by
        rcases hq : i - l.length with _ | q
        · rw [hq] at hp; simpa using hp
        · rw [hq] at hp; simp at hp
       obtain rfl : i = m := by omega
       exact ⟨c, hcs, hk, hwf⟩
   subst hll
   refine ⟨l, ⟨some a, cap, rfl, hl, rfl, by unfold maxLen at hm; omega, fun _ => ⟨a, rfl, fun j p hp => ?_⟩⟩, by omega, ?_, ?_⟩
   · obtain ⟨c, hcs, hk, _⟩ := hlp j p hp
     have ou := (World.cells?_some hcs).2.1
     refine ⟨c, by rw [ou, he.cells], hk, fun i u hu => ?_⟩
     have hi : i < P.cellsOf e := by have := (List.getElem?_eq_some_iff.1 hu).1; omega
     have := (World.cells?_some hcs).2.2 i hi
     rw [hu, Addr.add_add] at this
     rw [← he.cells]
     exact this
   · rw [hB] at hsize
     have : l.length * B ≤ (elems.length + rest.length) * B := Nat.mul_le_mul_right _ (by omega)
     exact Nat.le_trans this hsize
   · intro x hx
     obtain ⟨i, hi⟩ := List.getElem?_of_mem hx
     obtain ⟨c, _, _, hwf⟩ := hlp i x hi
     exact hwf
structure P8 {H : Type} (enc : TypeId × Value → H) (P : Program) (W : World) (fs : List Field) (off : Nat) {α : Type} (d : Kd α) (wf : α → Prop) : Prop where
 go : ∀ (n : Nat) (cs : List Value) (xs : List (DataW H × List MemPlace)), cs.length = off + d.sz →
  (∀ (i : Nat) (f : Field), fs[i]? = some f → DataW.trod enc P W 0 (fun _ => true) true n f.type ((cs.drop f.offset).take (P.cellsOf f.type)) = xs[i]?) → xs.length = fs.length →
  (∀ n ∈ DataW.weightsEach P (fs.map (·.type)) (xs.map (·.1)), n ≤ reachBytes) → ∃ a, d.K W a (cs.drop off) ∧ wf a
theorem P8.one {H : Type} {enc : TypeId × Value → H} {P : Program} {W : World} {f : Field} {off : Nat} {α : Type} {d : Kd α} {wf : α → Prop} (ho : f.offset = off) (h : AY enc P W f.type d wf) :
 P8 enc P W [f] off d wf := by
 refine ⟨fun n cs xs hl hx hxl hw => ?_⟩
 obtain ⟨x, rfl⟩ : ∃ x, xs = [x] := by
  match xs, hxl with
  | [x], _ => exact ⟨x, rfl⟩
 have h1 := hx 0 f rfl
 rw [ho, List.take_of_length_le (by rw [List.length_drop, h.cells]; omega)] at h1
 exact h.go n _ x h1 (fun m hm => hw m (by simp [DataW.weightsEach, hm]))
theorem P8.more {H : Type} {enc : TypeId × Value → H} {P : Program} {W : World} {f : Field} {fs : List Field} {off : Nat} {α β : Type} {d : Kd α} {e : Kd β} {wf : α → Prop} {wg : β → Prop} (ho : f.offset = off) (h : AY enc P W f.type d wf)
 (hs : P8 enc P W fs (off + d.sz) e wg) : P8 enc P W (f :: fs) off (Kd.pair d e) (fun a => wf a.1 ∧ wg a.2) := by
 refine ⟨fun n cs xs hl hx hxl hw => ?_⟩
 obtain ⟨x, xs, rfl⟩ : ∃ x ys, xs = x :: ys := by
  match xs, hxl with
  | x :: ys, _ => exact ⟨x, ys, rfl⟩
 have hsz : (Kd.pair d e).sz = d.sz + e.sz := rfl
 have h1 := hx 0 f rfl
 rw [ho, h.cells] at h1
 obtain ⟨a, hk, hwf⟩ := h.go n _ x h1 (fun m hm => hw m (by simp [DataW.weightsEach, hm]))
 obtain ⟨b, hk2, hwg⟩ := hs.go n cs xs (by omega) (fun i g hg => hx (i + 1) g (by simpa using hg)) (by simpa using hxl) (fun m hm => hw m (by simp [DataW.weightsEach, hm]))
 refine ⟨(a, b), ⟨_, _, ?_, hk, hk2⟩, hwf, hwg⟩
 rw [← List.drop_drop, List.take_append_drop]
theorem AY.struct {H : Type} {enc : TypeId × Value → H} {P : Program} {W : World} {t : TypeId} {fs : Array Field} {α β : Type} {d : Kd α} {wf : α → Prop} {f : β → α} (mk : α → β) (hmk : ∀ a, f (mk a) = a) (ht : P.underlying t = some (.struct fs))
 (hc : P.cellsOf t = d.sz) (h : P8 enc P W fs.toList 0 d wf) : AY enc P W t (Kd.KU d f) (fun b => wf (f b)) := by
 refine ⟨hc, fun fuel cs x hx hw => ?_⟩
 obtain ⟨xs, n, _, rfl, hl, hxl, hf⟩ := DataW.trod_struct ht hx
 obtain ⟨a, hk, hwf⟩ := h.go n cs xs (by rw [hl, hc]; omega) (fun i g hg => hf i g (by simpa using hg)) (by simpa using hxl) (fun m hm => hw m (by simpa [DataW.weights, ht] using hm))
 refine ⟨mk a, ?_, by rw [hmk]; exact hwf⟩
 show d.K W (f (mk a)) cs
 rw [hmk]
 simpa using hk
end
section
open Go.ChangeShapes Go.WideShapes
structure nW {H : Type} (enc : TypeId × Value → H) (P : Program) (W : World) (t : TypeId) {α : Type} (d : Kd α) (wf : α → Prop) (bk : α → Nat) : Prop where
 cells : P.cellsOf t = d.sz
 go : ∀ (fuel : Nat) (cs : List Value) (x : DataW H × List MemPlace), DataW.trod enc P W 0 (fun _ => true) true fuel t cs = some x →
  (∀ n ∈ DataW.weights P t x.1, n ≤ reachBytes) → ∃ a, d.K W a cs ∧ wf a ∧ bk a ≤ Go.Proofs.YtgmggompdidcoaaGreatDoor.Rows.uptoBulk x.1
theorem nW.int {H : Type} {enc : TypeId × Value → H} {P : Program} {W : World} {t : TypeId} {k : IntKind} (ht : P.underlying t = some (.int k)) (hc : P.cellsOf t = 1) :
 nW enc P W t (Kd.int k) (fun a => (Lit.int k a).wf = true) (fun _ => 1) := by
 refine ⟨hc, fun fuel cs x h _ => ?_⟩
 obtain ⟨n, rfl, hx, hw⟩ := DataW.trod_int ht h
 exact ⟨n, rfl, hw, by rw [hx]; exact Nat.le_refl _⟩
theorem nW.bool {H : Type} {enc : TypeId × Value → H} {P : Program} {W : World} {t : TypeId} (ht : P.underlying t = some .bool) (hc : P.cellsOf t = 1) :
 nW enc P W t Kd.bool (fun _ => True) (fun _ => 1) := by
 refine ⟨hc, fun fuel cs x h _ => ?_⟩
 obtain ⟨b, rfl, hx⟩ := DataW.trod_bool ht h
 exact ⟨b, rfl, trivial, by rw [hx]; exact Nat.le_refl _⟩
theorem nW.string {H : Type} {enc : TypeId × Value → H} {P : Program} {W : World} {t : TypeId} (ht : P.underlying t = some .string) (hc : P.cellsOf t = 1) :
 nW enc P W t Kd.string (fun a => a.size ≤ 140737488351232) (fun a => a.size + 1) := by
 refine ⟨hc, fun fuel cs x h hw => ?_⟩
 obtain ⟨s, rfl, rfl, _⟩ := DataW.trod_string ht h
 refine ⟨s, rfl, ?_, ?_⟩
 · have := hw s.data.toList.length (by simp [DataW.weights])
   rw [Array.length_toList] at this
   exact this
 · show s.size + 1 ≤ s.data.toList.length + 1
   rw [Array.length_toList]; exact Nat.le_refl _
theorem Gb {H α : Type} (bk : α → Nat) : ∀ (l : List α) (E : List (DataW H)), (∀ (i : Nat) (p : α), l[i]? = some p → ∃ e, E[i]? = some e ∧ bk p ≤ Go.Proofs.YtgmggompdidcoaaGreatDoor.Rows.uptoBulk e) → (l.map bk).sum ≤ Go.Proofs.YtgmggompdidcoaaGreatDoor.Rows.uptoBulkAll E
 | [], E, _ => Nat.zero_le _
 | x :: l, [], h => by obtain ⟨e, he, _⟩ := h 0 x rfl; cases he
 | x :: l, e :: E, h => by
  obtain ⟨e', he, hx⟩ := h 0 x rfl
  obtain rfl : e = e' := by simpa using he
  have := Gb bk l E (fun i p hp => h (i + 1) p (by simpa using hp))
  simp only [List.map_cons, List.sum_cons, Go.Proofs.YtgmggompdidcoaaGreatDoor.Rows.uptoBulkAll]
  omega
theorem nW.slice {H : Type} {enc : TypeId × Value → H} {P : Program} {W : World} {t e : TypeId} {α : Type} {d : Kd α} {wf : α → Prop} {bk : α → Nat} {B : Nat} (ht : P.underlying t = some (.slice e)) (hc : P.cellsOf t = 1) (hB : P.bytesOf e = B)
 (he : nW enc P W e d wf bk) :
 nW enc P W t (Kd.slice e d) (fun l => l.length ≤ maxLen ∧ l.length * B ≤ 140737488351232 ∧ ∀ x ∈ l, wf x) (fun l => (l.map bk).sum + 1) := by
 refine ⟨hc, fun fuel cs x h hw => ?_⟩
 rcases DataW.trod_slice ht h with ⟨rfl, rfl⟩ | ⟨a, len, cap, elems, rest, n, _, rfl, rfl, hb, hl, hm, hlen, hel, hsp, hns⟩
 · exact ⟨[], ⟨none, 0, rfl, Nat.le_refl _, rfl, Nat.zero_le _, fun h => absurd h (Nat.lt_irrefl 0)⟩, ⟨by simp, by simp, by simp⟩, by simp [Go.Proofs.YtgmggompdidcoaaGreatDoor.Rows.uptoBulk]⟩
 · have WA : ∀ y ∈ elems, ∀ n ∈ DataW.weights P e y.1, n ≤ reachBytes := by
    intro y hy n hn
    refine hw n ?_
    simp only [DataW.weights, ht, List.mem_cons, List.mem_append]
    exact .inr (.inl (_D (List.mem_map_of_mem hy) n hn))
   have hsize : (elems.length + rest.length) * P.bytesOf e ≤ reachBytes := by
    have := hw ((elems.length + rest.length) * P.bytesOf e) (by simp [DataW.weights, ht])
    exact this
   have each : ∀ i, i < len → ∃ y c, W.cells? 0 (a.add (i * P.cellsOf e)) (P.cellsOf e) = some c ∧ d.K W y c ∧ wf y ∧ ∃ g, elems[i]? = some g ∧ bk y ≤ Go.Proofs.YtgmggompdidcoaaGreatDoor.Rows.uptoBulk g.1 := by
    intro i hi
    have h1 := hel i hi
    have h2 : elems[i]? = some elems[i] := List.getElem?_eq_getElem (by omega)
    rw [h2, Option.bind_eq_some_iff] at h1
    obtain ⟨c, hcs, hy⟩ := h1
    obtain ⟨y, hk, hwf, hbk⟩ := he.go n c _ hy (WA _ (List.getElem_mem _))
    exact ⟨y, c, hcs, hk, hwf, _, h2, hbk⟩
   obtain ⟨l, hll, hlp⟩ : ∃ l : List α, l.length = len ∧ ∀ i p, l[i]? = some p → ∃ c, W.cells? 0 (a.add (i * P.cellsOf e)) (P.cellsOf e) = some c ∧ d.K W p c ∧ wf p ∧ ∃ g, elems[i]? = some g ∧ bk p ≤ Go.Proofs.YtgmggompdidcoaaGreatDoor.Rows.uptoBulk g.1 := by
    clear hel h hw WA hsize hlen hl hsp hns hm hb ht hc
    induction len with
    | zero => exact ⟨[], rfl, by simp⟩
    | succ m ih =>
     obtain ⟨l, hll, hlp⟩ := ih (fun i hi => each i (by omega))
     obtain ⟨y, c, hcs, hk, hwf, hg⟩ := each m (by omega)
     refine ⟨l ++ [y], by simp [hll], fun i p hp => ?_⟩
     rcases Nat.lt_or_ge i l.length with hi | hi
     · rw [List.getElem?_append_left hi] at hp
       exact hlp i p hp
     · rw [List.getElem?_append_right hi] at hp
       obtain ⟨h0, rfl⟩ : i - l.length = 0 ∧ y = p := by
        rcases hq : i - l.length with _ | q
        · rw [hq] at hp; simpa using hp
        · rw [hq] at hp; simp at hp
       obtain rfl : i = m := by omega
       exact ⟨c, hcs, hk, hwf, hg⟩
   subst hll
   refine ⟨l, ⟨some a, cap, rfl, hl, rfl, by unfold maxLen at hm; omega, fun _ => ⟨a, rfl, fun j p hp => ?_⟩⟩, ⟨by omega, ?_, ?_⟩, ?_⟩
   · obtain ⟨c, hcs, hk, _, _⟩ := hlp j p hp
     have ou := (World.cells?_some hcs).2.1
     refine ⟨c, by rw [ou, he.cells], hk, fun i u hu => ?_⟩
     have hi : i < P.cellsOf e := by have := (List.getElem?_eq_some_iff.1 hu).1; omega
     have := (World.cells?_some hcs).2.2 i hi
     rw [hu, Addr.add_add] at this
     rw [← he.cells]
     exact this
   · rw [hB] at hsize
     have : l.length * B ≤ (elems.length + rest.length) * B := Nat.mul_le_mul_right _ (by omega)
     exact Nat.le_trans this hsize
   · intro x hx
     obtain ⟨i, hi⟩ := List.getElem?_of_mem hx
     obtain ⟨c, _, _, hwf, _⟩ := hlp i x hi
     exact hwf
   · have hs := Gb bk l (elems.map (·.1)) (fun i p hp => by
      obtain ⟨c, _, _, _, g, hg, hb⟩ := hlp i p hp
      exact ⟨g.1, by rw [List.getElem?_map, hg]; rfl, hb⟩)
     simp only [Go.Proofs.YtgmggompdidcoaaGreatDoor.Rows.uptoBulk]
     omega
structure DX {H : Type} (enc : TypeId × Value → H) (P : Program) (W : World) (fs : List Field) (off : Nat) {α : Type} (d : Kd α) (wf : α → Prop) (bk : α → Nat) : Prop where
 go : ∀ (n : Nat) (cs : List Value) (xs : List (DataW H × List MemPlace)), cs.length = off + d.sz →
  (∀ (i : Nat) (f : Field), fs[i]? = some f → DataW.trod enc P W 0 (fun _ => true) true n f.type ((cs.drop f.offset).take (P.cellsOf f.type)) = xs[i]?) → xs.length = fs.length →
  (∀ n ∈ DataW.weightsEach P (fs.map (·.type)) (xs.map (·.1)), n ≤ reachBytes) → ∃ a, d.K W a (cs.drop off) ∧ wf a ∧ bk a ≤ Go.Proofs.YtgmggompdidcoaaGreatDoor.Rows.uptoBulkAll (xs.map (·.1))
theorem DX.one {H : Type} {enc : TypeId × Value → H} {P : Program} {W : World} {f : Field} {off : Nat} {α : Type} {d : Kd α} {wf : α → Prop} (ho : f.offset = off) {bk : α → Nat} (h : nW enc P W f.type d wf bk) :
 DX enc P W [f] off d wf bk := by
 refine ⟨fun n cs xs hl hx hxl hw => ?_⟩
 obtain ⟨x, rfl⟩ : ∃ x, xs = [x] := by
  match xs, hxl with
  | [x], _ => exact ⟨x, rfl⟩
 have h1 := hx 0 f rfl
 rw [ho, List.take_of_length_le (by rw [List.length_drop, h.cells]; omega)] at h1
 obtain ⟨a, hk, hwf, hb⟩ := h.go n _ x h1 (fun m hm => hw m (by simp [DataW.weightsEach, hm]))
 exact ⟨a, hk, hwf, by simp only [List.map_cons, List.map_nil, Go.Proofs.YtgmggompdidcoaaGreatDoor.Rows.uptoBulkAll]; omega⟩
theorem DX.more {H : Type} {enc : TypeId × Value → H} {P : Program} {W : World} {f : Field} {fs : List Field} {off : Nat} {α β : Type} {d : Kd α} {e : Kd β} {wf : α → Prop} {wg : β → Prop} {bk : α → Nat} {bl : β → Nat} (ho : f.offset = off) (h : nW enc P W f.type d wf bk)
 (hs : DX enc P W fs (off + d.sz) e wg bl) : DX enc P W (f :: fs) off (Kd.pair d e) (fun a => wf a.1 ∧ wg a.2) (fun a => bk a.1 + bl a.2) := by
 refine ⟨fun n cs xs hl hx hxl hw => ?_⟩
 obtain ⟨x, xs, rfl⟩ : ∃ x ys, xs = x :: ys := by
  match xs, hxl with
  | x :: ys, _ => exact ⟨x, ys, rfl⟩
 have hsz : (Kd.pair d e).sz = d.sz + e.sz := rfl
 have h1 := hx 0 f rfl
 rw [ho, h.cells] at h1
 obtain ⟨a, hk, hwf, hb1⟩ := h.go n _ x h1 (fun m hm => hw m (by simp [DataW.weightsEach, hm]))
 obtain ⟨b, hk2, hwg, hb2⟩ := hs.go n cs xs (by omega) (fun i g hg => hx (i + 1) g (by simpa using hg)) (by simpa using hxl) (fun m hm => hw m (by simp [DataW.weightsEach, hm]))
 refine ⟨(a, b), ⟨_, _, ?_, hk, hk2⟩, ⟨hwf, hwg⟩, by simp only [List.map_cons, Go.Proofs.YtgmggompdidcoaaGreatDoor.Rows.uptoBulkAll]; omega⟩
 rw [← List.drop_drop, List.take_append_drop]
theorem nW.struct {H : Type} {enc : TypeId × Value → H} {P : Program} {W : World} {t : TypeId} {fs : Array Field} {α β : Type} {d : Kd α} {wf : α → Prop} {bk : α → Nat} {f : β → α} (mk : α → β) (hmk : ∀ a, f (mk a) = a) (ht : P.underlying t = some (.struct fs))
 (hc : P.cellsOf t = d.sz) (h : DX enc P W fs.toList 0 d wf bk) : nW enc P W t (Kd.KU d f) (fun b => wf (f b)) (fun b => bk (f b) + 1) := by
 refine ⟨hc, fun fuel cs x hx hw => ?_⟩
 obtain ⟨xs, n, _, rfl, hl, hxl, hf⟩ := DataW.trod_struct ht hx
 obtain ⟨a, hk, hwf, hb⟩ := h.go n cs xs (by rw [hl, hc]; omega) (fun i g hg => hf i g (by simpa using hg)) (by simpa using hxl) (fun m hm => hw m (by simpa [DataW.weights, ht] using hm))
 refine ⟨mk a, ?_, by rw [hmk]; exact hwf, by rw [hmk]; simp only [Go.Proofs.YtgmggompdidcoaaGreatDoor.Rows.uptoBulk]; omega⟩
 show d.K W (f (mk a)) cs
 rw [hmk]
 simpa using hk
end
end Go.Proofs.YtgmggompdidcoaaGreatDoor.X
namespace Go.Proofs.YtgmggompdidcoaaGreatDoor.pbtensorReads
open Go.ChangeShapes Go.WideShapes Go.ChangeAt Go.RowKit Go.Proofs.YtgmggompdidcoaaGreatDoor.X Go.Proofs.YtgmggompdidcoaaGreatDoorW.aX
set_option linter.unusedVariables false
theorem own : ownKnob Tryz.prog.godebug = none := by kernel_rfl
theorem laidOut : laidOutB Tryz.prog = true := by kernel_rfl
def UW : List (String × DataW Unit) := [("unicode/utf8.acceptRanges", Rows.laid_unicode_utf8_acceptRanges), ("unicode/utf8.first", Rows.laid_unicode_utf8_first)]
def Sk (b : jK) : Prop := (fun p : (ByteArray) × (ByteArray) => (fun a => a.size ≤ 140737488351232) p.1 ∧ (fun a => a.size ≤ 140737488351232) p.2) (b.f0, b.f1)
def Qw (b : jK) : Nat := (fun p : (ByteArray) × (ByteArray) => (fun a => a.size + 1) p.1 + (fun a => a.size + 1) p.2) (b.f0, b.f1) + 1
theorem opF {H : Type} (enc : TypeId × Value → H) (W : World) : nW enc Tryz.prog W 50 JB Sk Qw :=
 nW.struct (fun p => ⟨p.1, p.2⟩) (fun _ => rfl) Tryz.underlying50 (by kernel_rfl) (DX.more rfl (nW.string Tryz.underlying9 (by kernel_rfl)) (DX.one rfl (nW.string Tryz.underlying9 (by kernel_rfl))))
def wfT (b : RV) : Prop := (fun p : (ByteArray) × (Int) × (List Int) × (ByteArray) => (fun a => a.size ≤ 140737488351232) p.1 ∧ ((fun a => (Lit.int .i64 a).wf = true) p.2.1 ∧ ((fun l => l.length ≤ maxLen ∧ l.length * 8 ≤ 140737488351232 ∧ ∀ x ∈ l, (fun a => (Lit.int .i64 a).wf = true) x) p.2.2.1 ∧ (fun a => a.size ≤ 140737488351232) p.2.2.2))) (b.f0, b.f1, b.f2, b.f3)
def bkT (b : RV) : Nat := (fun p : (ByteArray) × (Int) × (List Int) × (ByteArray) => (fun a => a.size + 1) p.1 + ((fun _ => 1) p.2.1 + ((fun l => (l.map (fun _ => 1)).sum + 1) p.2.2.1 + (fun a => a.size + 1) p.2.2.2))) (b.f0, b.f1, b.f2, b.f3) + 1
theorem opT {H : Type} (enc : TypeId × Value → H) (W : World) : nW enc Tryz.prog W 33 k33 wfT bkT :=
 nW.struct (fun p => ⟨p.1, p.2.1, p.2.2.1, p.2.2.2⟩) (fun _ => rfl) Tryz.underlying33 (by kernel_rfl) (DX.more rfl (nW.string Tryz.underlying9 (by kernel_rfl)) (DX.more rfl (nW.int Tryz.underlying30 (by kernel_rfl)) (DX.more rfl (nW.slice Tryz.underlying31 (by kernel_rfl) (by kernel_rfl) (nW.int Tryz.underlying2 (by kernel_rfl))) (DX.one rfl (nW.string Tryz.underlying9 (by kernel_rfl))))))
theorem aAq (os : Os) (args : Array Value) : laidMet Tryz.prog Rows.pbtensorReadsRow.laid ((World.laidAll Tryz.prog os UW).forCall (fun _ _ => 0) ⟨#[], args, []⟩).memory :=
 laidMet_laidAll (laid := UW) _ (by kernel_rfl) (by kernel_rfl)
theorem reads (os : Os) {H : Type} (enc : TypeId × Value → H) : ∃ places, DataW.whole enc Tryz.prog ((World.laidAll Tryz.prog os UW).forCall (fun _ _ => 0) ⟨#[], #[.string ByteArray.empty, .slice none 0 0], []⟩).memory Tryz.f3.params.toList Rows.pbtensorReadsSpec.vars false (#[.string ByteArray.empty, .slice none 0 0] : Array Value).toList 8 = some ([.lit (.string []), .nil], [], places) :=
 ⟨[], by kernel_rfl⟩
set_option maxRecDepth 100000 in
theorem lifted (os : Os) (started : os.Started) (H : Type) (enc : TypeId × Value → H) (F : Stop.Interp) :
 ReturnsInHanded {} Tryz.checked os 3 .any ((OpenSpec.ofChange Rows.pbtensorReadsSpec).preRow enc Tryz.prog Tryz.f3 Rows.pbtensorReadsRow.domain false Rows.pbtensorReadsRow.laid) (((OpenSpec.ofChange Rows.pbtensorReadsSpec).at F).post enc Tryz.prog Tryz.f3 false true false false) := by
 obtain ⟨places, hx⟩ := reads os enc
 refine returnsInHanded_of_row (C := Tryz.checked) (s := OpenSpec.ofChange Rows.pbtensorReadsSpec) own started (by kernel_rfl) Tryz.func3
  (witness_row_at (enc := enc) (C := Tryz.checked) false (World.laidAll Tryz.prog os UW) #[.string ByteArray.empty, .slice none 0 0] (World.laidAll_os _ _ _) (by kernel_rfl) (by kernel_rfl) (by kernel_rfl)
   (OpenSpec.preRow_of_cond 8 hx (by kernel_rfl) (fun k hk => by cases hk) (by kernel_rfl) (aAq os _))) ?_
 intro W base args ds gs before hval0 hW hcnd hk0 hsz0 hL _ _
 have hsz : (DataW.weightsEach Tryz.prog (Tryz.f3.params.toList ++ Rows.pbtensorReadsSpec.plain.varTypes Tryz.prog) (ds ++ gs)).all (· ≤ reachBytes) = true := hsz0
 have hval : ∀ (j : Nat) t v, Tryz.f3.params[j]? = some t → args[j]? = some v → Value.okWide Tryz.prog W .any base t v := hval0
 have hW' := hW
 obtain ⟨p, q, Ra, hV, rfl, hfz, hnd⟩ := hW
 have hA : DataW.TrodAll enc Tryz.prog W 0 (fun _ => true) true Tryz.f3.params.toList args.toList ds p := Ra
 rw [Tryz.params3] at hA hval hsz
 obtain ⟨v0, vs0, d0, ds0, p0, q0, hargs, rfl, rfl, h0, r0⟩ := trodAll_cons hA
 obtain ⟨v1, vs1, d1, ds1, p1, q1, rfl, rfl, rfl, h1, r1⟩ := trodAll_cons r0
 obtain ⟨rfl, rfl, rfl⟩ := trodAll_nil r1
 obtain rfl : args = #[v0, v1] := by cases args; simp_all
 obtain ⟨rfl, rfl⟩ := trodVars_none hV
 have k0 := h0
 have lt0 : ∀ x ∈ p0, x.block < W.heap.size := by obtain ⟨m, hm⟩ := k0; exact DataW.trod_lt m _ _ _ hm
 obtain ⟨aEd, hf0⟩ := h0
 obtain ⟨x0, K0, wf0, bk0⟩ := ((nW.string Tryz.underlying9 (by kernel_rfl)) : nW enc Tryz.prog W 9 Kd.string (fun a => a.size ≤ 140737488351232) (fun a => a.size + 1)).go aEd _ _ hf0 (fun m hm => by simpa using List.all_eq_true.1 hsz m (DataW.weights_mem_each (j := 0) (t := 9) rfl rfl m hm))
 obtain ⟨b0, rfl⟩ := okWide_string Tryz.underlying9 (hval 0 9 v0 rfl rfl)
 obtain rfl : b0 = x0 := by have e_ := K0; simpa [Kd.int, Kd.bool, Kd.string, Kd.scalar, Value.cells] using e_
 have k1 := h1
 have lt1 : ∀ x ∈ p1, x.block < W.heap.size := by obtain ⟨m, hm⟩ := k1; exact DataW.trod_lt m _ _ _ hm
 obtain ⟨aEe, hf1⟩ := h1
 obtain ⟨x1, K1, wf1, bk1⟩ := ((nW.slice Tryz.underlying22 (by kernel_rfl) (by kernel_rfl) (opF enc W)) : nW enc Tryz.prog W 22 (Kd.slice 50 JB) (fun l => l.length ≤ maxLen ∧ l.length * 32 ≤ 140737488351232 ∧ ∀ x ∈ l, Sk x) (fun l => (l.map Qw).sum + 1)).go aEe _ _ hf1 (fun m hm => by simpa using List.all_eq_true.1 hsz m (DataW.weights_mem_each (j := 1) (t := 22) rfl rfl m hm))
 obtain ⟨a1, aFr, Oo, rfl⟩ := okWide_slice Tryz.underlying22 (hval 1 22 v1 rfl rfl)
 obtain ⟨A1, c1, e1, hc1, hC1⟩ := K1
 obtain ⟨rfl, rfl, rfl⟩ : a1 = A1 ∧ aFr = x1.length ∧ Oo = c1 := by simpa [Value.cells] using e1
 clear Ra hval0 hsz0 hsz hk0
 have Ri : x1.length ≤ 4398046510976 ∧ ∀ f ∈ x1, f.f0.size ≤ 140737488351232 ∧ f.f1.size ≤ 140737488351232 := ⟨by have := wf1.2.1; omega, fun f hf => wf1.2.2 f hf⟩
 refine (aCD b0 a1 Oo x1 W hC1 hc1 Ri.1 Ri.2 wf0).mono fun e W' ⟨he, aEN⟩ => ?_
 have zt : Below W.heap.size W W' := aEN
 subst he
 exact ⟨_, rfl, _, _, _, [], _, [], hW', trodAll_mk1 (shut_bool Tryz.underlying4 _), (trodAll_cons_mk (Below.trod laidOut (by kernel_rfl) (of_decide_eq_true (by kernel_rfl)) k0 zt lt0) (trodAll_cons_mk (Below.trod laidOut (by kernel_rfl) (of_decide_eq_true (by kernel_rfl)) k1 zt lt1) trodAll_mk0)), rfl, zt.frame _, fun h => by cases h⟩
theorem said : Rows.PbtensorReadsSaid :=
 OpenClaim.holds_of_cond 3 Tryz.f3 rfl rfl rfl rfl rfl rfl rfl ⟨rfl, rfl, rfl, rfl, rfl⟩ rfl rfl rfl rfl rfl (by kernel_rfl) Tryz.func3 (by kernel_rfl)
  (of_decide_eq_true (by kernel_rfl)) (by unfold Func.isWrapper; first | (rw [ip (by decide +kernel)]; kernel_rfl) | (rw [iN (by decide +kernel)]; exact ⟨rfl, rfl⟩))
  (fun os started H enc _ F => by rw [OpenClaim.pre_eq_preRow]; exact lifted os started H enc F)
theorem card : Rows.PbtensorReadsCardSaid :=
 Claim7.holds_tied_plain_at .later [] _ _ _ _ said (fun _ h => by cases h) (by kernel_rfl) (fun _ h => by cases h) pbtensorReads_row_tie rfl ⟨rfl, rfl⟩ (by kernel_rfl) rfl
  (fun f fn hf hfn => by
   obtain rfl : f = 3 := Option.some.inj ((show Tryz.prog.funcNamed "agate/agatelaw09.PbtensorReads" = some 3 by kernel_rfl).symm.trans hf) |>.symm
   obtain rfl : fn = Tryz.f3 := (Option.some.inj (Tryz.func3.symm.trans hfn)).symm
   exact ⟨by kernel_rfl, fun j t ht => by
    rw [Tryz.params3] at ht
    have hm : t ∈ [9, 22] := by simpa using Array.mem_of_getElem? ht
    have hall : ([9, 22].all fun u => !Tryz.prog.wantsStandIn u) = true := by kernel_rfl
    exact (show Tryz.prog.wantsStandIn t = false by simpa using List.all_eq_true.1 hall t hm)⟩)
  (by kernel_rfl)
#print axioms card
end Go.Proofs.YtgmggompdidcoaaGreatDoor.pbtensorReads
namespace Go.Proofs.YtgmggompdidcoaaGreatDoor
theorem pbtensorReads_holds : Rows.PbtensorReadsCardSaid := pbtensorReads.card
end Go.Proofs.YtgmggompdidcoaaGreatDoor
