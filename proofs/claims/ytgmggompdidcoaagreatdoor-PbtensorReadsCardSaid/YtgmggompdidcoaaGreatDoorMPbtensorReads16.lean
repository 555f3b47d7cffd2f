import Derived.Test.YtgmggompdidcoaaGreatDoorMPbtensorReads15
import Derived.Test.YtgmggompdidcoaaGreatDoorMPbtensorReads12
namespace Go.Proofs.YtgmggompdidcoaaGreatDoor.X
open Go.RowKit Go.Proofs.YtgmggompdidcoaaGreatDoorW.aX Go.Proofs.YtgmggompdidcoaaGreatDoorW.bJ Go.Proofs.YtgmggompdidcoaaGreatDoorW.bK
attribute [local go_sem] bO bQ bS bU bM bN bP bR
set_option linter.unusedVariables false
set_option linter.unusedSimpArgs false
set_option maxHeartbeats 8000000
set_option maxRecDepth 100000
def GJ.f (aY : ByteArray) (aT : Int) (aV : List Int) (bC : ByteArray) : Option Int := if aY.size ≤ 140737488351232 ∧ bC.size ≤ 140737488351232 then some (qR aY aT aV bC) else none
theorem Uu (name : ByteArray) (kind : Int) (bE : List Int) (data : ByteArray) (n q : Nat) (hq : gF kind = (q : Int)) (hq0 : 0 < q) (hd : data.size ≤ 140737488351232) (hn : data.size = n * q) (d : Nat) : ∀ (k i : Nat), n - i = d → i ≤ n → 2 * d + 1 < k →
 mV.l0 k (n : Int) (i : Int) name kind bE data = some (if ((List.range n).drop i).all (ED kind data) = true then 0 else 17) := by
 have Ot : n ≤ data.size := by rw [hn]; exact Nat.le_mul_of_pos_right n hq0
 induction d with
 | zero =>
  intro k i hdd hi hk
  obtain ⟨k, rfl⟩ : ∃ m, k = m + 1 := ⟨k - 1, by omega⟩
  simp only [mV.l0]
  rw [iN (by omega), List.drop_of_length_le (by simp; omega)]; rfl
 | succ d ih =>
  intro k i hdd hi hk
  obtain ⟨k, rfl⟩ : ∃ m, k = m + 2 := ⟨k - 2, by omega⟩
  have hlt : i < n := by omega
  have hi2 : (i + 1) * q ≤ data.size := by rw [hn]; exact Nat.mul_le_mul_right q hlt
  have hm : (i + 1) * q = i * q + q := Nat.succ_mul i q
  have ih' := ih k (i + 1) (by omega) (by omega) (by omega)
  rw [show k + 2 = (k + 1) + 1 from rfl]
  simp only [mV.l0]
  rw [ip (by omega), Fu _ n i hlt]
  by_cases h9 : kind = 9
  · subst h9
    obtain rfl : q = 1 := by have : gF 9 = 1 := rfl; omega
    rw [ip rfl, ip (by omega), ip (by omega)]
    simp only [mV.j1]
    have e : ED 9 data i = decide (bt data i ≤ 1) := by unfold ED; rw [ip rfl]
    rw [e]
    by_cases hb : bt data (i : Int) ≤ 1
    · rw [show decide (bt data (i : Int) > 1) = false from dF (by omega), iN (by simp), iN (by decide), dT hb, Bool.true_and, fC (by omega) (by omega)]
      exact ih'
    · rw [show decide (bt data (i : Int) > 1) = true from dT (by omega), ip rfl, dF hb]; rfl
  · rw [iN h9]
    simp only [mV.j1]
    rw [iN (by simp)]
    by_cases sO : kind = 14
    · subst sO
      obtain rfl : q = 8 := by have : gF 14 = 8 := rfl; omega
      have e1 : wrap64 (8 * (i : Int)) = ((8 * i : Nat) : Int) := by
       rw [show (8 * (i : Int)) = ((8 * i : Nat) : Int) by simp]; exact fC (by omega) (by omega)
      have e2 : wrap64 (((8 * i : Nat) : Int) + 8) = ((8 * i + 8 : Nat) : Int) := by
       rw [show (((8 * i : Nat) : Int) + 8) = ((8 * i + 8 : Nat) : Int) by omega]; exact fC (by omega) (by omega)
      rw [ip rfl, e1, e2, ip (by omega), ip (by omega), ip (by omega), Int.toNat_natCast, Int.toNat_natCast]
      have e : ED 14 data i = ((vY (data.extract (8 * i) (8 * i + 8))).2.2 == 0) := by unfold ED; rw [iN (by decide), ip rfl]
      rw [e, show DN.f (data.extract (8 * i) (8 * i + 8)) = some (vY (data.extract (8 * i) (8 * i + 8))) from rfl, Option.bind_some]
      by_cases hz : (vY (data.extract (8 * i) (8 * i + 8))).2.2 = 0
      · rw [ip hz, show ((vY (data.extract (8 * i) (8 * i + 8))).2.2 == 0) = true from beq_iff_eq.2 hz, Bool.true_and, fC (by omega) (by omega)]
        exact ih'
      · rw [iN hz, show ((vY (data.extract (8 * i) (8 * i + 8))).2.2 == 0) = false from beq_eq_false_iff_ne.2 hz]; rfl
    · have e : ED kind data i = true := by unfold ED; rw [iN h9, iN sO]
      rw [iN sO, e, Bool.true_and, fC (by omega) (by omega)]
      exact ih'
theorem GJ.ev (aY : ByteArray) (aT : Int) (aV : List Int) (bC : ByteArray) (r) (h : GJ.f aY aT aV bC = some r) : ∃ k, mV.f k aY aT aV bC = some r := by
 unfold GJ.f at h
 split at h
 case isFalse => cases h
 rename_i hs
 rw [← Option.some.inj h]
 unfold qR mV.f xS.f
 rw [ip hs.1]
 simp only [Option.bind_some, show xR.f aT = some (gF aT) from rfl, show yY.f aV = some (kE aV) from rfl]
 by_cases hn : tK aY = true
 case neg => exact ⟨0, by rw [iN hn, iN hn]⟩
 rw [ip hn]
 by_cases hk : gF aT = 0
 · exact ⟨0, by rw [ip hn, ip hk, ip hk]⟩
 rw [iN hk]
 by_cases hz : (kE aV).2 = 0
 case neg => exact ⟨0, by rw [ip hn, iN hk, iN hz, iN hz]⟩
 rw [ip hz]
 have hb := _V hz
 obtain ⟨q, hq⟩ := Int.eq_ofNat_of_zero_le (show 0 ≤ gF aT by rcases XC aT with h | h | h | h <;> omega)
 have hq8 : 0 < q ∧ q ≤ 8 := by rcases XC aT with h | h | h | h <;> omega
 obtain ⟨n, hn2⟩ := Int.eq_ofNat_of_zero_le hb.1
 have hle : n * q ≤ 65536 * 8 := Nat.mul_le_mul (by omega) hq8.2
 have hw : wrap64 ((kE aV).1 * gF aT) = (kE aV).1 * gF aT := by
  rw [hq, hn2, show ((n : Int) * (q : Int)) = ((n * q : Nat) : Int) by simp]
  exact fC (by omega) (by omega)
 by_cases hd : (bC.size : Int) = (kE aV).1 * gF aT
 case neg => exact ⟨0, by rw [ip hn, iN hk, ip hz, hw, iN hd, iN hd]⟩
 have hd2 : bC.size = n * q := by rw [hq, hn2] at hd; exact_mod_cast hd
 have := Uu aY aT aV bC n q hq hq8.1 hs.2 hd2 n (2 * n + 2) 0 (by omega) (by omega) (by omega)
 rw [List.drop_zero] at this
 refine ⟨2 * n + 2, ?_⟩
 rw [ip hn, iN hk, ip hz, hw, ip hd, ip hd, hn2, Int.toNat_natCast]
 exact this
theorem GJ.calls (aY : ByteArray) (aT : Int) (fM : Option Addr) (fO : Nat) (aV : List Int) (bC : ByteArray) (r : Int) (w : World) (rF : Kd.C (Kd.int .i64) w fM aV.length aV) (rE : aV.length ≤ fO) (h : GJ.f aY aT aV bC = some r) :
 Calls Tryz.prog 11 #[.agg #[.string aY, .int .i64 aT, .slice fM aV.length fO, .string bC]] w fun e w' => e = .returned (.int .i64 r) ∧ Below w.heap.size w w' := by
 obtain ⟨k, hk⟩ := GJ.ev aY aT aV bC _ h
 exact mV.calls k aY aT fM fO aV bC r w rF rE hk

def aFn (x : Int) : Prop := -9223372036854775808 ≤ x ∧ x < 9223372036854775808
structure QG (name : ByteArray) (kind : Int) (bE : List Int) (data : ByteArray) : Prop where
 zz : qR name kind bE data = 0
 n : name.size ≤ 1000
 d : data.size ≤ 10000
 l : bE.length ≤ 100
 r : ∀ x ∈ bE, aFn x
theorem QG.name {a : ByteArray} {k : Int} {l : List Int} {d : ByteArray} (h : QG a k l d) : tK a = true := by
 have h1 := h.zz
 unfold qR at h1
 by_cases c : tK a = true
 · exact c
 · rw [iN c] at h1; exact absurd h1 (by decide)
theorem QG.kind {a : ByteArray} {k : Int} {l : List Int} {d : ByteArray} (h : QG a k l d) : gF k ≠ 0 := by
 have h1 := h.zz
 unfold qR at h1
 rw [ip h.name] at h1
 intro c
 rw [ip c] at h1
 exact absurd h1 (by decide)
theorem QG.size {a : ByteArray} {k : Int} {l : List Int} {d : ByteArray} (h : QG a k l d) : (kE l).2 = 0 := by
 have h1 := h.zz
 unfold qR at h1
 rw [ip h.name, iN h.kind] at h1
 by_cases c : (kE l).2 = 0
 · exact c
 · rw [iN c] at h1; exact h1
structure aIh (a : ByteArray) (k : Int) (l : List Int) (d : ByteArray) : Prop where
 w : IntKind.u64.wrap k = k
 p : (uu 1 l).size ≤ 1100
 n : (LK 2 0 k ⟨#[]⟩).size ≤ 20
 t : (LK 8 2 0 a).size ≤ 1020
 r : (LK 9 2 0 d).size ≤ 10020
theorem pU {w : World} {g t : Nat} {v0 v1 v2 v3 v4 v5 v6 v7 v8 v9 : Value} (h : aC (w.heap[g]? = some (.cells #[v0, v1, v2, v3, v4, v5, v6, v7, v8, v9] t (0, 0)))) :
 w.cell? ⟨g, 0, none⟩ = some v0 ∧ w.cell? ⟨g, 1, none⟩ = some v1 ∧ w.cell? ⟨g, 2, none⟩ = some v2 ∧ w.cell? ⟨g, 3, none⟩ = some v3 ∧ w.cell? ⟨g, 4, none⟩ = some v4 ∧ w.cell? ⟨g, 5, none⟩ = some v5 ∧ w.cell? ⟨g, 6, none⟩ = some v6 ∧ w.cell? ⟨g, 7, none⟩ = some v7 ∧ w.cell? ⟨g, 8, none⟩ = some v8 ∧ w.cell? ⟨g, 9, none⟩ = some v9 :=
 ⟨aM h.out 0, aM h.out 1, aM h.out 2, aM h.out 3, aM h.out 4, aM h.out 5, aM h.out 6, aM h.out 7, aM h.out 8, aM h.out 9⟩
theorem LC (name : ByteArray) (kd : Int) (bE : List Int) {d : ByteArray} {c : Int} (h : c ≠ 0) : lG name kd bE (d, c) = (iJ, c) := ip h
theorem jc (name : ByteArray) (kd : Int) (bE : List Int) (d : ByteArray) : lG name kd bE (d, 0) = ((name, kd, bE, d), qR name kd bE d) := iN (fun h => h rfl)
def G7 (w : World) (P : Nat → Prop) (R : Tn × Int) (en : Ending) (w' : World) : Prop := ∃ v : Value, en = .returned (.tuple #[.agg #[.string R.1.1, .int .i64 R.1.2.1, v, .string R.1.2.2.2], .int .i64 R.2]) ∧ Kd.V (Kd.int .i64) 2 w' w.heap.size (fun k => P k) v R.1.2.2.1 ∧ Below w.heap.size w w'
theorem jH {w w' : World} {P : Nat → Prop} {R : Tn × Int} {c : Int} (h : R = (iJ, c)) (hb : Below w.heap.size w w') : G7 w P R (.returned (.tuple #[.agg #[.string ⟨#[]⟩, .int .i64 0, .slice none 0 0, .string ⟨#[]⟩], .int .i64 c])) w' := by
 subst h
 exact ⟨_, rfl, Kd.Mh _ _ _ _ _, hb⟩
theorem PN {w w' : World} {P : Nat → Prop} {R : Tn × Int} {c : Int} {name data : ByteArray} {kd : Int} {bE : List Int} {A1 : Option Addr} {c1 : Nat} (h : R = ((name, kd, bE, data), c)) (hb : Below w.heap.size w w') (hf : Kd.F (Kd.int .i64) w P A1 bE.length bE) (hc : bE.length ≤ c1) : G7 w P R (.returned (.tuple #[.agg #[.string name, .int .i64 kd, .slice A1 bE.length c1, .string data], .int .i64 c])) w' := by
 subst h
 exact ⟨_, rfl, Kd.ru hc (kZ hf hb), hb⟩
theorem Vp (name : ByteArray) (kd : Int) (P : Nat → Prop) (A1 : Option Addr) (c1 : Nat) (bE : List Int) (data : ByteArray) (A2 : Option Addr) (c2 : Nat) (few : List Int) (A3 : Option Addr) (c3 : Nat) (many : List Int) (A4 : Option Addr) (c4 : Nat) (ext : List ByteArray) (wh els : Int) (w : World)
 (h1 : Kd.F (Kd.int .i64) w P A1 bE.length bE) (h1c : bE.length ≤ c1) (hf : few.length ≤ 65536) (hm : many.length ≤ 65536) (hn : name.size ≤ 140737488351232) (hd : data.size ≤ 140737488351232) :
 Calls Tryz.prog 22 #[.agg #[.string name, .int .i64 kd, .slice A1 bE.length c1, .string data, .slice A2 few.length c2, .slice A3 many.length c3, .bool true, .slice A4 ext.length c4, .int .u64 wh, .int .i64 els]] w (G7 w P (lG name kd bE (oL kd data few many true))) := by
 have tN := Tryz.underlying59
 have lZ := Tryz.underlying33
 have H1 := aA h1
 have yH := aA h1c
 have HN := aA (And.intro hn hd)
 have HB := aC.mk (Below.refl w.heap.size w)
 have hz : IntKind.i64.wrap ((few.length : Int) + (many.length : Int)) = (few.length : Int) + (many.length : Int) := by rw [dC]; exact fC (by omega) (by omega)
 by_cases h0 : 0 < few.length + many.length
 · have b0 : decide (0 < (few.length : Int) + (many.length : Int)) = true := dT (by omega)
   have HR := aC.mk (show lG name kd bE (oL kd data few many true) = (iJ, 19) from by unfold lG oL; rw [ip rfl, ip h0]; rfl)
   clear h1 h1c hf hm hn hd h0
   go_enter Tryz.func22, Tryz.ntmps22
   go_wp2_with (first | ((with_reducible refine cK (N := 1) rfl ?_); refine dB (N := 1) (cs := #[.string name, .int .i64 kd, .slice A1 bE.length c1, .string data, .slice A2 few.length c2, .slice A3 many.length c3, .bool true, .slice A4 ext.length c4, .int .u64 wh, .int .i64 els]) (t := 59) ?_; intro gm hg w1 aG hb; have BM := aA aG; have GM := bB HB hg; replace HB := hbS HB hb; clear hb aG hg) | ((with_reducible refine cK (N := 2) rfl ?_); refine dB (N := 2) (cs := #[.string ⟨#[]⟩, .int .i64 0, .slice none 0 0, .string ⟨#[]⟩]) (t := 33) ?_; intro gr hg w2 aG hb; have BR := aA aG; have GR := bB HB hg; have wL := cO BM hg; have wM := dD BM hg; replace BM := aI BM hb; replace HB := hbS HB hb; clear hb aG hg; obtain ⟨hm0, hm1, hm2, kG, jQ, jR, kH, jL, jS, jE⟩ := pU BM) | ((with_reducible refine cK (N := 4) rfl ?_); refine dB (N := 4) (cs := #[.string ⟨#[]⟩, .int .i64 0, .slice none 0 0, .string ⟨#[]⟩]) (t := 33) ?_; intro gt hg w3 aG hb; have BT := aA aG; have GT := bB HB hg; have zT := cO BM hg; have zU := dD BM hg; have lM := cO BR hg; have l9 := dD BR hg; replace BM := aI BM hb; replace BR := aI BR hb; replace HB := hbS HB hb; clear hb aG hg hm0 hm1 hm2 kG jQ jR kH jL jS jE; obtain ⟨hm0, hm1, hm2, kG, jQ, jR, kH, jL, jS, jE⟩ := pU BM; obtain ⟨ht0, ht1, ht2, ht3⟩ := aN BT; have CY := fz BT 0; have CZ := fz BT 1; have C8 := fz BT 2; have qB := fz BT 3; obtain ⟨hr0, hr1, hr2, hr3⟩ := aN BR; have fJ := fz BR 0; have fQ := fz BR 1; have fT := fz BR 2; have fU := fz BR 3; have n1 := zT.out; have n2 := zU.out; have n3 := lM.out; have n4 := l9.out; have n5 := wL.out; have n6 := wM.out))
   refine bodyPost_ret (eP rfl _ _ gr 33 #[.string ⟨#[]⟩, .int .i64 0, .slice none 0 0, .string ⟨#[]⟩] (0, 0) _ rfl (aU BR) lZ rfl (by kernel_rfl)) rfl ?_
   exact jH HR.out (dR (dR HB.out GT.out) GR.out)
 · have b0 : decide (0 < (few.length : Int) + (many.length : Int)) = false := dF (by omega)
   have HR := aC.mk (show lG name kd bE (oL kd data few many true) = ((name, kd, bE, data), qR name kd bE data) from by unfold lG oL; rw [ip rfl, iN h0]; rfl)
   have VP := aC.mk (ZI name kd bE data hn hd)
   clear h1 h1c hf hm hn hd h0
   go_enter Tryz.func22, Tryz.ntmps22
   go_wp2_with (first | ((with_reducible refine cK (N := 1) rfl ?_); refine dB (N := 1) (cs := #[.string name, .int .i64 kd, .slice A1 bE.length c1, .string data, .slice A2 few.length c2, .slice A3 many.length c3, .bool true, .slice A4 ext.length c4, .int .u64 wh, .int .i64 els]) (t := 59) ?_; intro gm hg w1 aG hb; have BM := aA aG; have GM := bB HB hg; replace HB := hbS HB hb; clear hb aG hg) | ((with_reducible refine cK (N := 2) rfl ?_); refine dB (N := 2) (cs := #[.string ⟨#[]⟩, .int .i64 0, .slice none 0 0, .string ⟨#[]⟩]) (t := 33) ?_; intro gr hg w2 aG hb; have BR := aA aG; have GR := bB HB hg; have wL := cO BM hg; have wM := dD BM hg; replace BM := aI BM hb; replace HB := hbS HB hb; clear hb aG hg; obtain ⟨hm0, hm1, hm2, kG, jQ, jR, kH, jL, jS, jE⟩ := pU BM) | ((with_reducible refine cK (N := 4) rfl ?_); refine dB (N := 4) (cs := #[.string ⟨#[]⟩, .int .i64 0, .slice none 0 0, .string ⟨#[]⟩]) (t := 33) ?_; intro gt hg w3 aG hb; have BT := aA aG; have GT := bB HB hg; have zT := cO BM hg; have zU := dD BM hg; have lM := cO BR hg; have l9 := dD BR hg; replace BM := aI BM hb; replace BR := aI BR hb; replace HB := hbS HB hb; clear hb aG hg hm0 hm1 hm2 kG jQ jR kH jL jS jE; obtain ⟨hm0, hm1, hm2, kG, jQ, jR, kH, jL, jS, jE⟩ := pU BM; obtain ⟨ht0, ht1, ht2, ht3⟩ := aN BT; have CY := fz BT 0; have CZ := fz BT 1; have C8 := fz BT 2; have qB := fz BT 3; obtain ⟨hr0, hr1, hr2, hr3⟩ := aN BR; have fJ := fz BR 0; have fQ := fz BR 1; have fT := fz BR 2; have fU := fz BR 3; have n1 := zT.out; have n2 := zU.out; have n3 := lM.out; have n4 := l9.out; have n5 := wL.out; have n6 := wM.out))
   obtain ⟨w4, hw⟩ : ∃ wb, wb = (((w3.setCell ⟨gt, 0, none⟩ (.string name)).setCell ⟨gt, 1, none⟩ (.int .i64 kd)).setCell ⟨gt, 2, none⟩ (.slice A1 bE.length c1)).setCell ⟨gt, 3, none⟩ (.string data) := ⟨_, rfl⟩
   rw [← hw]
   replace BR := aA (show w4.drew.heap[gr]? = some _ from by rw [hw]; exact kU (aU BR))
   replace BT := aA (show w4.drew.heap[gt]? = some (.cells #[.string name, .int .i64 kd, .slice A1 bE.length c1, .string data] 33 (0, 0)) from by rw [hw]; exact kU (aU BT))
   replace HB := aA (show Below w.heap.size w w4.drew from by rw [hw]; exact iO (dR HB.out GT.out))
   clear hw hm0 hm1 hm2 kG jQ jR kH jL jS jE ht0 ht1 ht2 ht3 CY CZ C8 qB hr0 hr1 hr2 hr3 fJ fQ fT fU n1 n2 n3 n4 n5 n6
   refine vQ (n := 5) (S := fun w' => w'.heap[gt]? = some (.cells #[.string name, .int .i64 kd, .slice A1 bE.length c1, .string data] 33 (0, 0))) (ds := []) (bA 5 0) (by kernel_rfl) rfl rfl BT.out (fun hHeld => ?_)
   generalize w4.drew = wd at BR BT HB hHeld ⊢
   refine yC (i := 0) (N := some 26) (v := ?_) (a' := ?_) (bA 5 1) rfl rfl (by kernel_rfl) (fun _ _ _ h => h) (Or.inl ⟨by rfl, ?_⟩) hHeld ?_ ?_
   rotate_left
   · intro w' hs
     obtain ⟨s0, s1, s2, s3⟩ := aN (aA hs)
     go_simp
     with_reducible rfl
   rotate_left
   · simp only [Act.put, List.setIfInBounds_toArray, List.set_cons_zero, List.set_cons_succ, dC, iC]
     rfl
   refine yC (i := 1) (N := some 27) (v := ?_) (a' := ?_) (bA 5 3) rfl rfl (by kernel_rfl) (fun _ _ _ h => h) (Or.inl ⟨by rfl, ?_⟩) hHeld ?_ ?_
   rotate_left
   · intro w' hs
     obtain ⟨s0, s1, s2, s3⟩ := aN (aA hs)
     go_simp
     with_reducible rfl
   rotate_left
   · simp only [Act.put, List.setIfInBounds_toArray, List.set_cons_zero, List.set_cons_succ, dC, iC]
     rfl
   refine sN (i := 2) (N := some 28) (bA 5 7) rfl rfl (by kernel_rfl) (by decide) (fun K hK => ?_)
   refine xO Tryz.func34 (by kernel_rfl) rfl #[.agg #[.string name, .int .i64 kd, .slice A1 bE.length c1, .string data]] (by rfl) rfl rfl ?_
   refine (xQ.calls name kd A1 c1 bE data _ wd (Kd.gN (Kd.mK H1.out) HB.out) yH.out VP.out).mono ?_
   rintro e w5 ⟨rfl, hb⟩
   refine ⟨_, rfl, ?_⟩
   replace BR := aI BR hb
   replace BT := aI BT hb
   replace HB := hbS HB hb
   clear hb hHeld
   refine hK.out _ _ BT.out (fun hHeld => ?_)
   clear hK K
   refine xP 28 ?_
   refine sN (i := 3) (N := none) (bA 5 15) rfl rfl (by kernel_rfl) (by decide) (fun K hK => ?_)
   obtain ⟨hr0, hr1, hr2, hr3⟩ := aN BR
   have fJ := fz BR 0
   have fQ := fz BR 1
   have fT := fz BR 2
   have fU := fz BR 3
   have n3 := lM.out
   have n4 := l9.out
   refine J6 (w1 := ?_) (by rfl) rfl ?_ ?_
   rotate_left
   · go_simp
     rfl
   refine hK.out _ _ (aU BT) (fun hHeld => ?_)
   clear hK K
   refine JC (i := 4) (N := some 3) (bA 5 31) ?_
   refine FL (by kernel_rfl) ?_
   go_wp2
   refine bodyPost_ret (eP rfl _ _ gr 33 #[.string name, .int .i64 kd, .slice A1 bE.length c1, .string data] (0, 0) _ rfl (aU BR) lZ rfl (by kernel_rfl)) rfl ?_
   exact PN HR.out (dR HB.out GR.out) H1.out yH.out
theorem aCP {w : World} {g t : Nat} {a0 a1 a2 a3 a4 a5 a6 a7 a8 a9 v0 v1 v2 v3 v4 v5 v6 v7 v8 v9 : Value} (h : w.heap[g]? = some (.cells #[a0, a1, a2, a3, a4, a5, a6, a7, a8, a9] t (0, 0))) :
 ((((((((((w.setCell ⟨g, 0, none⟩ v0).setCell ⟨g, 1, none⟩ v1).setCell ⟨g, 2, none⟩ v2).setCell ⟨g, 3, none⟩ v3).setCell ⟨g, 4, none⟩ v4).setCell ⟨g, 5, none⟩ v5).setCell ⟨g, 6, none⟩ v6).setCell ⟨g, 7, none⟩ v7).setCell ⟨g, 8, none⟩ v8).setCell ⟨g, 9, none⟩ v9).heap[g]? = some (.cells #[v0, v1, v2, v3, v4, v5, v6, v7, v8, v9] t (0, 0)) := by
 have h2 := (jT (jT (jT (jT (jT (jT (jT (jT (jT (jT h 0 v0) 1 v1) 2 v2) 3 v3) 4 v4) 5 v5) 6 v6) 7 v7) 8 v8) 9 v9)
 simp only [List.setIfInBounds_toArray, List.set_cons_zero, List.set_cons_succ] at h2
 exact h2
def _y.f : Option Bool := some true
theorem Vf : gF 14 = 8 := by decide
theorem Vg : IX 7 = ⟨#[105, 110, 116]⟩ := by rfl
theorem _y.calls (r : Bool) (w : World) (h : _y.f = some r) :
 Calls Tryz.prog 48 #[] w fun e w' => e = .returned (.bool r) ∧ Below w.heap.size w w' := by
 obtain rfl := Option.some.inj h
 go_enter Tryz.func48, Tryz.ntmps48
 go_wp2_with (first | (fail))
 refine (Eo.calls 14 _).mono ?_
 rintro e w1 ⟨rfl, hb⟩
 rw [Vf]
 have HB := aC.mk hb
 clear hb
 go_wp2_with (first | (fail))
 refine (Wv.calls 7 rfl _).mono ?_
 rintro e w2 ⟨rfl, hb⟩
 rw [Vg]
 have bI := aC.mk (jV HB.out hb)
 clear HB hb
 have HB := bI
 go_wp2_with (first | (fail))
 go_ret
 exact ⟨rfl, HB.out⟩
def xU.l0 : Nat → List Int → List Int → Int → Int → Option (Bool)
 | 0, _, _, _, _ => none
 | k + 1, x0, x1, GI, nQ => if nQ < GI then (if 0 ≤ nQ then (if nQ < (x0.length : Int) then (if nQ < (x1.length : Int) then (if (rd x0 nQ) = (rd x1 nQ) then (xU.l0 k x0 x1 GI (wrap64 (nQ + 1))) else (some false)) else (none)) else (none)) else (none)) else (some true)
def xU.f (k : Nat) (l0 : List Int) (l1 : List Int) : Option (Bool) := if (l0.length : Int) = (l1.length : Int) then (xU.l0 k l0 l1 (l0.length : Int) 0) else (some false)
theorem xU.calls (k : Nat) (A0 : Option Addr) (c0 : Nat) (l0 : List Int) (A1 : Option Addr) (c1 : Nat) (l1 : List Int) (r : Bool) (w : World) (hr0 : Kd.C (Kd.int .i64) w A0 l0.length l0) (hc0 : l0.length ≤ c0) (hr1 : Kd.C (Kd.int .i64) w A1 l1.length l1) (hc1 : l1.length ≤ c1) (h : xU.f k l0 l1 = some r) :
 Calls Tryz.prog 47 #[.slice A0 l0.length c0, .slice A1 l1.length c1] w fun e w' => e = .returned (.bool r) ∧ fG w w' := by
 have fF := aA hr0; have oO := aA hc0; clear hr0 hc0; have HR1 := aA hr1; have VO := aA hc1; clear hr1 hc1; have H : (if (l0.length : Int) = (l1.length : Int) then (xU.l0 k l0 l1 (l0.length : Int) 0) else (some false)) = some r := h; clear h
 by_cases c3 : (l0.length : Int) = (l1.length : Int)
 ·
  rw [ip c3] at H; have gL := beq_iff_eq.mpr c3; have rW := bne_eq_false_iff_eq.mpr c3; have Z7 : (l0.length == l1.length) = true := by first | simpa using c3 | (simp at c3 ⊢; omega)
  clear c3; have H' := aA H; clear H
  go_enter Tryz.func47, Tryz.ntmps47
  go_wp2
  repeat (go_quiet (fail); try go_wp2)
  go_loopg [13] k (fun kq v13 w' => ∃ (iR : Int), v13 = .int .i64 iR ∧ aC (xU.l0 kq l0 l1 (l0.length : Int) iR = some r) ∧ aC (kq ≤ k) ∧ fG w w')
  case atStart => exact ⟨(0), aZ, H', ⟨Nat.le_refl _⟩, dr⟩
  case round =>
   clear H'; try clear c1; try clear c3; try clear gL; try clear rW; try clear Z7
   obtain ⟨iR, rfl, HA, bD, ⟨m1, rfl⟩⟩ := hrel
   cases gk with
   | zero => exact absurd HA.out (by simp [xU.l0])
   | succ k1 =>
    have H := HA.out; clear HA
    simp only [xU.l0] at H
    by_cases c4 : iR < (l0.length : Int)
    ·
     rw [ip c4] at H; have fP := dT c4; clear c4; replace H := dU H; obtain ⟨c5, H⟩ := H; have iH := dT c5; clear c5
     by_cases c6 : iR < (l0.length : Int)
     ·
      rw [ip c6] at H; have kP := dT c6; clear c6; replace H := dU H; obtain ⟨c7, H⟩ := H; have nA := dT c7; clear c7
      by_cases c8 : (rd l0 iR) = (rd l1 iR)
      ·
       rw [ip c8] at H; obtain ⟨mG, EA⟩ := dH c8; clear c8; have H' := aA H; clear H; have dL : 0 ≤ (iR : Int) := aK; have dM : iR < (l0.length : Int) := aK; obtain ⟨lD, iM, gD⟩ := Kd.kN fF.out iR dL dM; cases iM; replace dL := eT dL; replace dM := eT dM; have jO : 0 ≤ (iR : Int) := aK; have jP : iR < (l1.length : Int) := aK; obtain ⟨vT, qU, rQ⟩ := Kd.kN HR1.out iR jO jP; cases qU; replace jO := eT jO; replace jP := eT jP
       go_wp2
       repeat (go_quiet (fail); try go_wp2)
       go_roundg k1
       case measure => have := bD.out; omega
       case rel => exact ⟨(wrap64 (iR + 1)), aZ, H', iK bD, dr⟩
      ·
       rw [iN c8] at H; have mG := beq_eq_false_iff_ne.mpr c8; have EA := bne_iff_ne.mpr c8; obtain rfl := Option.some.inj H; have dL : 0 ≤ (iR : Int) := aK; have dM : iR < (l0.length : Int) := aK; obtain ⟨lD, iM, gD⟩ := Kd.kN fF.out iR dL dM; cases iM; replace dL := eT dL; replace dM := eT dM; have jO : 0 ≤ (iR : Int) := aK; have jP : iR < (l1.length : Int) := aK; obtain ⟨vT, qU, rQ⟩ := Kd.kN HR1.out iR jO jP; cases qU; replace jO := eT jO; replace jP := eT jP
       go_wp2
       repeat (go_quiet (fail); try go_wp2)
       go_ret
       exact dW
     ·
      exact absurd (of_decide_eq_true fP) c6
    ·
     rw [iN c4] at H; have fP := dF c4; clear c4; obtain rfl := Option.some.inj H
     go_wp2
     repeat (go_quiet (fail); try go_wp2)
     go_ret
     exact dW
 ·
  rw [iN c3] at H; have gL := beq_eq_false_iff_ne.mpr c3; have rW := bne_iff_ne.mpr c3; have Z7 : (l0.length == l1.length) = false := by first | simpa using c3 | (simp at c3 ⊢; omega)
  obtain rfl := Option.some.inj H
  go_enter Tryz.func47, Tryz.ntmps47
  go_wp2
  repeat (go_quiet (fail); try go_wp2)
  go_ret
  exact dW
def uZ.f (l0 l1 : List Int) : Option Bool := if l0.length < 9223372036854775807 then some (decide (l0 = l1)) else none
theorem Sq (l0 l1 : List Int) (hl : l0.length = l1.length) (hb : l0.length < 9223372036854775807) (d : Nat) : ∀ (k i : Nat), l0.length - i = d → i ≤ l0.length → d < k →
 xU.l0 k l0 l1 l0.length i = some (decide (l0.drop i = l1.drop i)) := by
 induction d with
 | zero =>
  intro k i hd hi hk
  obtain ⟨k, rfl⟩ : ∃ m, k = m + 1 := ⟨k - 1, by omega⟩
  simp only [xU.l0]
  rw [iN (by omega), List.drop_of_length_le (by omega), List.drop_of_length_le (by omega)]
  simp
 | succ d ih =>
  intro k i hd hi hk
  obtain ⟨k, rfl⟩ : ∃ m, k = m + 1 := ⟨k - 1, by omega⟩
  have h0 : i < l0.length := by omega
  have h1 : i < l1.length := by omega
  have e0 : rd l0 (i : Int) = l0[i] := by simp [rd, List.getD_eq_getElem?_getD, h0]
  have e1 : rd l1 (i : Int) = l1[i] := by simp [rd, List.getD_eq_getElem?_getD, h1]
  simp only [xU.l0, e0, e1]
  rw [ip (by omega), ip (by omega), ip (by omega), ip (by omega), List.drop_eq_getElem_cons h0, List.drop_eq_getElem_cons h1, fC (by omega) (by omega)]
  by_cases h : l0[i] = l1[i]
  · rw [ip h]
    refine (ih k (i + 1) (by omega) (by omega) (by omega)).trans ?_
    have hi : (l0[i] :: l0.drop (i + 1) = l1[i] :: l1.drop (i + 1)) ↔ l0.drop (i + 1) = l1.drop (i + 1) := by rw [List.cons.injEq]; exact ⟨fun g => g.2, fun g => ⟨h, g⟩⟩
    rw [decide_eq_decide.2 hi]
  · rw [iN h]
    have hi : ¬ (l0[i] :: l0.drop (i + 1) = l1[i] :: l1.drop (i + 1)) := by rw [List.cons.injEq]; exact fun g => h g.1
    rw [dF hi]
theorem uZ.ev (l0 l1 : List Int) (r) (h : uZ.f l0 l1 = some r) : ∃ k, xU.f k l0 l1 = some r := by
 unfold uZ.f at h
 split at h
 · rename_i hb
   rw [← h]
   refine ⟨l0.length + 1, ?_⟩
   unfold xU.f
   by_cases hl : l0.length = l1.length
   · rw [ip (by omega)]
     simpa using Sq l0 l1 hl hb l0.length (l0.length + 1) 0 (by omega) (by omega) (by omega)
   · rw [iN (by omega)]
     congr 1
     symm
     rw [decide_eq_false_iff_not]
     intro he
     exact hl (congrArg List.length he)
 · cases h
theorem uZ.calls (A0 : Option Addr) (c0 : Nat) (l0 : List Int) (A1 : Option Addr) (c1 : Nat) (l1 : List Int) (r : Bool) (w : World) (hr0 : Kd.C (Kd.int .i64) w A0 l0.length l0) (hc0 : l0.length ≤ c0) (hr1 : Kd.C (Kd.int .i64) w A1 l1.length l1) (hc1 : l1.length ≤ c1) (h : uZ.f l0 l1 = some r) :
 Calls Tryz.prog 47 #[.slice A0 l0.length c0, .slice A1 l1.length c1] w fun e w' => e = .returned (.bool r) ∧ fG w w' := by
 obtain ⟨k, hk⟩ := uZ.ev l0 l1 _ h
 exact xU.calls k A0 c0 l0 A1 c1 l1 r w hr0 hc0 hr1 hc1 hk
def vE.l0 : Nat → List Int → List Int → Int → Int → Option (List Int)
 | 0, _, _, _, _ => none
 | k + 1, x0, x5, x9, jJ => if jJ < x9 then (if x5.length < 17592186044416 then (vE.l0 k x0 (x5 ++ [1]) x9 (wrap64 (jJ + 1))) else (none)) else (if x5.length + x0.length < 17592186044416 then (some (x5 ++ x0)) else (none))
def vE.f (k : Nat) (l0 : List Int) (a1 : Int) : Option (List Int) := vE.l0 k l0 ([] : List Int) (wrap64 (a1 - (l0.length : Int))) 0
theorem vE.calls (k : Nat) (A0 : Option Addr) (c0 : Nat) (l0 : List Int) (a1 : Int) (r : List Int) (w : World) (hr0 : Kd.C (Kd.int .i64) w A0 l0.length l0) (hc0 : l0.length ≤ c0) (h : vE.f k l0 a1 = some r) :
 Calls Tryz.prog 98 #[.slice A0 l0.length c0, .int .i64 a1] w fun e w' => ∃ gW : Value, e = .returned (gW) ∧ Kd.R (Kd.int .i64) 2 w' w.heap.size (fun _ => True) gW r ∧ Below w.heap.size w w' := by
 have fF := aA hr0; have oO := aA hc0; clear hr0 hc0; have HB := aA (Below.refl w.heap.size w); have H : (vE.l0 k l0 ([] : List Int) (wrap64 (a1 - (l0.length : Int))) 0) = some r := h; clear h; have H' := aA H; clear H
 go_enter Tryz.func98, Tryz.ntmps98
 go_wp2
 go_loopg [5, 10] k (fun kq v5 v10 w' => ∃ (eU : List Int) (iQ : Int), v10 = .int .i64 iQ ∧ aC (vE.l0 kq l0 eU (wrap64 (a1 - (l0.length : Int))) iQ = some r) ∧ aC (kq ≤ k) ∧ aC (Kd.R (Kd.int .i64) 2 w' w.heap.size (fun _ => True) v5 eU) ∧ aC (Below w.heap.size w w'))
 case atStart => exact ⟨(([] : List Int)), (0), aZ, H', ⟨Nat.le_refl _⟩, ⟨nC⟩, ⟨aJ HB⟩⟩
 case round =>
  clear H'; obtain ⟨eU, iQ, rfl, HA, bD, qQ, HB⟩ := hrel
  cases gk with
  | zero => exact absurd HA.out (by simp [vE.l0])
  | succ k1 =>
   have H := HA.out; clear HA
   simp only [vE.l0] at H
   by_cases c3 : iQ < (wrap64 (a1 - (l0.length : Int)))
   ·
    rw [ip c3] at H; have gL := dT c3; clear c3; replace H := dU H; obtain ⟨c4, H⟩ := H; have aEJ := aA c4; clear c4; obtain ⟨y101, hy101⟩ : ∃ y_ : List Int, y_ = (eU ++ [1]) := ⟨_, rfl⟩; replace H : (vE.l0 k1 l0 y101 (wrap64 (a1 - (l0.length : Int))) (wrap64 (iQ + 1))) = some r := by first | (rw [hy101]; with_reducible exact H) | (have fI := (Option.bind_some _ _).symm.trans H; rw [hy101]; with_reducible exact fI) | (have fI := (Option.bind_some _ _).symm.trans H; with_reducible exact fI) | with_reducible exact H | (rw [hy101]; exact H) | exact H
    have AX := aA hy101; clear hy101; have H' := aA H; clear H
    go_wp2_with (first | ((with_reducible refine qD (b := .append) (xs := #[.tmp 12, .tmp 13]) rfl ?_); at_builtin; refine Kd.qZ (Kd.int .i64) (w0 := w) w.heap.size rfl (.tmp 12) (.tmp 13) 31 2 (.int .i64 0) 8 rfl Tryz.underlying31 FT rfl (by decide) (by omega) u5 eU 1 [.int .i64 1] (fun _ => True) (fun _ => False) rfl rfl ?aP (fun _ hk => hk.elim) ?aF ?aO ?aB ?aS ?aL ?_; (case aP => exact rfl); (case aB => exact (aJ HB)); (case aF => exact (fun _ _ => trivial)); (case aO => exact (dZ qQ)); (case aS => exact (iI (aJ HB))); (case aL => have := aEJ.out; omega); intro KC w5 ho hb hg hat; rw [← AX.out] at ho; replace HB := aA hb; have jN := aA ho; clear qQ; clear ho hb hg hat))
    go_roundg k1
    case measure => have := bD.out; omega
    case rel => exact ⟨(y101), (wrap64 (iQ + 1)), aZ, H', iK bD, ⟨dZ jN⟩, ⟨aJ HB⟩⟩
   ·
    rw [iN c3] at H; have gL := dF c3; clear c3; replace H := dU H; obtain ⟨c6, H⟩ := H; have U0 := aA c6; clear c6; obtain ⟨y104, hy104⟩ : ∃ y_ : List Int, y_ = (eU ++ l0) := ⟨_, rfl⟩; replace H : (some y104) = some r := by first | (rw [hy104]; with_reducible exact H) | (have fI := (Option.bind_some _ _).symm.trans H; rw [hy104]; with_reducible exact fI) | (have fI := (Option.bind_some _ _).symm.trans H; with_reducible exact fI) | with_reducible exact H | (rw [hy104]; exact H) | exact H
    have mg := aA hy104; clear hy104; obtain rfl := Option.some.inj H
    go_wp2_with (first | ((with_reducible refine qD (b := .append) (xs := #[.tmp 16, .tmp 17]) rfl ?_); at_builtin; refine Kd.Cg (Kd.int .i64) (w0 := w) w.heap.size rfl (.tmp 16) (.tmp 17) 31 2 (.int .i64 0) 8 rfl Tryz.underlying31 FT rfl (by decide) (by omega) u5 eU l0 _ _ _ (fun _ => True) (fun _ => False) rfl rfl ?aO ?aR (fun _ _ h => h) (fun _ h => h.elim) ?aF ?aB ?aS ?aL ?_; (case aR => exact uY fF HB); (case aB => exact (aJ HB)); (case aF => exact (fun _ _ => trivial)); (case aO => exact (dZ qQ)); (case aS => exact (iI (aJ HB))); (case aL => have := U0.out; omega); intro v105 w7 ho hb hg hat; rw [← mg.out] at ho; replace HB := aA hb; have QE := aA ho; clear qQ; clear ho hb hg hat))
    go_ret
    exact ⟨_, eH, dZ QE, aJ HB⟩
def K3.f (l0 : List Int) (a1 : Int) : Option (List Int) := if 0 ≤ a1 ∧ a1 ≤ 1000000 ∧ l0.length ≤ 1000000 then some (List.replicate (a1.toNat - l0.length) 1 ++ l0) else none
theorem Vx (l : List Int) (hl : l.length ≤ 1000000) (m : Nat) (hm : m ≤ 1000000) (d : Nat) : ∀ (k i : Nat), m - i = d → i ≤ m → d < k →
 vE.l0 k l (List.replicate i 1) (m : Int) i = some (List.replicate m 1 ++ l) := by
 induction d with
 | zero =>
  intro k i hd hi hk
  obtain ⟨k, rfl⟩ : ∃ m, k = m + 1 := ⟨k - 1, by omega⟩
  obtain rfl : i = m := by omega
  rw [vE.l0, iN (by omega), ip (by rw [List.length_replicate]; omega)]
 | succ d ih =>
  intro k i hd hi hk
  obtain ⟨k, rfl⟩ : ∃ m, k = m + 1 := ⟨k - 1, by omega⟩
  have ew : wrap64 ((i : Int) + 1) = ((i + 1 : Nat) : Int) := by rw [fC (by omega) (by omega)]; omega
  rw [vE.l0, ip (by omega), ip (by rw [List.length_replicate]; omega), ew, ← List.replicate_succ']
  clear ew
  exact ih k (i + 1) (by omega) (by omega) (by omega)
theorem K3.ev (l0 : List Int) (a1 : Int) (r) (h : K3.f l0 a1 = some r) : ∃ k, vE.f k l0 a1 = some r := by
 unfold K3.f at h
 split at h
 · rename_i hs
   obtain ⟨h0, h1, h2⟩ := hs
   rw [← h]
   refine ⟨a1.toNat + 1, ?_⟩
   unfold vE.f
   rw [fC (by omega) (by omega)]
   by_cases hc : (l0.length : Int) ≤ a1
   · have e : a1 - (l0.length : Int) = ((a1.toNat - l0.length : Nat) : Int) := by omega
     rw [e]
     exact Vx l0 h2 _ (by omega) _ (a1.toNat + 1) 0 rfl (by omega) (by omega)
   · have e : a1.toNat - l0.length = 0 := by omega
     rw [vE.l0, iN (by omega), ip (by simp; omega), e]
     rfl
 · cases h
theorem K3.calls (A0 : Option Addr) (c0 : Nat) (l0 : List Int) (a1 : Int) (r : List Int) (w : World) (hr0 : Kd.C (Kd.int .i64) w A0 l0.length l0) (hc0 : l0.length ≤ c0) (h : K3.f l0 a1 = some r) :
 Calls Tryz.prog 98 #[.slice A0 l0.length c0, .int .i64 a1] w fun e w' => ∃ gW : Value, e = .returned (gW) ∧ Kd.R (Kd.int .i64) 2 w' w.heap.size (fun _ => True) gW r ∧ Below w.heap.size w w' := by
 obtain ⟨k, hk⟩ := K3.ev l0 a1 _ h
 exact vE.calls k A0 c0 l0 a1 r w hr0 hc0 hk
theorem aAS (A1 : Option Addr) (c1 : Nat) (A2 : Option Addr) (c2 : Nat) (w : World) (h1 : Kd.C (Kd.int .i64) w A1 2 [3, 1]) (h1c : 2 ≤ c1) (h2 : Kd.C (Kd.int .i64) w A2 2 [2, 3]) (MZ : 2 ≤ c2) :
 Calls Tryz.prog 86 #[.slice A1 2 c1, .slice A2 2 c2] w fun e w' => ∃ v, e = .returned v ∧ Kd.R (Kd.int .i64) 2 w' w.heap.size (fun _ => True) v [2, 0] ∧ Below w.heap.size w w' := by
 have HB := aC.mk (Below.refl w.heap.size w)
 obtain ⟨a1, rfl, x0⟩ := Kd.kN h1 0 (by decide) (by decide)
 obtain ⟨a1', e, x1⟩ := Kd.kN h1 1 (by decide) (by decide)
 cases e
 obtain ⟨a2, rfl, y0⟩ := Kd.kN h2 0 (by decide) (by decide)
 obtain ⟨a2', e, y1⟩ := Kd.kN h2 1 (by decide) (by decide)
 cases e
 have HO : aC (Kd.R (Kd.int .i64) 2 w w.heap.size (fun _ => True) (.slice none 0 0) []) := ⟨Kd.AZ _ _ _ _ _⟩
 replace x0 : w.cell? a1 = some (.int .i64 3) := x0
 replace x1 : w.cell? { block := a1.block, off := a1.off + 1 } = some (.int .i64 1) := x1
 replace y0 : w.cell? a2 = some (.int .i64 2) := y0
 replace y1 : w.cell? { block := a2.block, off := a2.off + 1 } = some (.int .i64 3) := y1
 have X1 := aA x1
 have Y1 := aA y1
 clear h1 h2 x1 y1
 go_enter Tryz.func86, Tryz.ntmps86
 go_wp2_with (first | fail)
 refine wp_loop_rounds 3 ?_
 rw [rounds_succ]
 go_wp2_with (first | ((with_reducible refine qD (b := .append) (xs := #[.tmp 35, .tmp 37]) rfl ?_); at_builtin; refine Kd.qZ (Kd.int .i64) (w0 := w) w.heap.size rfl (.tmp 35) (.tmp 37) 31 2 (.int .i64 0) 8 rfl Tryz.underlying31 FT rfl (by decide) (by omega) (.slice none 0 0) [] 2 [.int .i64 2] (fun _ => True) (fun _ => False) rfl rfl ?aP (fun _ hk => hk.elim) ?aF ?aO ?aB ?aS ?aL ?_; (case aP => exact rfl); (case aB => exact (aJ HB)); (case aF => exact (fun _ _ => trivial)); (case aO => exact (dZ HO)); (case aS => exact (iI (aJ HB))); (case aL => decide); intro v105 JF ho hb hg hat; replace HB := aA hb; replace HO := aA ho; clear ho hb hg hat))
 have x1 := hbc HB X1.out (World.block_lt_of_cell? _ _ X1.out)
 have y1 := hbc HB Y1.out (World.block_lt_of_cell? _ _ Y1.out)
 rw [rounds_succ]
 go_wp2_with (first | ((with_reducible refine qD (b := .append) (xs := #[.tmp 35, .tmp 37]) rfl ?_); at_builtin; refine Kd.qZ (Kd.int .i64) (w0 := w) w.heap.size rfl (.tmp 35) (.tmp 37) 31 2 (.int .i64 0) 8 rfl Tryz.underlying31 FT rfl (by decide) (by omega) v105 [2] 0 [.int .i64 0] (fun _ => True) (fun _ => False) rfl rfl ?aP (fun _ hk => hk.elim) ?aF ?aO ?aB ?aS ?aL ?_; (case aP => exact rfl); (case aB => exact (aJ HB)); (case aF => exact (fun _ _ => trivial)); (case aO => exact (dZ HO)); (case aS => exact (iI (aJ HB))); (case aL => decide); intro RF R6 ho hb hg hat; replace HB := aA hb; replace HO := aA ho; clear ho hb hg hat))
 rw [rounds_succ]
 go_wp2_with (first | fail)
 go_ret
 exact ⟨_, rfl, HO.out, HB.out⟩
theorem Vd (A1 : Option Addr) (c1 : Nat) (A2 : Option Addr) (c2 : Nat) (w : World) (h1 : Kd.C (Kd.int .i64) w A1 2 [3, 1]) (h1c : 2 ≤ c1) (h2 : Kd.C (Kd.int .i64) w A2 1 [4]) (MZ : 1 ≤ c2) :
 Calls Tryz.prog 85 #[.slice A1 2 c1, .slice A2 1 c2] w fun e w' => ∃ v, e = .returned (.tuple #[v, .int .i64 0]) ∧ Kd.R (Kd.int .i64) 2 w' w.heap.size (fun _ => True) v [3, 4] ∧ Below w.heap.size w w' := by
 have H1 := aA h1
 have H2 := aA h2
 have HC := aA (And.intro h1c MZ)
 have HB := aC.mk (Below.refl w.heap.size w)
 clear h1 h1c h2 MZ
 go_enter Tryz.func85, Tryz.ntmps85
 go_wp2_with (first | fail)
 have BX := aA (vL w (Obj.cells #[.slice A1 2 c1, .slice A2 1 c2] 31))
 replace HB := aA (iD HB.out (Obj.cells #[.slice A1 2 c1, .slice A2 1 c2] 31))
 generalize w.alloc (Obj.cells #[.slice A1 2 c1, .slice A2 1 c2] 31) = w1 at BX HB ⊢
 generalize w.heap.size = gx at BX ⊢
 obtain ⟨hx0, hx1⟩ := yN BX
 refine wp_loop_rounds 3 ?_
 rw [rounds_succ]
 go_wp2_with (first | fail)
 refine (uF.calls A1 c1 [3, 1] 3 0 _ (Kd.gN H1.out HB.out) HC.out.1 (by decide +kernel)).mono ?_
 rintro e w2 ⟨rfl, hb⟩
 replace BX := aI BX hb
 replace HB := hbS HB hb
 clear hb hx0 hx1
 obtain ⟨hx0, hx1⟩ := yN BX
 go_wp2_with (first | fail)
 rw [rounds_succ]
 go_wp2_with (first | fail)
 refine (uF.calls A2 c2 [4] 4 0 _ (Kd.gN H2.out HB.out) HC.out.2 (by decide +kernel)).mono ?_
 rintro e w3 ⟨rfl, hb⟩
 replace BX := aI BX hb
 replace HB := hbS HB hb
 clear hb hx0 hx1
 obtain ⟨hx0, hx1⟩ := yN BX
 go_wp2_with (first | fail)
 rw [rounds_succ]
 go_wp2_with (first | fail)
 refine (K3.calls A1 c1 [3, 1] 2 [3, 1] _ (Kd.gN H1.out HB.out) HC.out.1 (by decide +kernel)).mono ?_
 rintro e w4 ⟨v0, rfl, q, hb⟩
 obtain ⟨X, cx, rfl⟩ := Kd.jF q
 have HX := aA (Kd.jA q).2.2
 replace HB := hbS HB hb
 clear q hb hx0 hx1 BX
 go_wp2_with (first | fail)
 refine (K3.calls A2 c2 [4] 2 [1, 4] _ (Kd.gN H2.out HB.out) HC.out.2 (by decide +kernel)).mono ?_
 rintro e w5 ⟨v0, rfl, q, hb⟩
 obtain ⟨Y, cy, rfl⟩ := Kd.jF q
 have HY := aA (Kd.jA q).2.2
 replace HX := aA (Kd.gN HX.out hb)
 replace HB := hbS HB hb
 clear q hb
 obtain ⟨x, rfl, x0⟩ := Kd.kN HX.out 0 (by decide) (by decide)
 obtain ⟨x', e, x1⟩ := Kd.kN HX.out 1 (by decide) (by decide)
 cases e
 obtain ⟨y, rfl, y0⟩ := Kd.kN HY.out 0 (by decide) (by decide)
 obtain ⟨y', e, y1⟩ := Kd.kN HY.out 1 (by decide) (by decide)
 cases e
 replace x0 : w5.cell? x = some (.int .i64 3) := x0
 replace x1 : w5.cell? { block := x.block, off := x.off + 1 } = some (.int .i64 1) := x1
 replace y0 : w5.cell? y = some (.int .i64 1) := y0
 replace y1 : w5.cell? { block := y.block, off := y.off + 1 } = some (.int .i64 4) := y1
 go_wp2_with (first | fail)
 have HO : aC (Kd.R (Kd.int .i64) 2 w5 w5.heap.size (fun _ => True) (.slice none 0 0) []) := ⟨Kd.AZ _ _ _ _ _⟩
 have X0 := aA x0
 have X1 := aA x1
 have Y1 := aA y1
 have H5 := aA (Below.refl w5.heap.size w5)
 refine wp_loop_rounds 3 ?_
 rw [rounds_succ]
 go_wp2_with (first | fail)
 go_region
 obtain ⟨w6, Az⟩ : ∃ w6, w6 = w5.drew := ⟨_, rfl⟩
 rw [← Az]
 replace HO := aA (show Kd.R (Kd.int .i64) 2 w6 w5.heap.size (fun _ => True) (.slice none 0 0) [] from Kd.AZ _ _ _ _ _)
 replace H5 := aA (show Below w5.heap.size w5 w6 from by rw [Az]; exact iO H5.out)
 clear x0 x1 y0 y1
 have x0 := hbc H5 X0.out (World.block_lt_of_cell? _ _ X0.out)
 clear Az
 go_wp2_with (first | ((with_reducible refine qD (b := .append) (xs := #[.tmp 66, .tmp 71]) rfl ?_); at_builtin; refine Kd.qZ (Kd.int .i64) (w0 := w5) w5.heap.size rfl (.tmp 66) (.tmp 71) 31 2 (.int .i64 0) 8 rfl Tryz.underlying31 FT rfl (by decide) (by omega) (.slice none 0 0) [] 3 [.int .i64 3] (fun _ => True) (fun _ => False) rfl rfl ?aP (fun _ hk => hk.elim) ?aF ?aO ?aB ?aS ?aL ?_; (case aP => exact rfl); (case aB => exact (aJ H5)); (case aF => exact (fun _ _ => trivial)); (case aO => exact (dZ HO)); (case aS => exact (iI (aJ H5))); (case aL => decide); intro v105 JF ho hb hg hat; replace H5 := aA hb; replace HO := aA ho; clear ho hb hg hat))
 clear x0
 have x1 := hbc H5 X1.out (World.block_lt_of_cell? _ _ X1.out)
 have y1 := hbc H5 Y1.out (World.block_lt_of_cell? _ _ Y1.out)
 rw [rounds_succ]
 go_wp2_with (first | fail)
 go_region
 obtain ⟨w7, hw7⟩ : ∃ w7, w7 = JF.drew := ⟨_, rfl⟩
 rw [← hw7]
 replace HO := aA (show Kd.R (Kd.int .i64) 2 w7 w5.heap.size (fun _ => True) v105 [3] from by rw [hw7]; exact Kd.jX HO.out)
 replace H5 := aA (show Below w5.heap.size w5 w7 from by rw [hw7]; exact iO H5.out)
 clear x1 y1
 have x1 := hbc H5 X1.out (World.block_lt_of_cell? _ _ X1.out)
 have y1 := hbc H5 Y1.out (World.block_lt_of_cell? _ _ Y1.out)
 clear hw7
 go_wp2_with (first | ((with_reducible refine qD (b := .append) (xs := #[.tmp 79, .tmp 84]) rfl ?_); at_builtin; refine Kd.qZ (Kd.int .i64) (w0 := w5) w5.heap.size rfl (.tmp 79) (.tmp 84) 31 2 (.int .i64 0) 8 rfl Tryz.underlying31 FT rfl (by decide) (by omega) v105 [3] 4 [.int .i64 4] (fun _ => True) (fun _ => False) rfl rfl ?aP (fun _ hk => hk.elim) ?aF ?aO ?aB ?aS ?aL ?_; (case aP => exact rfl); (case aB => exact (aJ H5)); (case aF => exact (fun _ _ => trivial)); (case aO => exact (dZ HO)); (case aS => exact (iI (aJ H5))); (case aL => decide); intro RF R6 ho hb hg hat; replace H5 := aA hb; replace HO := aA ho; clear ho hb hg hat))
 rw [rounds_succ]
 go_wp2_with (first | fail)
 obtain ⟨O, co, rfl⟩ := Kd.jF HO.out
 refine (uF.calls O co [3, 4] 12 0 _ (Kd.jA HO.out).2.2 (Kd.jA HO.out).2.1 (by decide +kernel)).mono ?_
 rintro e O5 ⟨rfl, hb⟩
 go_wp2_with (first | fail)
 go_ret2
 exact ⟨_, rfl, Kd.nV (Kd.gU HO.out hb) HB.out.size, jV (jV HB.out H5.out) hb⟩
def _z.f : Option Bool := some true
theorem aCG (w : World) (a : Int) (T : Nat) : Kd.C (Kd.int .i64) (w.alloc (Obj.cells #[.int .i64 a] T)) (some ⟨w.heap.size, 0, none⟩) 1 [a] :=
 Kd.K6 (d := (0 : Int)) (h1 := fun _ => rfl) ⟨rfl, by decide, fun _ => ⟨_, rfl, fun j hj => by
  have hj0 : j = 0 := by omega
  subst hj0
  exact (aM (vL w _) 0).trans rfl⟩⟩
theorem TW (w : World) (a b : Int) (T : Nat) : Kd.C (Kd.int .i64) (w.alloc (Obj.cells #[.int .i64 a, .int .i64 b] T)) (some ⟨w.heap.size, 0, none⟩) 2 [a, b] :=
 Kd.K6 (d := (0 : Int)) (h1 := fun _ => rfl) ⟨rfl, by decide, fun _ => ⟨_, rfl, fun j hj => by
  rcases (show j = 0 ∨ j = 1 by omega) with rfl | rfl
  · exact (aM (vL w _) 0).trans rfl
  · exact (aM (vL w _) 1).trans rfl⟩⟩
theorem Da {w w' : World} (h : fG w w') : Below w.heap.size w w' := by
 obtain ⟨n, rfl⟩ := h
 exact nS (Below.refl _ _) n
theorem _z.calls (r : Bool) (w : World) (h : _z.f = some r) : Calls Tryz.prog 49 #[] w fun e w' => e = .returned (.bool r) ∧ Below w.heap.size w w' := by
 obtain rfl := Option.some.inj h
 clear h
 go_enter Tryz.func49, Tryz.ntmps49
 go_wp2_with (first | fail)
 have HB := aA (iD (iD (Below.refl w.heap.size w) (Obj.cells #[.int .i64 3, .int .i64 1] 2)) (Obj.cells #[.int .i64 4] 2))
 have e1 := aCG (w.alloc (Obj.cells #[.int .i64 3, .int .i64 1] 2)) 4 2
 rw [DT] at e1
 refine (Vd _ 2 _ 1 _ (Kd.xY (TW w 3 1 2) _) (Nat.le_refl _) e1 (Nat.le_refl _)).mono ?_
 rintro e w1 ⟨v, rfl, q, hb⟩
 obtain ⟨A, c, rfl⟩ := Kd.jF q
 have HL := aA (Kd.jA q).2
 replace HB := hbS HB hb
 clear q hb e1
 go_wp2_with (first | fail)
 refine (uZ.calls A c [3, 4] _ 2 [3, 4] true _ (Kd.xY HL.out.2 _) HL.out.1 (TW w1 3 4 2) (Nat.le_refl _) (by decide +kernel)).mono ?_
 rintro e w2 ⟨rfl, hb⟩
 have hb2 := Da hb
 replace HB := aA (jV (iD HB.out (Obj.cells #[.int .i64 3, .int .i64 4] 2)) hb2)
 clear hb hb2 HL
 go_wp2_with (first | fail)
 have e1 := TW (w2.alloc (Obj.cells #[.int .i64 3, .int .i64 1] 2)) 2 3 2
 rw [DT] at e1
 refine (aAS _ 2 _ 2 _ (Kd.xY (TW w2 3 1 2) _) (Nat.le_refl _) e1 (Nat.le_refl _)).mono ?_
 rintro e w3 ⟨v, rfl, q, hb⟩
 obtain ⟨A', c', rfl⟩ := Kd.jF q
 have HL := aA (Kd.jA q).2
 replace HB := aA (jV (iD (iD HB.out (Obj.cells #[.int .i64 3, .int .i64 1] 2)) (Obj.cells #[.int .i64 2, .int .i64 3] 2)) hb)
 clear q hb e1
 go_wp2_with (first | fail)
 refine (uZ.calls A' c' [2, 0] _ 2 [2, 0] true _ (Kd.xY HL.out.2 _) HL.out.1 (TW w3 2 0 2) (Nat.le_refl _) (by decide +kernel)).mono ?_
 rintro e w4 ⟨rfl, hb⟩
 have hb2 := Da hb
 replace HB := aA (jV (iD HB.out (Obj.cells #[.int .i64 2, .int .i64 0] 2)) hb2)
 clear hb hb2 HL
 go_wp2_with (first | fail)
 go_ret
 exact ⟨rfl, HB.out⟩
end Go.Proofs.YtgmggompdidcoaaGreatDoor.X
