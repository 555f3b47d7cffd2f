import Derived.Test.YtgmggompdidcoaaGreatDoorMPbtensorReads3
import Derived.MapKept
namespace Go.Proofs.YtgmggompdidcoaaGreatDoor.X
open Go.RowKit Go.Proofs.YtgmggompdidcoaaGreatDoorW.aX Go.Proofs.YtgmggompdidcoaaGreatDoorW.bJ Go.Proofs.YtgmggompdidcoaaGreatDoorW.bK
attribute [local go_sem] bO bQ bS bU bM bN bP bR
set_option linter.unusedVariables false
set_option linter.unusedSimpArgs false
set_option maxHeartbeats 8000000
set_option maxRecDepth 100000
def iP (v : Nat) : Int × Bool :=
 if v = 0 then (0, true)
 else if v / 8388608 % 256 < 127 ∨ v / 8388608 % 256 > 147 then (0, false)
 else if (v % 8388608 + 8388608) % 2 ^ (150 - v / 8388608 % 256) = 0 then (kQ (decide (v ≥ 2147483648)) ((v % 8388608 + 8388608) / 2 ^ (150 - v / 8388608 % 256)), decide ((v % 8388608 + 8388608) / 2 ^ (150 - v / 8388608 % 256) ≤ 1048576))
 else (0, false)
def vZ (v : Nat) : Nat := Ieee.double.write (Ieee.single.read v)
theorem _U (v : Nat) (hv : v < 4294967296) : Ieee.single.read v =
 (if v % 2147483648 < 8388608 then .number (decide (v ≥ 2147483648)) (v % 2147483648) (-149)
  else if v % 2147483648 < 2139095040 then .number (decide (v ≥ 2147483648)) (8388608 + v % 8388608) (-149 + ((v / 8388608 % 256 - 1 : Nat) : Int))
  else if v % 2147483648 = 2139095040 then .infinity (decide (v ≥ 2147483648))
  else .nan (decide (v ≥ 2147483648)) (v % 2147483648 - 2139095040)) := by
 have hb : Ieee.single.binade = 8388608 := by decide
 have hi : Ieee.single.infRung = 2139095040 := by decide
 have hs : Ieee.single.signWeight = 2147483648 := by decide
 unfold Ieee.Format.read
 dsimp only
 rw [hb, hi, hs, sl]
 have e1 : (v / 2147483648 % 2 == 1) = decide (v ≥ 2147483648) := by
  rw [Bool.eq_iff_iff, beq_iff_eq, decide_eq_true_iff]; omega
 have e2 : v % 2147483648 % 8388608 = v % 8388608 := by omega
 have e3 : v % 2147483648 / 8388608 = v / 8388608 % 256 := by omega
 rw [e1, e2, e3]
theorem XE {v : Nat} {s : Bool} {m : Nat} {p : Int} (h : Ieee.single.read v = .number s m p) (hp : p ≤ 104) : Num Ieee.double (vZ v) s (m * 2 ^ (p + 1074).toNat) ∧ vZ v = Ieee.double.nearest s m p := by
 obtain ⟨h1, h2⟩ := Ye h
 rw [sl] at h2
 have hb : Ieee.single.binade = 8388608 := by decide
 rw [hb] at h1
 have e : vZ v = Ieee.double.nearest s m p := by unfold vZ; rw [h]; rfl
 refine ⟨?_, e⟩
 rw [e]
 have hl : m.log2 ≤ 24 := by
  by_cases h0 : m = 0
  · subst h0; decide
  · have := (Nat.log2_lt h0).2 (show m < 2 ^ 24 by omega); omega
 have := De Ieee.double s m p (by rw [dl]; omega) (by show m < 2 ^ 53; omega) (by
  rw [dl]
  show (p + (m.log2 : Int) - ((52 : Nat) : Int) - (-1074)).toNat + 3 ≤ 2 ^ 11
  omega)
 rw [dl, Int.sub_neg] at this
 exact this
theorem aCE (v : Nat) : vZ v < 18446744073709551616 := Ieee.double.write_lt _
theorem ah (e : Nat) (h : e ≤ 1074) : mM = 2 ^ (1074 - e) * 2 ^ e := by
 have : ∀ E, E = 1074 → mM = 2 ^ E := fun E hE => by rw [hE]; exact PU
 rw [this (1074 - e + e) (by omega), Nat.pow_add]
theorem aa (x : Nat) (hx : x < 18446744073709551616) (s : Bool) (m j : Nat) (hj : j ≤ 1074) (hm : 0 < m) (h : Num Ieee.double x s (m * 2 ^ (1074 - j))) :
 (m % 2 ^ j = 0 → I1 x s (m / 2 ^ j)) ∧ mZ x = (decide (m % 2 ^ j = 0) && decide (m / 2 ^ j ≤ 1048576)) := by
 have hU := ah j hj
 have hA : 0 < 2 ^ (1074 - j) := Nat.two_pow_pos _
 have hJ : 0 < 2 ^ j := Nat.two_pow_pos _
 have hd : m * 2 ^ (1074 - j) / mM = m / 2 ^ j := by
  rw [hU, Nat.mul_comm (2 ^ (1074 - j)), Nat.mul_div_mul_right _ _ hA]
 have hmul : ∀ q, q * mM = q * 2 ^ j * 2 ^ (1074 - j) := fun q => by rw [hU, Nat.mul_comm (2 ^ (1074 - j)), Nat.mul_assoc]
 have JA := Nat.div_add_mod m (2 ^ j)
 rw [Nat.mul_comm] at JA
 have hI : m % 2 ^ j = 0 → I1 x s (m / 2 ^ j) := by
  intro g
  unfold I1
  rw [hmul]
  have : m / 2 ^ j * 2 ^ j = m := by omega
  rw [this]; exact h
 refine ⟨hI, ?_⟩
 by_cases g : m % 2 ^ j = 0
 · rw [Gn hx (hI g), dT g, Bool.true_and]
   have : m / 2 ^ j ≠ 0 := by
    intro h0
    rw [h0, Nat.zero_mul] at JA; omega
   rw [dT this, Bool.true_or, Bool.and_true]
 · rw [XU hx h, dF g, Bool.false_and, hd, hmul (m / 2 ^ j)]
   have : ¬ (m / 2 ^ j * 2 ^ j * 2 ^ (1074 - j) = m * 2 ^ (1074 - j)) := by
    intro e
    have := Nat.eq_of_mul_eq_mul_right hA e
    omega
   rw [dF this, Bool.false_and, Bool.and_false]
theorem Yn (v : Nat) (hv : v < 4294967296) (hn : (Ieee.single.read v).isNaN = false) : mZ (vZ v) = (iP v).2 ∧ ((iP v).2 = true → vZ v = floatOfInt .f64 (iP v).1 ∧ (-1048576 ≤ (iP v).1 ∧ (iP v).1 ≤ 1048576) ∧ v = floatOfInt .f32 (iP v).1) := by
 have hr := _U v hv
 have hx := aCE v
 by_cases h0 : v = 0
 · subst h0
   have ew : vZ 0 = floatOfInt .f64 0 := by decide +kernel
   have es : iP 0 = (0, true) := by unfold iP; rw [ip rfl]
   rw [es, ew, aDi 0 (by decide) (by decide)]
   refine ⟨by decide, fun _ => ⟨rfl, by decide, by decide +kernel⟩⟩
 by_cases hE : v / 8388608 % 256 < 127 ∨ v / 8388608 % 256 > 147
 · have es : iP v = (0, false) := by unfold iP; rw [iN h0, ip hE]
   rw [es]
   refine ⟨?_, fun h => by cases h⟩
   by_cases h1 : v % 2147483648 < 8388608
   · rw [ip h1] at hr
     have hw := (XE hr (by decide)).1
     obtain ⟨E, hE2⟩ : ∃ E : Nat, E = 149 := ⟨_, rfl⟩
     rw [show ((-149 : Int) + 1074).toNat = 1074 - E by omega] at hw
     by_cases hz : v % 2147483648 = 0
     · rw [hz, Nat.zero_mul] at hw
       rw [XU hx hw, dT (show v ≥ 2147483648 by omega)]
       simp
     · rw [(aa _ hx _ _ E (by omega) (by omega) hw).2]
       have : ¬ v % 2147483648 % 2 ^ E = 0 := by
        rw [Nat.mod_eq_of_lt (Nat.lt_of_lt_of_le (show v % 2147483648 < 2 ^ 23 by omega) (Nat.pow_le_pow_right (by decide) (by omega)))]
        exact hz
       rw [dF this, Bool.false_and]
   · rw [iN h1] at hr
     by_cases h2 : v % 2147483648 < 2139095040
     · rw [ip h2] at hr
       have hw := (XE hr (by omega)).1
       by_cases h3 : v / 8388608 % 256 < 127
       · rw [show (-149 + ((v / 8388608 % 256 - 1 : Nat) : Int) + 1074).toNat = 1074 - (150 - v / 8388608 % 256) by omega] at hw
         rw [(aa _ hx _ _ (150 - v / 8388608 % 256) (by omega) (by omega) hw).2]
         have : ¬ (8388608 + v % 8388608) % 2 ^ (150 - v / 8388608 % 256) = 0 := by
          rw [Nat.mod_eq_of_lt (Nat.lt_of_lt_of_le (show 8388608 + v % 8388608 < 2 ^ 24 by omega) (Nat.pow_le_pow_right (by decide) (by omega)))]
          omega
         rw [dF this, Bool.false_and]
       · have hbig : ¬ ((8388608 + v % 8388608) * 2 ^ (-149 + ((v / 8388608 % 256 - 1 : Nat) : Int) + 1074).toNat ≤ 1048576 * mM) := by
          obtain ⟨E, hE2⟩ : ∃ E : Nat, E = 2 := ⟨_, rfl⟩
          have hU := ah E (by omega)
          have hle : 2 ^ (1074 - E) ≤ 2 ^ (-149 + ((v / 8388608 % 256 - 1 : Nat) : Int) + 1074).toNat := Nat.pow_le_pow_right (by decide) (by omega)
          have hA : 0 < 2 ^ (1074 - E) := Nat.two_pow_pos _
          generalize 2 ^ (1074 - E) = A at hU hle hA
          rw [hE2] at hU
          generalize 2 ^ (-149 + ((v / 8388608 % 256 - 1 : Nat) : Int) + 1074).toNat = B at hle
          have h5 : 8388608 * A ≤ (8388608 + v % 8388608) * B := Nat.mul_le_mul (by omega) hle
          rw [hU]; omega
         rw [XU hx hw, dF hbig, Bool.false_and]
     · rw [iN h2] at hr
       by_cases h3 : v % 2147483648 = 2139095040
       · rw [ip h3] at hr
         have hi : Ieee.double.read (vZ v) = .infinity (decide (v ≥ 2147483648)) := by
          unfold vZ; rw [hr]
          generalize decide (v ≥ 2147483648) = s
          cases s <;> decide +kernel
         unfold mZ
         rw [Et hi cN, Et hi cP]
         generalize decide (v ≥ 2147483648) = s
         cases s <;> rfl
       · rw [iN h3] at hr
         rw [hr] at hn; cases hn
 · have h1 : ¬ v % 2147483648 < 8388608 := by omega
   have h2 : v % 2147483648 < 2139095040 := by omega
   rw [iN h1, ip h2] at hr
   obtain ⟨hw, ew⟩ := XE hr (by omega)
   rw [show (-149 + ((v / 8388608 % 256 - 1 : Nat) : Int) + 1074).toNat = 1074 - (150 - v / 8388608 % 256) by omega, Nat.add_comm 8388608] at hw
   obtain ⟨p1, p2⟩ := aa _ hx _ _ (150 - v / 8388608 % 256) (by omega) (by omega) hw
   by_cases g : (v % 8388608 + 8388608) % 2 ^ (150 - v / 8388608 % 256) = 0
   · have es : iP v = (kQ (decide (v ≥ 2147483648)) ((v % 8388608 + 8388608) / 2 ^ (150 - v / 8388608 % 256)), decide ((v % 8388608 + 8388608) / 2 ^ (150 - v / 8388608 % 256) ≤ 1048576)) := by
      unfold iP; rw [iN h0, iN hE, ip g]
     rw [es, p2, dT g, Bool.true_and]
     refine ⟨rfl, fun hk => ?_⟩
     have hk : (v % 8388608 + 8388608) / 2 ^ (150 - v / 8388608 % 256) ≤ 1048576 := of_decide_eq_true hk
     have hi := p1 g
     have JA := Nat.div_add_mod (v % 8388608 + 8388608) (2 ^ (150 - v / 8388608 % 256))
     rw [g, Nat.add_zero, Nat.mul_comm] at JA
     generalize hK : (v % 8388608 + 8388608) / 2 ^ (150 - v / 8388608 % 256) = K at hk hi JA ⊢
     have hK0 : K ≠ 0 := by
      intro h; rw [h, Nat.zero_mul] at JA; omega
     have hsg : ∀ s : Bool, decide (kQ s K < 0) = s ∧ (kQ s K).natAbs = K := by
      intro s
      refine ⟨?_, jd s K⟩
      unfold kQ; cases s <;> simp <;> omega
     refine ⟨?_, ?_, ?_⟩
     · rw [aEB, (hsg _).1, (hsg _).2, ew]
       refine aEb (by omega) ?_
       have hU := ah (150 - v / 8388608 % 256) (by omega)
       rw [show (-149 + ((v / 8388608 % 256 - 1 : Nat) : Int) + 1074).toNat = 1074 - (150 - v / 8388608 % 256) by omega, hU, Nat.mul_comm (2 ^ (1074 - _)), ← Nat.mul_assoc, JA, Nat.add_comm]
     · unfold kQ; split <;> omega
     · have hn0 : kQ (decide (v ≥ 2147483648)) K ≠ 0 := by
        unfold kQ; split <;> omega
       rw [aAa _ hn0 (by rw [jd]; omega), jd]
       have aFe : K.log2 = 23 - (150 - v / 8388608 % 256) := by
        rw [Nat.log2_eq_iff hK0]
        have hJ : 0 < 2 ^ (150 - v / 8388608 % 256) := Nat.two_pow_pos _
        constructor
        · refine Nat.le_of_mul_le_mul_right ?_ hJ
          rw [JA, ← Nat.pow_add, show 23 - (150 - v / 8388608 % 256) + (150 - v / 8388608 % 256) = 23 by omega]
          omega
        · refine Nat.lt_of_mul_lt_mul_right (a := 2 ^ (150 - v / 8388608 % 256)) ?_
          rw [JA, ← Nat.pow_add, show 23 - (150 - v / 8388608 % 256) + 1 + (150 - v / 8388608 % 256) = 24 by omega]
          omega
       rw [aFe, show 23 - (23 - (150 - v / 8388608 % 256)) = 150 - v / 8388608 % 256 by omega, JA]
       have hneg : (kQ (decide (v ≥ 2147483648)) K < 0) ↔ v ≥ 2147483648 := by
        have := (hsg (decide (v ≥ 2147483648))).1
        rwa [decide_eq_decide] at this
       by_cases hs : v ≥ 2147483648
       · rw [ip (hneg.2 hs)]; omega
       · rw [iN (fun h => hs (hneg.1 h))]; omega
   · have es : iP v = (0, false) := by unfold iP; rw [iN h0, iN hE, iN g]
     rw [es, p2, dF g]
     exact ⟨rfl, fun h => by cases h⟩
def vY (b : ByteArray) : Int × Int × Int :=
 if b.size < 8 then (0, 0, 1) else if b.size > 8 then (0, 0, 2)
 else if ((iP (wd b)).2 && (iP (wd (b.extract 4 b.size))).2) = true then ((iP (wd b)).1, (iP (wd (b.extract 4 b.size))).1, 0) else (0, 0, 17)
theorem aAt (t : Nat) : ∃ n, Ieee.double.read ((t % 2) * 2 ^ 63 + 0x7ff0000000000000 + 1 + (t / 2) % (2 ^ 52 - 1)) = .nan ((t % 2) == 1) n := by
 have hb : Ieee.double.binade = 4503599627370496 := by decide
 have hi : Ieee.double.infRung = 9218868437227405312 := by decide
 have hs : Ieee.double.signWeight = 9223372036854775808 := by decide
 have e1 : (2 : Nat) ^ 63 = 9223372036854775808 := by decide
 have e2 : (2 : Nat) ^ 52 - 1 = 4503599627370495 := by decide
 rw [e1, e2]
 have hr : t / 2 % 4503599627370495 < 4503599627370495 := Nat.mod_lt _ (by decide)
 have ht : t % 2 < 2 := Nat.mod_lt _ (by decide)
 generalize t / 2 % 4503599627370495 = r at hr
 generalize t % 2 = s at ht
 unfold Ieee.Format.read
 dsimp only
 rw [hb, hi, hs]
 have d1 : (s * 9223372036854775808 + 9218868437227405312 + 1 + r) / 9223372036854775808 % 2 = s := by omega
 have d2 : (s * 9223372036854775808 + 9218868437227405312 + 1 + r) % 9223372036854775808 = 9218868437227405312 + 1 + r := by omega
 rw [d1, d2, iN (by omega), iN (by omega), iN (by omega)]
 exact ⟨_, rfl⟩
theorem aAs (x : Nat) (h : ∃ s n, Ieee.double.read x = .nan s n) : mZ x = false := by
 obtain ⟨s, n, h⟩ := h
 unfold mZ
 rw [Eu h]; rfl
theorem Fh (v : Nat) (hv : v < 4294967296) (hn : (Ieee.single.read v).isNaN = true) : (iP v).2 = false := by
 have hr := _U v hv
 by_cases h1 : v % 2147483648 < 8388608
 · rw [ip h1] at hr; rw [hr] at hn; cases hn
 · rw [iN h1] at hr
   by_cases h2 : v % 2147483648 < 2139095040
   · rw [ip h2] at hr; rw [hr] at hn; cases hn
   · unfold iP
     rw [iN (by omega), ip (Or.inr (by omega))]
theorem Gx (v : Nat) (hv : v < 4294967296) : ∃ (g : World → Nat) (k : Nat), (∀ w, mZ (g w) = (iP v).2) ∧ ((iP v).2 = true → ∀ w, g w = floatOfInt .f64 (iP v).1) ∧ ∀ w, (convert 170 169 (.float .f32 v)).run Tryz.prog w = .ok (.float .f64 (g w)) (w.drewN k) := by
 cases hn : (Ieee.single.read v).isNaN with
 | false =>
  obtain ⟨h1, h2⟩ := Yn v hv hn
  refine ⟨fun _ => vZ v, 0, fun _ => h1, fun h _ => (h2 h).1, fun w => ?_⟩
  refine run_convert_float_float w 170 169 .f32 .f64 v (vZ v) (by rw [Tryz.underlying170]; rfl) Tryz.underlying169 ?_
  unfold floatToFloatBits
  rw [iN (by decide)]
  have ed : FloatKind.f32.decode v = Ieee.single.read v := rfl
  rw [ed]
  cases hr : Ieee.single.read v with
  | nan s n => rw [hr] at hn; cases hn
  | infinity s => show some (Ieee.double.write (.infinity s)) = some (vZ v); unfold vZ; rw [hr]
  | number s m p =>
   have hp : p ≤ 104 := by
    have h3 := _U v hv
    rw [hr] at h3
    split at h3
    · cases h3; decide
    · split at h3
      · cases h3; omega
      · split at h3 <;> cases h3
   obtain ⟨⟨m', p', e, _, _⟩, ew⟩ := XE hr hp
   have e3 : FloatKind.f64.encode (.number s m p) = vZ v := ew.symm
   have e4 : FloatKind.f64.decode (vZ v) = .number s m' p' := e
   show (if (FloatKind.f64.decode (FloatKind.f64.encode (.number s m p))).isInfinity then none else some (FloatKind.f64.encode (.number s m p))) = some (vZ v)
   rw [e3, e4]; rfl
 | true =>
  refine ⟨fun w => (Question.nanConv .f64 v).cut (w.tape w.drawn (Question.nanConv .f64 v)), 1, fun w => ?_, fun h => ?_, fun w => ?_⟩
  · rw [Fh v hv hn]
    obtain ⟨n, h⟩ := aAt (w.tape w.drawn (Question.nanConv .f64 v))
    exact aAs _ ⟨_, n, h⟩
  · rw [Fh v hv hn] at h; cases h
  · have ed : FloatKind.f32.decode v = Ieee.single.read v := rfl
    cases hr : Ieee.single.read v with
    | infinity s => rw [hr] at hn; cases hn
    | number s m p => rw [hr] at hn; cases hn
    | nan s n =>
     have hs : Tryz.prog.underlying 170 = some (.float .f32) := Tryz.underlying170
     simp [convert, run_underlying hs, run_underlying Tryz.underlying169, Conv.floatToFloat, ed, hr, Question.forced, World.drewN]

theorem jg : floatOfInt .f64 0 = 0 := by decide +kernel
theorem Hd (b : ByteArray) (h : 4 ≤ b.size) : JM.f b = some (wd b : Int) := ip h
def D8 (b : ByteArray) : Nat × Nat × Int := (floatOfInt .f64 (vY b).1, floatOfInt .f64 (vY b).2.1, (vY b).2.2)
theorem Xa (b : ByteArray) (h : b.size < 8) : D8 b = (0, 0, 1) := by unfold D8 vY; rw [ip h]; simp only [jg]
theorem Ya (b : ByteArray) (h : b.size > 8) : D8 b = (0, 0, 2) := by unfold D8 vY; rw [iN (by omega), ip h]; simp only [jg]
theorem aAC (b : ByteArray) (h : b.size = 8) (h2 : ((iP (wd b)).2 && (iP (wd (b.extract 4 b.size))).2) = false) : D8 b = (0, 0, 17) := by
 unfold D8 vY; rw [iN (by omega), iN (by omega), h2, iN (by simp)]; simp only [jg]
theorem Zj (b : ByteArray) (h : b.size = 8) (h2 : ((iP (wd b)).2 && (iP (wd (b.extract 4 b.size))).2) = true) : D8 b = (floatOfInt .f64 (iP (wd b)).1, floatOfInt .f64 (iP (wd (b.extract 4 b.size))).1, 0) := by
 unfold D8 vY; rw [iN (by omega), iN (by omega), ip h2]
theorem YQ (g : Nat) (W : World) (x y : Nat) (hg : g = W.heap.size) :
 Calls Tryz.prog 103 #[.slice (some ⟨g, 0, none⟩) 1 1] (W.alloc (Obj.cells #[.complex .f64 x y] 147)) fun e w' => e = .returned (.bool (mZ x && mZ y)) ∧ w' = W.alloc (Obj.cells #[.complex .f64 x y] 147) := by
 subst hg
 have h := _7.calls ⟨W.heap.size, 0, none⟩ 1 [(x, y)] _ (Nat.le_refl _) (by simp) (cells_one W x y 147)
 have e : BI [(x, y)] = (mZ x && mZ y) := by unfold BI; rw [List.all_cons, List.all_nil, Bool.and_true]
 rw [e] at h
 exact h
structure RB (w0 w : World) : Prop where
 b : Below w0.heap.size w0 w
theorem _5 {w0 w : World} (h : RB w0 w) (b : ByteArray) (r : Int) (hf : JM.f b = some r) :
 Calls Tryz.prog 102 #[.string b] w fun e w' => e = .returned (.int .u32 r) ∧ RB w0 w' := by
 refine (JM.calls b r w hf).mono ?_
 rintro e w' ⟨he, hb⟩
 exact ⟨he, ⟨jV h.b hb.below⟩⟩
theorem Xo.calls (b : ByteArray) (w : World) :
 Calls Tryz.prog 91 #[.string b] w fun e w' => e = .returned (.tuple #[.complex .f64 (D8 b).1 (D8 b).2.1, .int .i64 (D8 b).2.2]) ∧ Below w.heap.size w w' := by
 by_cases h1 : b.size < 8
 · have h1b : decide ((b.size : Int) < 8) = true := dT (by omega)
   rw [Xa b h1]
   clear h1
   go_enter Tryz.func91, Tryz.ntmps91
   go_wp2
   go_ret2
   exact ⟨rfl, Below.refl _ _⟩
 · have h1b : decide ((b.size : Int) < 8) = false := dF (by omega)
   by_cases h2 : b.size > 8
   · have V_ : decide (8 < (b.size : Int)) = true := dT (by omega)
     rw [Ya b h2]
     clear h1 h2
     go_enter Tryz.func91, Tryz.ntmps91
     go_wp2
     go_ret2
     exact ⟨rfl, Below.refl _ _⟩
   · have V_ : decide (8 < (b.size : Int)) = false := dF (by omega)
     have h8 : b.size = 8 := by omega
     have hw1 := ZM b
     have e8 : b.extract 4 b.size = b.extract 4 8 := by rw [h8]
     have hw2 := ZM (b.extract 4 8)
     obtain ⟨g1, n1, p1, f1, r1⟩ := Gx (wd b) hw1
     obtain ⟨g2, n2, p2, f2, r2⟩ := Gx (wd (b.extract 4 8)) hw2
     have hno := aAC b h8
     have um := Zj b h8
     rw [e8] at hno um
     have Hno := aC.mk hno
     have Z5 := aC.mk um
     clear hno um
     have HB1 := aC.mk (Hd b (by omega))
     have HB2 := aC.mk (Hd (b.extract 4 8) (by rw [ByteArray.size_extract]; omega))
     have q1 := Bw (wd b : Int)
     have q2 := Bw (wd (b.extract 4 8) : Int)
     rw [Int.toNat_natCast] at q1 q2
     have P1 := aC.mk p1
     have P2 := aC.mk p2
     have F1 := aC.mk f1
     have F2 := aC.mk f2
     clear p1 p2 f1 f2 h1 h2 hw1 hw2 e8
     have h4 : (4 ≤ (b.size : Int)) = True := eT (by omega)
     have h4n : (4 ≤ b.size) = True := eT (by omega)
     have h4s : ((b.size : Int) < 4) = False := eq_false (by omega)
     go_enter Tryz.func91, Tryz.ntmps91
     have HR : RB w w := ⟨Below.refl _ _⟩
     have hdr : ∀ w' n, RB w w' → RB w (w'.drewN n) := fun w' n h => ⟨nS h.b n⟩
     have aFd : ∀ w', RB w w' → RB w w'.drew := fun w' h => ⟨iO h.b⟩
     go_wp2_with (first | (fail))
     refine wp_region_noPanic ?_
     refine wp_region_held_drew (S := fun w' => RB w w') (by kernel_rfl) ?_ (fun hHeld => ?_)
     · exact aFd _ HR
     refine' wpAnyH_take (i := 0) (oi := _) (v := ?_) rfl (by kernel_rfl) (by kernel_rfl) (by kernel_rfl) (fun _ _ _ h => h) (Or.inl ⟨by rfl, ?_⟩) (by assumption) ?_
     rotate_left
     · intro w hSw; (try dsimp only at hSw); go_simp; first | done | with_reducible rfl
     try simp only [Act.put, List.setIfInBounds_toArray, List.set_cons_zero, List.set_cons_succ]
     refine' wpAnyH_take (i := 4) (oi := _) (v := ?_) rfl (by kernel_rfl) (by kernel_rfl) (by kernel_rfl) (fun _ _ _ h => h) (Or.inl ⟨by rfl, ?_⟩) (by assumption) ?_
     rotate_left
     · intro w hSw; (try dsimp only at hSw); go_simp; first | done | with_reducible rfl
     try simp only [Act.put, List.setIfInBounds_toArray, List.set_cons_zero, List.set_cons_succ]
     refine' wpAnyH_take (i := 5) (oi := _) (v := ?_) rfl (by kernel_rfl) (by kernel_rfl) (by kernel_rfl) (fun _ _ _ h => h) (Or.inl ⟨by rfl, ?_⟩) (by assumption) ?_
     rotate_left
     · intro w hSw; (try dsimp only at hSw); go_simp; first | done | with_reducible rfl
     try simp only [Act.put, List.setIfInBounds_toArray, List.set_cons_zero, List.set_cons_succ]
     refine wpAnyH_ready (rs := [1]) (by kernel_rfl) (by simp) ?_
     refine AllReadyH.cons (o := _) rfl (fun K hK => ?_) ?_
     · go_simp
       go_at_call 102
       refine (_5 (by assumption) b _ HB1.out).mono ?_
       rintro e w5 ⟨rfl, HR⟩
       go_wp2_with fail
       refine hK.out _ _ ?_ (fun hHeld => ?_)
       · (try dsimp only); first | assumption | go_keep
       clear hK K
       try simp only [Act.put, List.setIfInBounds_toArray, List.set_cons_zero, List.set_cons_succ]
       refine wpAnyH_ready (rs := [2]) (by kernel_rfl) (by simp) ?_
       refine AllReadyH.cons (o := _) rfl (fun K hK => ?_) ?_
       · go_simp
         refine hK.out _ _ ?_ (fun hHeld => ?_)
         · (try dsimp only); first | assumption | go_keep
         clear hK K
         try simp only [Act.put, List.setIfInBounds_toArray, List.set_cons_zero, List.set_cons_succ]
         refine wpAnyH_ready (rs := [3, 6]) (by kernel_rfl) (by simp) ?_
         refine AllReadyH.cons (o := _) rfl (fun K hK => ?_) ?_
         · go_simp
           refine hK.out _ _ ?_ (fun hHeld => ?_)
           · (try dsimp only); first | assumption | go_keep
           clear hK K
           try simp only [Act.put, List.setIfInBounds_toArray, List.set_cons_zero, List.set_cons_succ]
           refine wpAnyH_ready (rs := [6]) (by kernel_rfl) (by simp) ?_
           refine AllReadyH.cons (o := _) rfl (fun K hK => ?_) ?_
           · go_simp
             go_at_call 102
             refine (_5 (by assumption) (b.extract 4 8) _ HB2.out).mono ?_
             rintro e w5 ⟨rfl, HR⟩
             go_wp2_with fail
             refine hK.out _ _ ?_ (fun hHeld => ?_)
             · (try dsimp only); first | assumption | go_keep
             clear hK K
             try simp only [Act.put, List.setIfInBounds_toArray, List.set_cons_zero, List.set_cons_succ]
             refine wpAnyH_ready (rs := [7]) (by kernel_rfl) (by simp) ?_
             refine AllReadyH.cons (o := _) rfl (fun K hK => ?_) ?_
             · go_simp
               refine hK.out _ _ ?_ (fun hHeld => ?_)
               · (try dsimp only); first | assumption | go_keep
               clear hK K
               try simp only [Act.put, List.setIfInBounds_toArray, List.set_cons_zero, List.set_cons_succ]
               refine wpAnyH_ready (rs := [8]) (by kernel_rfl) (by simp) ?_
               refine AllReadyH.cons (o := _) rfl (fun K hK => ?_) ?_
               · go_simp
                 refine hK.out _ _ ?_ (fun hHeld => ?_)
                 · (try dsimp only); first | assumption | go_keep
                 clear hK K
                 try simp only [Act.put, List.setIfInBounds_toArray, List.set_cons_zero, List.set_cons_succ]
                 refine wpAnyH_ready (rs := [9]) (by kernel_rfl) (by simp) ?_
                 refine AllReadyH.cons (o := _) rfl (fun K hK => ?_) ?_
                 · go_simp
                   refine hK.out _ _ ?_ (fun hHeld => ?_)
                   · (try dsimp only); first | assumption | go_keep
                   clear hK K
                   try simp only [Act.put, List.setIfInBounds_toArray, List.set_cons_zero, List.set_cons_succ]
                   refine wpAnyH_ready (rs := [10]) (by kernel_rfl) (by simp) ?_
                   refine AllReadyH.cons (o := _) rfl (fun K hK => ?_) ?_
                   · go_simp
                     refine hK.out _ _ ?_ (fun hHeld => ?_)
                     · (try dsimp only); first | assumption | go_keep
                     clear hK K
                     try simp only [Act.put, List.setIfInBounds_toArray, List.set_cons_zero, List.set_cons_succ]
                     refine wpAnyH_done (by kernel_rfl) ?_ _
                     refine NoPanic.normal ?_
                     clear r1 r2 q1 q2
                     go_wp2_with (first | (fail))
                     refine (YQ _ _ _ _ rfl).mono ?_
                     rintro e wm ⟨rfl, rfl⟩
                     rw [P1.out, P2.out]
                     cases hm : ((iP (wd b)).2 && (iP (wd (b.extract 4 8))).2) with
                     | false =>
                      go_wp2_with (first | (fail))
                      go_ret2
                      exact ⟨by rw [Hno.out hm]; rfl, by repeat (first | exact HR.b | apply iD | apply nS | apply iO)⟩
                     | true =>
                      have hm2 := Bool.and_eq_true _ _ ▸ hm
                      go_wp2_with (first | (fail))
                      go_ret2
                      exact ⟨by rw [Z5.out hm]; show Ending.returned (.tuple #[.complex .f64 (g1 _) (g2 _), .int .i64 0]) = _; rw [F1.out hm2.1, F2.out hm2.2], by repeat (first | exact HR.b | apply iD | apply nS | apply iO)⟩
                   exact AllReadyH.nil
                 exact AllReadyH.nil
               exact AllReadyH.nil
             exact AllReadyH.nil
           exact AllReadyH.nil
         refine AllReadyH.cons (o := _) rfl (fun K hK => ?_) ?_
         · go_simp
           go_at_call 102
           refine (_5 (by assumption) (b.extract 4 8) _ HB2.out).mono ?_
           rintro e w5 ⟨rfl, HR⟩
           go_wp2_with fail
           refine hK.out _ _ ?_ (fun hHeld => ?_)
           · (try dsimp only); first | assumption | go_keep
           clear hK K
           try simp only [Act.put, List.setIfInBounds_toArray, List.set_cons_zero, List.set_cons_succ]
           refine wpAnyH_ready (rs := [3, 7]) (by kernel_rfl) (by simp) ?_
           refine AllReadyH.cons (o := _) rfl (fun K hK => ?_) ?_
           · go_simp
             refine hK.out _ _ ?_ (fun hHeld => ?_)
             · (try dsimp only); first | assumption | go_keep
             clear hK K
             try simp only [Act.put, List.setIfInBounds_toArray, List.set_cons_zero, List.set_cons_succ]
             refine wpAnyH_ready (rs := [7]) (by kernel_rfl) (by simp) ?_
             refine AllReadyH.cons (o := _) rfl (fun K hK => ?_) ?_
             · go_simp
               refine hK.out _ _ ?_ (fun hHeld => ?_)
               · (try dsimp only); first | assumption | go_keep
               clear hK K
               try simp only [Act.put, List.setIfInBounds_toArray, List.set_cons_zero, List.set_cons_succ]
               refine wpAnyH_ready (rs := [8]) (by kernel_rfl) (by simp) ?_
               refine AllReadyH.cons (o := _) rfl (fun K hK => ?_) ?_
               · go_simp
                 refine hK.out _ _ ?_ (fun hHeld => ?_)
                 · (try dsimp only); first | assumption | go_keep
                 clear hK K
                 try simp only [Act.put, List.setIfInBounds_toArray, List.set_cons_zero, List.set_cons_succ]
                 refine wpAnyH_ready (rs := [9]) (by kernel_rfl) (by simp) ?_
                 refine AllReadyH.cons (o := _) rfl (fun K hK => ?_) ?_
                 · go_simp
                   refine hK.out _ _ ?_ (fun hHeld => ?_)
                   · (try dsimp only); first | assumption | go_keep
                   clear hK K
                   try simp only [Act.put, List.setIfInBounds_toArray, List.set_cons_zero, List.set_cons_succ]
                   refine wpAnyH_ready (rs := [10]) (by kernel_rfl) (by simp) ?_
                   refine AllReadyH.cons (o := _) rfl (fun K hK => ?_) ?_
                   · go_simp
                     refine hK.out _ _ ?_ (fun hHeld => ?_)
                     · (try dsimp only); first | assumption | go_keep
                     clear hK K
                     try simp only [Act.put, List.setIfInBounds_toArray, List.set_cons_zero, List.set_cons_succ]
                     refine wpAnyH_done (by kernel_rfl) ?_ _
                     refine NoPanic.normal ?_
                     clear r1 r2 q1 q2
                     go_wp2_with (first | (fail))
                     refine (YQ _ _ _ _ rfl).mono ?_
                     rintro e wm ⟨rfl, rfl⟩
                     rw [P1.out, P2.out]
                     cases hm : ((iP (wd b)).2 && (iP (wd (b.extract 4 8))).2) with
                     | false =>
                      go_wp2_with (first | (fail))
                      go_ret2
                      exact ⟨by rw [Hno.out hm]; rfl, by repeat (first | exact HR.b | apply iD | apply nS | apply iO)⟩
                     | true =>
                      have hm2 := Bool.and_eq_true _ _ ▸ hm
                      go_wp2_with (first | (fail))
                      go_ret2
                      exact ⟨by rw [Z5.out hm]; show Ending.returned (.tuple #[.complex .f64 (g1 _) (g2 _), .int .i64 0]) = _; rw [F1.out hm2.1, F2.out hm2.2], by repeat (first | exact HR.b | apply iD | apply nS | apply iO)⟩
                   exact AllReadyH.nil
                 exact AllReadyH.nil
               exact AllReadyH.nil
             exact AllReadyH.nil
           refine AllReadyH.cons (o := _) rfl (fun K hK => ?_) ?_
           · go_simp
             refine hK.out _ _ ?_ (fun hHeld => ?_)
             · (try dsimp only); first | assumption | go_keep
             clear hK K
             try simp only [Act.put, List.setIfInBounds_toArray, List.set_cons_zero, List.set_cons_succ]
             refine wpAnyH_ready (rs := [3, 8]) (by kernel_rfl) (by simp) ?_
             refine AllReadyH.cons (o := _) rfl (fun K hK => ?_) ?_
             · go_simp
               refine hK.out _ _ ?_ (fun hHeld => ?_)
               · (try dsimp only); first | assumption | go_keep
               clear hK K
               try simp only [Act.put, List.setIfInBounds_toArray, List.set_cons_zero, List.set_cons_succ]
               refine wpAnyH_ready (rs := [8]) (by kernel_rfl) (by simp) ?_
               refine AllReadyH.cons (o := _) rfl (fun K hK => ?_) ?_
               · go_simp
                 refine hK.out _ _ ?_ (fun hHeld => ?_)
                 · (try dsimp only); first | assumption | go_keep
                 clear hK K
                 try simp only [Act.put, List.setIfInBounds_toArray, List.set_cons_zero, List.set_cons_succ]
                 refine wpAnyH_ready (rs := [9]) (by kernel_rfl) (by simp) ?_
                 refine AllReadyH.cons (o := _) rfl (fun K hK => ?_) ?_
                 · go_simp
                   refine hK.out _ _ ?_ (fun hHeld => ?_)
                   · (try dsimp only); first | assumption | go_keep
                   clear hK K
                   try simp only [Act.put, List.setIfInBounds_toArray, List.set_cons_zero, List.set_cons_succ]
                   refine wpAnyH_ready (rs := [10]) (by kernel_rfl) (by simp) ?_
                   refine AllReadyH.cons (o := _) rfl (fun K hK => ?_) ?_
                   · go_simp
                     refine hK.out _ _ ?_ (fun hHeld => ?_)
                     · (try dsimp only); first | assumption | go_keep
                     clear hK K
                     try simp only [Act.put, List.setIfInBounds_toArray, List.set_cons_zero, List.set_cons_succ]
                     refine wpAnyH_done (by kernel_rfl) ?_ _
                     refine NoPanic.normal ?_
                     clear r1 r2 q1 q2
                     go_wp2_with (first | (fail))
                     refine (YQ _ _ _ _ rfl).mono ?_
                     rintro e wm ⟨rfl, rfl⟩
                     rw [P1.out, P2.out]
                     cases hm : ((iP (wd b)).2 && (iP (wd (b.extract 4 8))).2) with
                     | false =>
                      go_wp2_with (first | (fail))
                      go_ret2
                      exact ⟨by rw [Hno.out hm]; rfl, by repeat (first | exact HR.b | apply iD | apply nS | apply iO)⟩
                     | true =>
                      have hm2 := Bool.and_eq_true _ _ ▸ hm
                      go_wp2_with (first | (fail))
                      go_ret2
                      exact ⟨by rw [Z5.out hm]; show Ending.returned (.tuple #[.complex .f64 (g1 _) (g2 _), .int .i64 0]) = _; rw [F1.out hm2.1, F2.out hm2.2], by repeat (first | exact HR.b | apply iD | apply nS | apply iO)⟩
                   exact AllReadyH.nil
                 exact AllReadyH.nil
               exact AllReadyH.nil
             refine AllReadyH.cons (o := _) rfl (fun K hK => ?_) ?_
             · go_simp
               refine hK.out _ _ ?_ (fun hHeld => ?_)
               · (try dsimp only); first | assumption | go_keep
               clear hK K
               try simp only [Act.put, List.setIfInBounds_toArray, List.set_cons_zero, List.set_cons_succ]
               refine wpAnyH_ready (rs := [3]) (by kernel_rfl) (by simp) ?_
               refine AllReadyH.cons (o := _) rfl (fun K hK => ?_) ?_
               · go_simp
                 refine hK.out _ _ ?_ (fun hHeld => ?_)
                 · (try dsimp only); first | assumption | go_keep
                 clear hK K
                 try simp only [Act.put, List.setIfInBounds_toArray, List.set_cons_zero, List.set_cons_succ]
                 refine wpAnyH_ready (rs := [9]) (by kernel_rfl) (by simp) ?_
                 refine AllReadyH.cons (o := _) rfl (fun K hK => ?_) ?_
                 · go_simp
                   refine hK.out _ _ ?_ (fun hHeld => ?_)
                   · (try dsimp only); first | assumption | go_keep
                   clear hK K
                   try simp only [Act.put, List.setIfInBounds_toArray, List.set_cons_zero, List.set_cons_succ]
                   refine wpAnyH_ready (rs := [10]) (by kernel_rfl) (by simp) ?_
                   refine AllReadyH.cons (o := _) rfl (fun K hK => ?_) ?_
                   · go_simp
                     refine hK.out _ _ ?_ (fun hHeld => ?_)
                     · (try dsimp only); first | assumption | go_keep
                     clear hK K
                     try simp only [Act.put, List.setIfInBounds_toArray, List.set_cons_zero, List.set_cons_succ]
                     refine wpAnyH_done (by kernel_rfl) ?_ _
                     refine NoPanic.normal ?_
                     clear r1 r2 q1 q2
                     go_wp2_with (first | (fail))
                     refine (YQ _ _ _ _ rfl).mono ?_
                     rintro e wm ⟨rfl, rfl⟩
                     rw [P1.out, P2.out]
                     cases hm : ((iP (wd b)).2 && (iP (wd (b.extract 4 8))).2) with
                     | false =>
                      go_wp2_with (first | (fail))
                      go_ret2
                      exact ⟨by rw [Hno.out hm]; rfl, by repeat (first | exact HR.b | apply iD | apply nS | apply iO)⟩
                     | true =>
                      have hm2 := Bool.and_eq_true _ _ ▸ hm
                      go_wp2_with (first | (fail))
                      go_ret2
                      exact ⟨by rw [Z5.out hm]; show Ending.returned (.tuple #[.complex .f64 (g1 _) (g2 _), .int .i64 0]) = _; rw [F1.out hm2.1, F2.out hm2.2], by repeat (first | exact HR.b | apply iD | apply nS | apply iO)⟩
                   exact AllReadyH.nil
                 exact AllReadyH.nil
               exact AllReadyH.nil
             exact AllReadyH.nil
           exact AllReadyH.nil
         exact AllReadyH.nil
       exact AllReadyH.nil
     exact AllReadyH.nil
def FB (k sz : Int) (s : ByteArray) (n : Nat) : MapEntry := { key := .int .i64 k, val := .agg #[.int .i64 sz, .string s], born := n }
def UF : Array MapEntry := #[FB 1 4 ⟨#[102, 108, 111, 97, 116]⟩ 0, FB 2 1 ⟨#[98, 121, 116, 101]⟩ 1, FB 7 8 ⟨#[105, 110, 116]⟩ 2, FB 9 1 ⟨#[102, 108, 97, 103]⟩ 3, FB 14 8 ⟨#[103, 97, 117, 115, 115]⟩ 4]
theorem Vk {w W : World} {r : Nat} {o : Obj} (h : Below w.heap.size w W) (hr : w.heap.size ≤ r) : Below w.heap.size w { W with heap := W.heap.setIfInBounds r o } :=
 ⟨h.os, h.tape, h.output, by show _ ≤ (W.heap.setIfInBounds r o).size; rw [Array.size_setIfInBounds]; exact h.size, fun i hi => by
  show (W.heap.setIfInBounds r o)[i]? = _
  rw [Array.getElem?_setIfInBounds_ne (by omega)]; exact h.block i hi⟩
theorem SN {w W : World} {r : Nat} {es : Array MapEntry} {clock : Nat} (k : Int) (v : Value) (hb : W.heap[r]? = some (.map es clock)) (hf : Instr.findNow (.int .i64) (.int .i64 k) es.toList 0 = some none) (hr : w.heap.size ≤ r) (hB : Below w.heap.size w W) :
 ∃ W2, (Instr.mapUpdate 155 (.map (some r)) (.int .i64 k) v).run Tryz.prog W = .ok () W2 ∧ W2.heap[r]? = some (.map (es.push { key := .int .i64 k, val := v, born := clock }) (clock + 1)) ∧ Below w.heap.size w W2 := by
 have hk : MapKept.IsKey (.int .i64) (.int .i64 k) := by simp [MapKept.IsKey]
 have hd : Tryz.prog.underlying 30 = some (.int .i64) := Tryz.underlying30
 refine ⟨_, ?_, (MapKept.heap_set hb).1, Vk hB hr⟩
 simp [Instr.mapUpdate, run_underlying Tryz.underlying155, MapKept.run_getObj_map hb, MapKept.run_checkKey hd hk, MapKept.run_findKey hd hf, MapKept.run_setObj_map _ hb, Result.andThen]
theorem Dw.calls (w : World) :
 Calls Tryz.prog 90 #[] w fun e w' => ∃ r, e = .returned (.map (some r)) ∧ w'.heap[r]? = some (.map UF 5) ∧ Below w.heap.size w w' := by
 obtain ⟨r, hr0⟩ : ∃ r, r = w.heap.size := ⟨_, rfl⟩
 have hr : w.heap.size ≤ r := by omega
 have b0 : Below w.heap.size w (w.alloc (.map #[] 0)) := iD (Below.refl _ _) _
 have h0 : (w.alloc (.map #[] 0)).heap[r]? = some (.map #[] 0) := by rw [hr0]; exact vL w _
 have f0 : (Instr.makeMap 155 none).run Tryz.prog w = .ok (.map (some r)) (w.alloc (.map #[] 0)) := by rw [hr0]; rfl
 generalize w.alloc (.map #[] 0) = W0 at b0 h0 f0
 obtain ⟨W1, f1, h1, b1⟩ := SN (w := w) 1 (.agg #[.int .i64 4, .string ⟨#[102, 108, 111, 97, 116]⟩]) h0 rfl hr b0
 obtain ⟨W2, f2, h2, b2⟩ := SN (w := w) 2 (.agg #[.int .i64 1, .string ⟨#[98, 121, 116, 101]⟩]) h1 rfl hr b1
 obtain ⟨W3, f3, h3, b3⟩ := SN (w := w) 7 (.agg #[.int .i64 8, .string ⟨#[105, 110, 116]⟩]) h2 rfl hr b2
 obtain ⟨W4, f4, h4, b4⟩ := SN (w := w) 9 (.agg #[.int .i64 1, .string ⟨#[102, 108, 97, 103]⟩]) h3 rfl hr b3
 obtain ⟨W5, f5, h5, b5⟩ := SN (w := w) 14 (.agg #[.int .i64 8, .string ⟨#[103, 97, 117, 115, 115]⟩]) h4 rfl hr b4
 have H5 := aC.mk (show W5.heap[r]? = some (.map UF 5) from h5)
 have B5 := aC.mk b5
 clear h0 h1 h2 h3 h4 h5 b0 b1 b2 b3 b4 b5 hr hr0
 go_enter Tryz.func90, Tryz.ntmps90
 go_wp2
 go_ret
 exact ⟨r, rfl, H5.out, B5.out⟩
def gF (k : Int) : Int := if k = 1 then 4 else if k = 2 then 1 else if k = 7 then 8 else if k = 9 then 1 else if k = 14 then 8 else 0
def IX (k : Int) : ByteArray := if k = 1 then ⟨#[102, 108, 111, 97, 116]⟩ else if k = 2 then ⟨#[98, 121, 116, 101]⟩ else if k = 7 then ⟨#[105, 110, 116]⟩ else if k = 9 then ⟨#[102, 108, 97, 103]⟩ else if k = 14 then ⟨#[103, 97, 117, 115, 115]⟩ else ⟨#[]⟩
def isK (k : Int) : Bool := decide (k = 1) || (decide (k = 2) || (decide (k = 7) || (decide (k = 9) || decide (k = 14))))
theorem Xn (k : Int) : ∃ o, Instr.findNow (.int .i64) (.int .i64 k) UF.toList 0 = some o ∧ o.map (·.2) = (if isK k = true then some (.agg #[.int .i64 (gF k), .string (IX k)]) else none) := by
 have hs : ∀ a : Int, Instr.sameNow (.int .i64) (.int .i64 k) (.int .i64 a) = some (k == a) := fun a => by simp [Instr.sameNow]
 have hl : UF.toList = [FB 1 4 ⟨#[102, 108, 111, 97, 116]⟩ 0, FB 2 1 ⟨#[98, 121, 116, 101]⟩ 1, FB 7 8 ⟨#[105, 110, 116]⟩ 2, FB 9 1 ⟨#[102, 108, 97, 103]⟩ 3, FB 14 8 ⟨#[103, 97, 117, 115, 115]⟩ 4] := rfl
 rw [hl]
 simp only [Instr.findNow, FB, hs]
 by_cases h1 : k = 1
 · subst h1; exact ⟨_, rfl, rfl⟩
 by_cases h2 : k = 2
 · subst h2; exact ⟨_, rfl, rfl⟩
 by_cases h3 : k = 7
 · subst h3; exact ⟨_, rfl, rfl⟩
 by_cases h4 : k = 9
 · subst h4; exact ⟨_, rfl, rfl⟩
 by_cases h5 : k = 14
 · subst h5; exact ⟨_, rfl, rfl⟩
 rw [beq_eq_false_iff_ne.2 h1, beq_eq_false_iff_ne.2 h2, beq_eq_false_iff_ne.2 h3, beq_eq_false_iff_ne.2 h4, beq_eq_false_iff_ne.2 h5]
 refine ⟨none, rfl, ?_⟩
 unfold isK
 rw [dF h1, dF h2, dF h3, dF h4, dF h5]
 rfl
theorem aAM (k : Int) (h : isK k = false) : gF k = 0 ∧ IX k = ⟨#[]⟩ := by
 unfold isK at h
 simp only [Bool.or_eq_false_iff, decide_eq_false_iff_not] at h
 unfold gF IX
 rw [iN h.1, iN h.2.1, iN h.2.2.1, iN h.2.2.2.1, iN h.2.2.2.2, iN h.1, iN h.2.1, iN h.2.2.1, iN h.2.2.2.1, iN h.2.2.2.2]
 exact ⟨rfl, rfl⟩
theorem Dy {W : World} {r : Nat} (hb : W.heap[r]? = some (.map UF 5)) (k : Int) (c : Bool) : (Instr.lookup 155 (.map (some r)) (.int .i64 k) c).run Tryz.prog W = .ok (if c then .tuple #[.agg #[.int .i64 (gF k), .string (IX k)], .bool (isK k)] else .agg #[.int .i64 (gF k), .string (IX k)]) W := by
 have hk : MapKept.IsKey (.int .i64) (.int .i64 k) := by simp [MapKept.IsKey]
 have hd : Tryz.prog.underlying 30 = some (.int .i64) := Tryz.underlying30
 obtain ⟨o, ho, hm⟩ := Xn k
 cases hi : isK k with
 | true =>
  rw [ip hi] at hm
  obtain ⟨⟨i, v⟩, rfl, hv⟩ := Option.map_eq_some_iff.1 hm
  dsimp only at hv
  subst hv
  simp [Instr.lookup, run_underlying Tryz.underlying155, MapKept.run_getObj_map hb, MapKept.run_checkKey hd hk, MapKept.run_findKey hd ho, Result.andThen]
 | false =>
  rw [iN (by rw [hi]; simp)] at hm
  obtain rfl : o = none := by cases o with | none => rfl | some x => cases hm
  obtain ⟨s1, s2⟩ := aAM k hi
  rw [s1, s2]
  simp [Instr.lookup, run_underlying Tryz.underlying155, MapKept.run_getObj_map hb, MapKept.run_checkKey hd hk, MapKept.run_findKey hd ho, Result.andThen, Tryz.zeroValue154]
theorem Eo.calls (k : Int) (w : World) :
 Calls Tryz.prog 56 #[.int .i64 k] w fun e w' => e = .returned (.int .i64 (gF k)) ∧ Below w.heap.size w w' := by
 have hf : ∀ w, (Instr.field 154 (.agg #[.int .i64 (gF k), .string (IX k)]) 0).run Tryz.prog w = .ok (.int .i64 (gF k)) w := fun w => by
  simp [Instr.field, run_underlying Tryz.underlying154, asAgg, part, Tryz.isAgg3, Result.andThen]
 go_enter Tryz.func56, Tryz.ntmps56
 go_wp2_with (first | (fail))
 refine (Dw.calls _).mono ?_
 rintro e w1 ⟨r, rfl, h, hb⟩
 have HB := aC.mk hb
 have hl : (Instr.lookup 155 (.map (some r)) (.int .i64 k) false).run Tryz.prog w1 = .ok (.agg #[.int .i64 (gF k), .string (IX k)]) w1 := Dy h k false
 clear hb h
 go_wp2_with (first | (fail))
 go_ret
 exact ⟨rfl, HB.out⟩
theorem Wv.calls (k : Int) (hk : isK k = true) (w : World) :
 Calls Tryz.prog 84 #[.int .i64 k] w fun e w' => e = .returned (.string (IX k)) ∧ Below w.heap.size w w' := by
 go_enter Tryz.func84, Tryz.ntmps84
 go_wp2_with (first | (fail))
 refine (Dw.calls _).mono ?_
 rintro e w1 ⟨r, rfl, h, hb⟩
 have HB := aC.mk hb
 have hl : (Instr.lookup 155 (.map (some r)) (.int .i64 k) true).run Tryz.prog w1 = .ok (.tuple #[.agg #[.int .i64 (gF k), .string (IX k)], .bool (isK k)]) w1 := Dy h k true
 rw [hk] at hl
 clear hb h
 go_wp2_with (first | (fail))
 go_ret
 exact ⟨rfl, iD HB.out _⟩
def nX : List Int → Int → Bool → Int × Int
 | [], n, z => if z = true then (0, 0) else if n > 65536 then (0, 7) else (n, 0)
 | d :: l, n, z => if d > 65536 then (0, 7) else if d = 0 then nX l n true else nX l (if 65537 < n * d then 65537 else n * d) z
def kE (l : List Int) : Int × Int := if l.length > 8 then (0, 6) else if l.any (fun x => decide (x < 0)) then (0, 6) else nX l 1 false
theorem Kq {n d : Int} (h0 : 0 ≤ n) (h1 : n ≤ 65537) (h2 : 0 ≤ d) (h3 : d ≤ 65536) : 0 ≤ n * d ∧ n * d ≤ 4295032832 := by
 refine ⟨Int.mul_nonneg h0 h2, ?_⟩
 have := Int.mul_le_mul h1 h3 h2 (by omega : (0 : Int) ≤ 65537)
 omega
theorem Yj (l : List Int) : ∀ (n : Int) (z : Bool), (∀ x ∈ l, x ≤ 65536) → (z = true ∨ ∃ x ∈ l, x = 0) → nX l n z = (0, 0) := by
 induction l with
 | nil =>
  intro n z _ h
  rcases h with h | ⟨x, hx, _⟩
  · rw [nX, ip h]
  · cases hx
 | cons d l ih =>
  intro n z hg h
  have hd := hg d (List.mem_cons_self ..)
  have hl : ∀ x ∈ l, x ≤ 65536 := fun x hx => hg x (List.mem_cons_of_mem _ hx)
  rw [nX, iN (by omega)]
  by_cases h0 : d = 0
  · rw [ip h0]; exact ih n true hl (Or.inl rfl)
  · rw [iN h0]
    refine ih _ z hl ?_
    rcases h with h | ⟨x, hx, e⟩
    · exact Or.inl h
    · rcases List.mem_cons.1 hx with rfl | hx
      · exact absurd e h0
      · exact Or.inr ⟨x, hx, e⟩
theorem Xf (l : List Int) : ∀ (n : Int) (z : Bool), (∃ x ∈ l, x > 65536) → nX l n z = (0, 7) := by
 induction l with
 | nil => intro n z h; obtain ⟨x, hx, _⟩ := h; cases hx
 | cons d l ih =>
  intro n z h
  rw [nX]
  by_cases hd : d > 65536
  · rw [ip hd]
  · rw [iN hd]
    have : ∃ x ∈ l, x > 65536 := by
     obtain ⟨x, hx, e⟩ := h
     rcases List.mem_cons.1 hx with rfl | hx
     · exact absurd e hd
     · exact ⟨x, hx, e⟩
    split
    · exact ih _ _ this
    · exact ih _ _ this
theorem Yi (l : List Int) : (∀ x ∈ l, 0 < x ∧ x ≤ 65536) → nX l 65537 false = (0, 7) := by
 induction l with
 | nil => intro _; rfl
 | cons d l ih =>
  intro h
  have hd := h d (List.mem_cons_self ..)
  rw [nX, iN (by omega), iN (by omega)]
  have : (if 65537 < 65537 * d then 65537 else 65537 * d) = 65537 := by split <;> omega
  rw [this]
  exact ih (fun x hx => h x (List.mem_cons_of_mem _ hx))
theorem Fv (p : Int → Bool) (l : List Int) (i : Nat) (h : i < l.length) : (l.take (i + 1)).any p = ((l.take i).any p || p l[i]) := by
 rw [List.take_succ_eq_append_getElem h, List.any_append]; simp
def tK (s : ByteArray) : Bool := (ns s).all (fun c => decide (33 ≤ c ∧ c ≤ 126)) && decide (1 ≤ s.size ∧ s.size ≤ 64)
def ED (kind : Int) (data : ByteArray) (i : Nat) : Bool :=
 if kind = 9 then decide (bt data i ≤ 1) else if kind = 14 then (vY (data.extract (8 * i) (8 * i + 8))).2.2 == 0 else true
def qR (name : ByteArray) (kind : Int) (bE : List Int) (data : ByteArray) : Int :=
 if tK name = true then
  if gF kind = 0 then 5
  else if (kE bE).2 = 0 then
   if (data.size : Int) = (kE bE).1 * gF kind then
    if (List.range (kE bE).1.toNat).all (ED kind data) = true then 0 else 17
   else 19
  else (kE bE).2
 else 8
theorem Xe (l : List Int) : ∀ (n : Int) (z : Bool), 0 ≤ n → (∀ x ∈ l, 0 ≤ x) → (nX l n z).2 = 0 → 0 ≤ (nX l n z).1 ∧ (nX l n z).1 ≤ 65536 := by
 induction l with
 | nil =>
  intro n z hn _ h
  rw [nX] at h ⊢
  by_cases hz : z = true
  · rw [ip hz]; exact ⟨Int.le_refl _, by decide⟩
  · rw [iN hz] at h ⊢
    by_cases h6 : n > 65536
    · rw [ip h6] at h; exact absurd h (by decide)
    · rw [iN h6]; exact ⟨hn, by omega⟩
 | cons d l ih =>
  intro n z hn hl h
  have hd := hl d (List.mem_cons_self ..)
  have hl' : ∀ x ∈ l, 0 ≤ x := fun x hx => hl x (List.mem_cons_of_mem _ hx)
  rw [nX] at h ⊢
  by_cases h6 : d > 65536
  · rw [ip h6] at h; exact absurd h (by decide)
  · rw [iN h6] at h ⊢
    by_cases h0 : d = 0
    · rw [ip h0] at h ⊢; exact ih n true hn hl' h
    · rw [iN h0] at h ⊢
      refine ih _ z ?_ hl' h
      split
      · decide
      · exact Int.mul_nonneg hn hd
theorem _V {l : List Int} (h : (kE l).2 = 0) : 0 ≤ (kE l).1 ∧ (kE l).1 ≤ 65536 := by
 unfold kE at h ⊢
 by_cases h8 : l.length > 8
 · rw [ip h8] at h; exact absurd h (by decide)
 · rw [iN h8] at h ⊢
   by_cases hn : (l.any fun x => decide (x < 0)) = true
   · rw [ip hn] at h; exact absurd h (by decide)
   · rw [iN hn] at h ⊢
     refine Xe l 1 false (by decide) ?_ h
     intro x hx
     have : ¬ x < 0 := by
      intro hlt
      exact hn (List.any_eq_true.2 ⟨x, hx, dT hlt⟩)
     omega
theorem XC (k : Int) : gF k = 0 ∨ gF k = 1 ∨ gF k = 4 ∨ gF k = 8 := by
 unfold gF
 by_cases h1 : k = 1
 · rw [ip h1]; exact .inr (.inr (.inl rfl))
 rw [iN h1]
 by_cases h2 : k = 2
 · rw [ip h2]; exact .inr (.inl rfl)
 rw [iN h2]
 by_cases h7 : k = 7
 · rw [ip h7]; exact .inr (.inr (.inr rfl))
 rw [iN h7]
 by_cases h9 : k = 9
 · rw [ip h9]; exact .inr (.inl rfl)
 rw [iN h9]
 by_cases sO : k = 14
 · rw [ip sO]; exact .inr (.inr (.inr rfl))
 rw [iN sO]
 exact .inl rfl
theorem Xm (b : ByteArray) (i j : Nat) (m : Nat) (h : m < j - i) (hj : j ≤ b.size) : bt (b.extract i j) (m : Int) = bt b ((i + m : Nat) : Int) := by
 have h1 : m < (b.extract i j).size := by rw [ByteArray.size_extract, Nat.min_eq_left hj]; exact h
 rw [BA _ _ h1, BA _ _ (show i + m < b.size by omega)]
 have := QB (b.extract i j) m h1
 have e2 := QB b (i + m) (by omega)
 rw [← this, ← e2]
 have e3 : ns (b.extract i j) = ((ns b).drop i).take (j - i) := XG b i j
 have : (((ns (b.extract i j))[m]'(by rw [vG]; exact h1) : Nat) : Int) = ((((ns b).drop i).take (j - i))[m]'(by rw [← e3, vG]; exact h1) : Nat) := by
  congr 1
  exact getElem_congr_coll e3
 rw [this, List.getElem_take, List.getElem_drop]
theorem Fu (p : Nat → Bool) (n i : Nat) (h : i < n) : ((List.range n).drop i).all p = (p i && ((List.range n).drop (i + 1)).all p) := by
 rw [List.drop_eq_getElem_cons (by simpa using h), List.all_cons, List.getElem_range]
def pg (n0 : ByteArray) (k0 : Int) (d0 : List Int) (b0 : ByteArray) (n1 : ByteArray) (k1 : Int) (d1 : List Int) (b1 : ByteArray) : Bool := decide (n0 = n1 ∧ k0 = k1 ∧ d0 = d1 ∧ b0 = b1)
end Go.Proofs.YtgmggompdidcoaaGreatDoor.X
