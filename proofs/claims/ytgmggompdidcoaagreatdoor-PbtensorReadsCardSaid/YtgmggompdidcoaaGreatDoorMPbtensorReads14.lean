import Derived.Test.YtgmggompdidcoaaGreatDoorMPbtensorReads8
import Derived.Test.YtgmggompdidcoaaGreatDoorMPbtensorReads11
namespace Go.Proofs.YtgmggompdidcoaaGreatDoor.X
open Go.RowKit Go.Proofs.YtgmggompdidcoaaGreatDoorW.aX Go.Proofs.YtgmggompdidcoaaGreatDoorW.bJ Go.Proofs.YtgmggompdidcoaaGreatDoorW.bK
attribute [local go_sem] bO bQ bS bU bM bN bP bR
set_option linter.unusedVariables false
set_option linter.unusedSimpArgs false
set_option maxHeartbeats 8000000
set_option maxRecDepth 100000
def WY.f (a0 : Int) : Option (List Int) := if 0 ≤ a0 ∧ a0 < 18446744073709551616 then some ((tX a0.toNat).map Int.ofNat) else none
def Tp.l0 : Nat → Int → Int → ByteArray → Int → Option (ByteArray)
 | 0, _, _, _, _ => none
 | k + 1, x0, x1, x5, x6 => if x6 < x1 then ((some (([(Int.tmod x0 256) % 256] : List Int) : List Int)).bind fun y101 => (if x5.size + (strOfNums y101).size ≤ 9223372036854775807 then (Tp.l0 k (IntKind.u64.wrap (Int.tdiv x0 256)) x1 (x5 ++ (strOfNums y101)) (wrap64 (x6 + 1))) else (none))) else (some x5)
def Ca.f (a0 a1 : Int) : Option ByteArray := if 0 ≤ a0 ∧ a0 < 18446744073709551616 ∧ 0 ≤ a1 ∧ a1 ≤ 8 then some (xB a0.toNat a1.toNat) else none
def NG.j0 : Nat → Bool → Int → Int → Int → ByteArray → Option (ByteArray)
 | 0, _, _, _, _, _ => none
 | k + 1, x31, vM, pO, pQ, pR => if x31 = true then (some (⟨#[]⟩ : ByteArray)) else ((WY.f (IntKind.u64.wrap (wrap64 ((wrap64 (8 * vM)) + pO)))).bind fun t102 => (if pO = 0 then ((WY.f pQ).bind fun t105 => (if (strOfNums t102).size + (strOfNums t105).size ≤ 9223372036854775807 then (some ((strOfNums t102) ++ (strOfNums t105))) else (none))) else (if pO = 1 then ((Ca.f pQ 8).bind fun t108 => (if (strOfNums t102).size + t108.size ≤ 9223372036854775807 then (some ((strOfNums t102) ++ t108)) else (none))) else (if pO = 2 then ((WY.f (IntKind.u64.wrap ((pR.size : Int)))).bind fun t109 => (if (strOfNums t102).size + (strOfNums t109).size ≤ 9223372036854775807 then (if ((strOfNums t102) ++ (strOfNums t109)).size + pR.size ≤ 9223372036854775807 then (some (((strOfNums t102) ++ (strOfNums t109)) ++ pR)) else (none)) else (none))) else (if pQ > 4294967295 then (some (⟨#[]⟩ : ByteArray)) else ((Ca.f pQ 4).bind fun t112 => (if (strOfNums t102).size + t112.size ≤ 9223372036854775807 then (some ((strOfNums t102) ++ t112)) else (none))))))))
def NG.VY : Bool × List (List Nat × List Nat) := (true, [([], []), ([], []), ([1], [1]), ([2], [2]), ([3], [3]), ([4], [4]), ([5], [5]), ([0, 6], [0, 6]), ([], []), ([8], [8]), ([7, 9], [7, 9]), ([10, 5, 0, 1, 2, 3, 4, 5, 6, 7, 8, 9, 10], [10])])
def NG.B10 : List Nat := [0, 0, 2, 6, 14, 30, 62, 127, 0, 256, 1023, 2047]
theorem NG.qa : jU .any (opsOf Tryz.f76 10) = NG.VY := by kernel_rfl
theorem NG.jo : uK NG.VY.2 NG.B10 = true := by kernel_rfl
def Ta.f (a0 a1 a2 : Int) (a3 : ByteArray) : Option ByteArray :=
 if -9223372036854775808 ≤ a0 ∧ a0 < 9223372036854775808 ∧ -9223372036854775808 ≤ a1 ∧ a1 < 9223372036854775808 ∧ 0 ≤ a2 ∧ a2 < 18446744073709551616 ∧ a3.size ≤ 140737488351232 then some (LK a0 a1 a2 a3) else none



def Te.f (a0 : Int) (a1 : ByteArray) : Option ByteArray := Ta.f a0 2 0 a1
def Tz.l0 : Nat → Int → List Int → ByteArray → Int → Option (ByteArray)
 | 0, _, _, _, _ => none
 | k + 1, x0, x1, x5, x6 => if x6 < (x1.length : Int) then (if 0 ≤ x6 then ((WY.f (IntKind.u64.wrap (rd x1 x6))).bind fun t102 => (if x5.size + (strOfNums t102).size ≤ 9223372036854775807 then (Tz.l0 k x0 x1 (x5 ++ (strOfNums t102)) (wrap64 (x6 + 1))) else (none))) else (none)) else ((Te.f x0 x5).bind fun t105 => (some t105))


def SV.f (a0 : Int) (a1 : ByteArray) : Option (ByteArray) := (yX.f a0 2 0 a1).bind fun t101 => (some t101)
theorem SV.calls (a0 : Int) (a1 : ByteArray) (r : ByteArray) (w : World) (h : SV.f a0 a1 = some r) :
 Calls Tryz.prog 37 #[.int .i64 a0, .string a1] w fun e w' => e = .returned (.string r) ∧ Below w.heap.size w w' := by
 have EB := Tryz.underlying95; have HB := aA (Below.refl w.heap.size w); have H : ((yX.f a0 2 0 a1).bind fun t101 => (some t101)) = some r := h; clear h; replace H := bnd H; obtain ⟨t101, A3, H⟩ := H; obtain rfl := Option.some.inj H
 go_enter Tryz.func37, Tryz.ntmps37
 go_wp2_with (first | ((with_reducible refine dJ (f := 74) rfl ?_); refine dV (some 8) rfl rfl Tryz.func74 (by kernel_rfl) rfl #[.agg #[.int .i64 a0, .int .i64 2, .int .u64 0, .string a1]] rfl ?_; (with_reducible refine (yX.calls a0 2 0 a1 t101 _ A3.out).mono ?_); rintro e w4 ⟨rfl, hb⟩; refine ⟨_, rfl, ?_⟩; replace HB := aA (jV (aJ HB) hb); (try clear hb)))
 go_ret
 exact ⟨eH, aJ HB⟩
def y9.f (a0 : Int) (a1 : ByteArray) : Option ByteArray := yX.f a0 2 0 a1
theorem y9.ev (a0 : Int) (a1 : ByteArray) (r) (h : y9.f a0 a1 = some r) : ∃ k : Nat, SV.f a0 a1 = some r := by
 unfold y9.f at h
 exact ⟨0, by unfold SV.f; rw [h]; rfl⟩
theorem y9.calls (a0 : Int) (a1 : ByteArray) (r : ByteArray) (w : World) (h : y9.f a0 a1 = some r) :
 Calls Tryz.prog 37 #[.int .i64 a0, .string a1] w fun e w' => e = .returned (.string r) ∧ Below w.heap.size w w' := by
 obtain ⟨k, hk⟩ := y9.ev a0 a1 _ h
 exact SV.calls a0 a1 r w hk
def PQ.f (a0 : Int) (l1 : List Int) : Option ByteArray := if -9223372036854775808 ≤ a0 ∧ a0 < 9223372036854775808 ∧ l1.length ≤ 1000000000 then some (uu a0 l1) else none
theorem Ut (a0 : Int) (l1 : List Int) (h : -9223372036854775808 ≤ a0 ∧ a0 < 9223372036854775808 ∧ l1.length ≤ 1000000000) : y9.f a0 (rJ l1) = some (LK a0 2 0 (rJ l1)) := by
 have hs := Eg l1
 exact ip ⟨h.1, h.2.1, by decide, by decide, by decide, by decide, by omega⟩
theorem PQ.calls (a0 : Int) (A1 : Option Addr) (c1 : Nat) (l1 : List Int) (r : ByteArray) (w : World) (hr1 : Kd.C (Kd.int .i64) w A1 l1.length l1) (hc1 : l1.length ≤ c1) (h : PQ.f a0 l1 = some r) :
 Calls Tryz.prog 35 #[.int .i64 a0, .slice A1 l1.length c1] w fun e w' => e = .returned (.string r) ∧ Below w.heap.size w w' := by
 unfold PQ.f at h
 by_cases hb : -9223372036854775808 ≤ a0 ∧ a0 < 9223372036854775808 ∧ l1.length ≤ 1000000000
 · rw [ip hb] at h
   have Oh := aC.mk (Option.some.inj h)
   have aDw := aC.mk (Ut a0 l1 hb)
   have HL := aC.mk hb.2.2
   have HR1 := aC.mk hr1
   have VO := aC.mk hc1
   clear h hb hr1 hc1
   by_cases h0 : l1.length = 0
   · have hz : ((l1.length : Int) == 0) = true := by simp [h0]
     have Hn : aC (l1 = []) := ⟨List.eq_nil_of_length_eq_zero h0⟩
     clear h0
     go_enter Tryz.func35, Tryz.ntmps35
     go_wp2
     go_ret
     exact ⟨by rw [← Oh.out, Hn.out]; rfl, Below.refl _ _⟩
   · have hz : ((l1.length : Int) == 0) = false := by simp; intro hh; exact h0 (by rw [hh]; rfl)
     have Hne : aC (¬ l1 = []) := ⟨fun hh => h0 (by rw [hh]; rfl)⟩
     clear h0
     go_enter Tryz.func35, Tryz.ntmps35
     go_wp2
     have HB0 : aC (Below w.heap.size w (w.alloc (Obj.cells #[Value.pointer none, Value.slice none 0 0] 128))) := ⟨iD (Below.refl _ _) _⟩
     have HI0 : aC (Lib.IsBuilder 128 5 w.heap.size w.heap.size (Lib.byteCells (rJ (l1.take 0)).data.toList) (w.alloc (Obj.cells #[Value.pointer none, Value.slice none 0 0] 128))) := ⟨Lib.fresh_isBuilder _ _ w⟩
     go_loopg [13] l1.length (fun kq v13 w' => ∃ i : Nat, v13 = .int .i64 i ∧ aC (i + kq = l1.length) ∧ i ≤ l1.length ∧ aC (Lib.IsBuilder 128 5 w.heap.size w.heap.size (Lib.byteCells (rJ (l1.take i)).data.toList) w') ∧ aC (Below w.heap.size w w'))
     case atStart => exact ⟨0, rfl, ⟨by omega⟩, Nat.zero_le _, HI0, HB0⟩
     case round =>
      obtain ⟨i, rfl, HK, hi, HI, HB⟩ := hrel
      clear HB0 HI0
      by_cases hlt : i < l1.length
      · have hlt' : decide ((i : Int) < (l1.length : Int)) = true := by simpa using hlt
        obtain ⟨k1, rfl⟩ : ∃ m, gk = m + 1 := ⟨gk - 1, by have := HK.out; omega⟩
        have Hv : aC (mW.f (IntKind.u64.wrap (rd l1 i)) = some (uT (IntKind.u64.wrap (rd l1 i)).toNat)) := ⟨ip (af _)⟩
        have UZ : aC (Lib.byteCells (rJ (l1.take i)).data.toList ++ Lib.strCells (uT (IntKind.u64.wrap (rd l1 i)).toNat) = Lib.byteCells (rJ (l1.take (i + 1))).data.toList) := ⟨by
         rw [byteCells_append, List.take_succ_eq_append_getElem hlt, Wp]
         simp [rJ, rd, List.getD_eq_getElem?_getD, hlt]⟩
        have Hlen : aC ((Lib.byteCells (rJ (l1.take i)).data.toList).length + (uT (IntKind.u64.wrap (rd l1 i)).toNat).size ≤ 140737488355328) := ⟨by
         have h1 := Eg (l1.take i)
         have h2 := XV (IntKind.u64.wrap (rd l1 i)).toNat (by have := af (rd l1 i); omega)
         have h3 : (Lib.byteCells (rJ (l1.take i)).data.toList).length = (rJ (l1.take i)).size := by simp [Lib.byteCells]
         have h4 := HL.out
         rw [List.length_take] at h1
         rw [ag, h3]
         omega⟩
        have Hw : aC (wrap64 ((i : Int) + 1) = (i : Int) + 1) := ⟨by have := HL.out; exact fC (by omega) (by omega)⟩
        have dL : 0 ≤ (i : Int) := Int.natCast_nonneg i
        have dM : (i : Int) < (l1.length : Int) := by omega
        obtain ⟨lD, iM, gD⟩ := Kd.kN HR1.out i dL dM
        cases iM
        replace gD := (HB.out.cell (World.block_lt_of_cell? w _ gD)).trans gD
        rw [Int.toNat_natCast] at gD
        replace dL := eT dL
        replace dM := eT dM
        go_wp2_with (first | (fail))
        refine (mW.calls (IntKind.u64.wrap (rd l1 i)) _ _ Hv.out).mono ?_
        rintro e w8 ⟨rfl, hb⟩
        have bI := aC.mk (jV HB.out hb)
        have bV := aC.mk (_C HI.out hb)
        clear HB
        clear HI
        have HB := bI
        have HI := bV
        clear bI bV
        clear hb
        go_wp2_with (first | (fail))
        refine (Sh.WriteString w.heap.size w.heap.size _ (uT (IntKind.u64.wrap (rd l1 i)).toNat) _ HI.out Hlen.out (iI HB.out)).mono ?_
        rintro e w9 ⟨rfl, M0, hb⟩
        have bI := aC.mk (HB.out.trans hb)
        have bV := aC.mk (show Lib.IsBuilder 128 5 w.heap.size w.heap.size _ w9 from .inr M0)
        clear HB
        clear HI
        have HB := bI
        have HI := bV
        clear bI bV
        clear hb
        clear M0
        go_wp2_with (first | (fail))
        go_roundg k1
        case measure => have := HK.out; omega
        case rel => exact ⟨i + 1, by rw [Hw.out]; rfl, ⟨by have := HK.out; omega⟩, by omega, ⟨by rw [← UZ.out]; exact HI.out⟩, HB⟩
      · have hlt' : decide ((i : Int) < (l1.length : Int)) = false := by simpa using hlt
        have Hi : aC (l1.take i = l1) := ⟨List.take_of_length_le (by omega)⟩
        have HI2 : aC (Lib.IsBuilder 128 5 w.heap.size w.heap.size (Lib.byteCells (rJ l1).data.toList) wr) := ⟨by have := HI.out; rw [Hi.out] at this; exact this⟩
        go_wp2_with (first | (fail))
        refine (Sh.String w.heap.size w.heap.size _ _ HI2.out (iI HB.out)).mono ?_
        rintro e w8 ⟨rfl, hb⟩
        have bI := aC.mk (HB.out.trans hb)
        clear HB
        have HB := bI
        clear bI hb
        go_wp2_with (first | (fail))
        refine (y9.calls a0 (rJ l1) _ _ aDw.out).mono ?_
        rintro e w9 ⟨rfl, hb⟩
        have bI := aC.mk (jV HB.out hb)
        clear HB
        have HB := bI
        clear bI hb
        go_wp2_with (first | (fail))
        go_ret
        exact ⟨by rw [← Oh.out, uu, iN Hne.out]; rfl, HB.out⟩
 · rw [iN hb] at h; cases h
def SK.f (a0 : Int) (a1 : Int) : Option (ByteArray) := (yX.f a0 0 a1 (⟨#[]⟩ : ByteArray)).bind fun t101 => (some t101)
theorem SK.calls (a0 : Int) (a1 : Int) (r : ByteArray) (w : World) (h : SK.f a0 a1 = some r) :
 Calls Tryz.prog 36 #[.int .i64 a0, .int .u64 a1] w fun e w' => e = .returned (.string r) ∧ Below w.heap.size w w' := by
 have EB := Tryz.underlying95; have HB := aA (Below.refl w.heap.size w); have H : ((yX.f a0 0 a1 (⟨#[]⟩ : ByteArray)).bind fun t101 => (some t101)) = some r := h; clear h; replace H := bnd H; obtain ⟨t101, A3, H⟩ := H; obtain rfl := Option.some.inj H
 go_enter Tryz.func36, Tryz.ntmps36
 go_wp2_with (first | ((with_reducible refine dJ (f := 74) rfl ?_); refine dV (some 8) rfl rfl Tryz.func74 (by kernel_rfl) rfl #[.agg #[.int .i64 a0, .int .i64 0, .int .u64 a1, .string ⟨#[]⟩]] rfl ?_; (with_reducible refine (yX.calls a0 0 a1 (⟨#[]⟩ : ByteArray) t101 _ A3.out).mono ?_); rintro e w4 ⟨rfl, hb⟩; refine ⟨_, rfl, ?_⟩; replace HB := aA (jV (aJ HB) hb); (try clear hb)))
 go_ret
 exact ⟨eH, aJ HB⟩
def JL.f (a0 a1 : Int) : Option ByteArray := yX.f a0 0 a1 ⟨#[]⟩
theorem JL.ev (a0 a1 : Int) (r) (h : JL.f a0 a1 = some r) : ∃ k : Nat, SK.f a0 a1 = some r := by
 unfold JL.f at h
 exact ⟨0, by unfold SK.f; rw [h]; rfl⟩
theorem JL.calls (a0 : Int) (a1 : Int) (r : ByteArray) (w : World) (h : JL.f a0 a1 = some r) :
 Calls Tryz.prog 36 #[.int .i64 a0, .int .u64 a1] w fun e w' => e = .returned (.string r) ∧ Below w.heap.size w w' := by
 obtain ⟨k, hk⟩ := JL.ev a0 a1 _ h
 exact SK.calls a0 a1 r w hk
def AB.f (aY : ByteArray) (aT : Int) (aV : List Int) (bC : ByteArray) : Option (ByteArray × Int) := (xQ.f aY aT aV bC).bind fun t102 => (if t102 = 0 then ((PQ.f 1 aV).bind fun t103 => ((JL.f 2 (IntKind.u64.wrap (aT))).bind fun t104 => (if t103.size + t104.size ≤ 9223372036854775807 then ((y9.f 8 aY).bind fun t105 => (if (t103 ++ t104).size + t105.size ≤ 9223372036854775807 then ((y9.f 9 bC).bind fun t106 => (if ((t103 ++ t104) ++ t105).size + t106.size ≤ 9223372036854775807 then (some (((t103 ++ t104) ++ t105) ++ t106, 0)) else (none))) else (none))) else (none)))) else (some ((⟨#[]⟩ : ByteArray), t102)))
def AB.T4 : Bool × List (List Nat × List Nat) := (true, [([], []), ([0], [0]), ([1], [1]), ([], []), ([3], [3]), ([4], [4]), ([5, 2], [5]), ([2, 6], [2, 6]), ([], []), ([8], [8]), ([9, 6], [9]), ([7, 10], [7, 10]), ([], []), ([12], [12]), ([13, 10], [13]), ([11, 14], [11, 14]), ([15, 14, 0, 1, 2, 3, 4, 5, 6, 7, 8, 9, 10, 11, 12, 13, 14, 15], [15]), ([16, 0, 1, 2, 3, 4, 5, 6, 7, 8, 9, 10, 11, 12, 13, 14, 15, 16], [])])
def AB.B4 : List Nat := [0, 1, 3, 0, 8, 24, 63, 127, 0, 256, 895, 2047, 0, 4096, 14207, 32767, 65535, 131071]
theorem AB.aFu : jU .any (opsOf Tryz.f12 4) = AB.T4 := by kernel_rfl
theorem AB.aDO : uK AB.T4.2 AB.B4 = true := by kernel_rfl
theorem AB.calls (aY : ByteArray) (aT : Int) (fM : Option Addr) (fO : Nat) (aV : List Int) (bC : ByteArray) (r1 : ByteArray) (r2 : Int) (w : World) (rF : Kd.C (Kd.int .i64) w fM aV.length aV) (rE : aV.length ≤ fO) (h : AB.f aY aT aV bC = some (r1, r2)) :
 Calls Tryz.prog 12 #[.agg #[.string aY, .int .i64 aT, .slice fM aV.length fO, .string bC]] w fun e w' => e = .returned (.tuple #[.string r1, .int .i64 r2]) ∧ Below w.heap.size w w' := by
 have lZ := Tryz.underlying33; have tC := aA rF; have vS := aA rE; clear rF rE; have HB := aA (Below.refl w.heap.size w); have H : ((xQ.f aY aT aV bC).bind fun t102 => (if t102 = 0 then ((PQ.f 1 aV).bind fun t103 => ((JL.f 2 (IntKind.u64.wrap (aT))).bind fun t104 => (if t103.size + t104.size ≤ 9223372036854775807 then ((y9.f 8 aY).bind fun t105 => (if (t103 ++ t104).size + t105.size ≤ 9223372036854775807 then ((y9.f 9 bC).bind fun t106 => (if ((t103 ++ t104) ++ t105).size + t106.size ≤ 9223372036854775807 then (some (((t103 ++ t104) ++ t105) ++ t106, 0)) else (none))) else (none))) else (none)))) else (some ((⟨#[]⟩ : ByteArray), t102)))) = some (r1, r2) := h; clear h; replace H := bnd H; obtain ⟨t102, A2, H⟩ := H
 by_cases c3 : t102 = 0
 ·
  rw [ip c3] at H; obtain ⟨gL, rW⟩ := dH c3; clear c3; replace H := bnd H; obtain ⟨t103, A4, H⟩ := H; replace H := bnd H; obtain ⟨t104, A5, H⟩ := H; replace H := dU H; obtain ⟨c6, H⟩ := H; have kP := eT c6; have wD := dT c6; try have aEP := eq_false (Nat.not_lt.2 c6)
  try have aEQ := aEP
  try simp only [ByteArray.size_append] at aEQ
  replace H := bnd H; obtain ⟨t105, A7, H⟩ := H; replace H := dU H; obtain ⟨c8, H⟩ := H; have mG := eT c8; have EA := dT c8; try have aER := eq_false (Nat.not_lt.2 c8)
  try have aES := aER
  try simp only [ByteArray.size_append] at aES
  replace H := bnd H; obtain ⟨t106, A9, H⟩ := H; replace H := dU H; obtain ⟨c10, H⟩ := H; have qO := eT c10; have zN := dT c10; try have aDQ := eq_false (Nat.not_lt.2 c10)
  try have aDR := aDQ
  try simp only [ByteArray.size_append] at aDR
  simp only [Option.some.injEq, Prod.mk.injEq] at H
  obtain ⟨rfl, rfl⟩ := H
  go_enter Tryz.func12, Tryz.ntmps12
  try go_wp2_with (first | ((with_reducible refine cK (N := 1) rfl ?_); refine dB (N := 1) (cs := #[.string aY, .int .i64 aT, .slice fM aV.length fO, .string bC]) (t := 33) ?_; intro dG hg JE aG hb; have aD := aA aG; have lV := bB HB hg; have lU := bB HB hg; replace HB := hbS HB hb; clear hb aG hg; obtain ⟨S9, TA, TB, TC⟩ := aN aD; have TI := fz aD 0; have TJ := fz aD 1; have TL := fz aD 2; have TM := fz aD 3) | ((with_reducible refine dJ (f := 34) rfl ?_); refine dV (some 6) rfl rfl Tryz.func34 (by kernel_rfl) rfl #[.agg #[.string aY, .int .i64 aT, .slice fM aV.length fO, .string bC]] rfl ?_; (with_reducible refine (xQ.calls aY aT _ _ aV bC t102 _ ?iU ?iV A2.out).mono ?_); (case iU => exact uY tC HB); (case iV => exact vS.out); rintro e JF ⟨rfl, hb⟩; refine ⟨_, rfl, ?_⟩; replace aD := aI aD hb; replace HB := hbS HB hb; (try clear hb))); replace aD := aA (kU aD.out); replace HB := aA (iO HB.out)
  refine vQ (n := 18) (S := fun w' => w'.cell? ⟨dG, 0, none⟩ = some (.string aY) ∧ w'.cell? ⟨dG, 1, none⟩ = some (.int .i64 aT) ∧ w'.cell? ⟨dG, 2, none⟩ = some (.slice fM aV.length fO) ∧ w'.cell? ⟨dG, 3, none⟩ = some (.string bC)) (ds := []) (bA 18 0) (by kernel_rfl) rfl rfl ⟨gK aD 0, gK aD 1, gK aD 2, gK aD 3⟩ (fun hHeld => ?_); refine G6 AB.aFu AB.aDO (fun gP pX => ?_)
  generalize JF.drew = R6 at aD HB hHeld ⊢
  refine mH (i := 0) (N := some 10) (bA 18 1) gP ?_
  refine mH (i := 3) (N := some 13) (bA 18 9) gP ?_
  refine mH (i := 8) (N := some 18) (bA 18 265) gP ?_
  refine mH (i := 12) (N := some 22) (bA 18 4361) gP ?_
  refine JD (i := 1) (N := some 11) (bA 18 4363) gP pX hHeld ?_
  refine JD (i := 4) (N := some 14) (bA 18 4379) gP pX hHeld ?_
  refine mH (i := 5) (N := some 15) (bA 18 4411) gP ?_
  refine JD (i := 9) (N := some 19) (bA 18 4923) gP pX hHeld ?_
  refine JD (i := 13) (N := some 23) (bA 18 13115) gP pX hHeld ?_
  refine sN (i := 2) (N := some 12) (bA 18 13119) rfl rfl (NY gP.out (by kernel_rfl)) (by decide) (fun K hK => ?_)
  refine xO Tryz.func35 (by kernel_rfl) rfl #[.int .i64 1, .slice fM aV.length fO] (by rfl) rfl rfl ?_
  with_reducible refine (PQ.calls 1 _ _ aV t103 _ ?iU ?iV A4.out).mono ?_
  (case iU => exact uY tC HB)
  (case iV => exact vS.out)
  rintro e O5 ⟨rfl, hb⟩
  refine ⟨_, rfl, ?_⟩
  replace aD := aI aD hb; replace HB := hbS HB hb; try clear hb
  refine hK.out _ _ ⟨gK aD 0, gK aD 1, gK aD 2, gK aD 3⟩ (fun hHeld => ?_)
  clear hK K
  refine xP 12 ?_
  refine sN (i := 6) (N := some 16) (bA 18 13183) rfl rfl (NY gP.out (by kernel_rfl)) (by decide) (fun K hK => ?_)
  refine xO Tryz.func36 (by kernel_rfl) rfl #[.int .i64 2, .int .u64 (IntKind.u64.wrap (aT))] (by rfl) rfl rfl ?_
  with_reducible refine (JL.calls 2 (IntKind.u64.wrap (aT)) t104 _ A5.out).mono ?_
  rintro e w16 ⟨rfl, hb⟩
  refine ⟨_, rfl, ?_⟩
  replace aD := aI aD hb; replace HB := hbS HB hb; try clear hb
  refine hK.out _ _ ⟨gK aD 0, gK aD 1, gK aD 2, gK aD 3⟩ (fun hHeld => ?_)
  clear hK K
  refine xP 16 ?_
  refine mH (i := 7) (N := some 17) (bA 18 13311) gP ?_
  refine sN (i := 10) (N := some 20) (bA 18 14335) rfl rfl (NY gP.out (by kernel_rfl)) (by decide) (fun K hK => ?_)
  refine xO Tryz.func37 (by kernel_rfl) rfl #[.int .i64 8, .string aY] (by rfl) rfl rfl ?_
  with_reducible refine (y9.calls 8 aY t105 _ A7.out).mono ?_
  rintro e qI ⟨rfl, hb⟩
  refine ⟨_, rfl, ?_⟩
  replace aD := aI aD hb; replace HB := hbS HB hb; try clear hb
  refine hK.out _ _ ⟨gK aD 0, gK aD 1, gK aD 2, gK aD 3⟩ (fun hHeld => ?_)
  clear hK K
  refine xP 20 ?_
  refine mH (i := 11) (N := some 21) (bA 18 16383) gP ?_
  refine sN (i := 14) (N := some 24) (bA 18 32767) rfl rfl (NY gP.out (by kernel_rfl)) (by decide) (fun K hK => ?_)
  refine xO Tryz.func37 (by kernel_rfl) rfl #[.int .i64 9, .string bC] (by rfl) rfl rfl ?_
  with_reducible refine (y9.calls 9 bC t106 _ A9.out).mono ?_
  rintro e _t ⟨rfl, hb⟩
  refine ⟨_, rfl, ?_⟩
  replace aD := aI aD hb; replace HB := hbS HB hb; try clear hb
  refine hK.out _ _ ⟨gK aD 0, gK aD 1, gK aD 2, gK aD 3⟩ (fun hHeld => ?_)
  clear hK K
  refine xP 24 ?_
  refine mH (i := 15) (N := some 25) (bA 18 65535) gP ?_
  refine mH (i := 16) (N := some 2) (bA 18 131071) gP ?_
  refine mH (i := 17) (N := some 3) (bA 18 262143) gP ?_
  refine FL (X3 gP.out (by kernel_rfl)) ?_
  try go_wp2
  go_ret2
  exact ⟨eH, aJ HB⟩
 ·
  rw [iN c3] at H; have gL := beq_eq_false_iff_ne.mpr c3; have rW := bne_iff_ne.mpr c3
  simp only [Option.some.injEq, Prod.mk.injEq] at H
  obtain ⟨rfl, rfl⟩ := H
  go_enter Tryz.func12, Tryz.ntmps12
  go_wp2_with (first | ((with_reducible refine cK (N := 1) rfl ?_); refine dB (N := 1) (cs := #[.string aY, .int .i64 aT, .slice fM aV.length fO, .string bC]) (t := 33) ?_; intro dG hg qY aG hb; have aD := aA aG; have lV := bB HB hg; have lU := bB HB hg; replace HB := hbS HB hb; clear hb aG hg; obtain ⟨EU, EW, H8, IA⟩ := aN aD; have EX := fz aD 0; have EY := fz aD 1; have IB := fz aD 2; have IC := fz aD 3) | ((with_reducible refine dJ (f := 34) rfl ?_); refine dV (some 6) rfl rfl Tryz.func34 (by kernel_rfl) rfl #[.agg #[.string aY, .int .i64 aT, .slice fM aV.length fO, .string bC]] rfl ?_; (with_reducible refine (xQ.calls aY aT _ _ aV bC t102 _ ?iU ?iV A2.out).mono ?_); (case iU => exact uY tC HB); (case iV => exact vS.out); rintro e oG ⟨rfl, hb⟩; refine ⟨_, rfl, ?_⟩; replace aD := aI aD hb; replace HB := hbS HB hb; (try clear hb)))
  go_ret2
  exact ⟨eH, aJ HB⟩
def yZ.j0 : Nat → Int → Bool → Option (Int)
 | 0, _, _ => none
 | k + 1, x3, x6 => if x6 = true then (some 1) else (if x3 = 7 then (some 8) else (if x3 = 14 then (some 8) else (some 0)))
def yZ.f (k : Nat) (a0 : Int) : Option (Int) := if a0 = 1 then (some 4) else (if a0 = 2 then (yZ.j0 k a0 (a0 == 2)) else (yZ.j0 k a0 (a0 == 9)))
theorem yZ.calls (k : Nat) (a0 : Int) (r : Int) (w : World) (h : yZ.f k a0 = some r) :
 Calls Tryz.prog 29 #[.int .i64 a0] w fun e w' => e = .returned (.int .i64 r) ∧ fG w w' := by
 have H : (if a0 = 1 then (some 4) else (if a0 = 2 then (yZ.j0 k a0 (a0 == 2)) else (yZ.j0 k a0 (a0 == 9)))) = some r := h; clear h
 by_cases c2 : a0 = 1
 · rw [ip c2] at H
   obtain ⟨iZ, nZ⟩ := dH c2; clear c2; obtain rfl := Option.some.inj H
   go_enter Tryz.func29, Tryz.ntmps29
   go_wp2
   go_ret
   exact dW
 · rw [iN c2] at H
   have iZ := beq_eq_false_iff_ne.mpr c2; have nZ := bne_iff_ne.mpr c2; have yI := aA H; clear H
   go_enter Tryz.func29, Tryz.ntmps29
   go_upto_if 6 with (fail)
   go_cut [6] (fun v6 wc => ∃ (kq : Nat) (rM : Bool), v6 = .bool rM ∧ aC (yZ.j0 kq a0 rM = some r) ∧ aC (kq ≤ k) ∧ fG w wc)
   case first =>
    have H := yI.out; clear yI
    by_cases c4 : a0 = 2
    · rw [ip c4] at H
      obtain ⟨fP, oN⟩ := dH c4; clear c4
      (first | rw [fP] | (simp only [dC, iC]; rw [fP]) | skip)
      have H' := aA H; clear H
      go_wp2
      go_meet
      case rel => exact ⟨_, ((a0 == 2)), aZ, H', qX, dr⟩
    · rw [iN c4] at H
      have fP := beq_eq_false_iff_ne.mpr c4; have oN := bne_iff_ne.mpr c4
      (first | rw [fP] | (simp only [dC, iC]; rw [fP]) | skip)
      have H' := aA H; clear H
      go_wp2
      go_meet
      case rel => exact ⟨_, ((a0 == 9)), aZ, H', qX, dr⟩
   case rest =>
    clear yI; try clear c2
    try clear iZ
    try clear nZ
    obtain ⟨kq, rM, rfl, HA, HJ2, ⟨mc2, rfl⟩⟩ := hcut
    cases kq with
    | zero => exact absurd HA.out (by simp [yZ.j0])
    | succ DL =>
     have H := HA.out; clear HA
     simp only [yZ.j0] at H
     by_cases c5 : rM = true
     · subst c5
       have H1 : (some 1) = some r := by rw [ip rfl] at H; exact H
       clear H; have H := H1; clear H1; obtain rfl := Option.some.inj H
       go_wp2
       go_ret
       exact dW
     · replace c5 := Bool.eq_false_iff.mpr c5
       subst c5; have H1 : (if a0 = 7 then (some 8) else (if a0 = 14 then (some 8) else (some 0))) = some r := by rw [iN (show ¬ (false = true) by decide)] at H; exact H
       clear H; have H := H1; clear H1
       by_cases c6 : a0 = 7
       · rw [ip c6] at H
         obtain ⟨kP, wD⟩ := dH c6; clear c6; obtain rfl := Option.some.inj H
         go_wp2
         go_ret
         exact dW
       · rw [iN c6] at H
         have kP := beq_eq_false_iff_ne.mpr c6; have wD := bne_iff_ne.mpr c6
         by_cases c7 : a0 = 14
         · rw [ip c7] at H
           obtain ⟨nA, zP⟩ := dH c7; clear c7; obtain rfl := Option.some.inj H
           go_wp2
           go_ret
           exact dW
         · rw [iN c7] at H
           have nA := beq_eq_false_iff_ne.mpr c7; have zP := bne_iff_ne.mpr c7; obtain rfl := Option.some.inj H
           go_wp2
           go_ret
           exact dW
def xR.f (a0 : Int) : Option Int := some (gF a0)
theorem xR.ev (a0 : Int) (r) (h : xR.f a0 = some r) : ∃ k, yZ.f k a0 = some r := by
 refine ⟨1, ?_⟩
 rw [← h]
 unfold xR.f yZ.f gF
 by_cases h1 : a0 = 1
 · rw [ip h1, ip h1]
 rw [iN h1, iN h1]
 by_cases h2 : a0 = 2
 · subst h2; rfl
 rw [iN h2, iN h2]
 simp only [yZ.j0]
 by_cases h9 : a0 = 9
 · subst h9; rfl
 rw [iN (by simpa using h9), iN h9]
 by_cases h7 : a0 = 7
 · rw [ip h7, ip h7]
 rw [iN h7, iN h7]
 by_cases sO : a0 = 14
 · rw [ip sO, ip sO]
 rw [iN sO, iN sO]
theorem xR.calls (a0 : Int) (r : Int) (w : World) (h : xR.f a0 = some r) :
 Calls Tryz.prog 29 #[.int .i64 a0] w fun e w' => e = .returned (.int .i64 r) ∧ fG w w' := by
 obtain ⟨k, hk⟩ := xR.ev a0 _ h
 exact yZ.calls k a0 r w hk
section
mutual
def iT.l0 : Nat → List Int → Bool → Bool → Int → Option (Int × Int)
 | 0, _, _, _, _ => none
 | k + 1, x0, x4, x5, x6 => if x6 < (x0.length : Int) then (if 0 ≤ x6 then (if (rd x0 x6) < 0 then (some (0, 6)) else (if x4 = true then (if x5 = true then (iT.l0 k x0 true true (wrap64 (x6 + 1))) else (iT.l0 k x0 true ((rd x0 x6) == 0) (wrap64 (x6 + 1)))) else (if x5 = true then (iT.l0 k x0 (decide ((rd x0 x6) > 65536)) true (wrap64 (x6 + 1))) else (iT.l0 k x0 (decide ((rd x0 x6) > 65536)) ((rd x0 x6) == 0) (wrap64 (x6 + 1)))))) else (none)) else (if x4 = true then (some (0, 7)) else (iT.l1 k x0 x5 1 0))
def iT.l1 : Nat → List Int → Bool → Int → Int → Option (Int × Int)
 | 0, _, _, _, _ => none
 | k + 1, x0, x5, x7, x8 => if x8 < (x0.length : Int) then (iT.j2 k x0 x5 x7 x8 (!x5)) else (iT.j2 k x0 x5 x7 x8 false)
def iT.j2 : Nat → List Int → Bool → Int → Int → Bool → Option (Int × Int)
 | 0, _, _, _, _, _ => none
 | k + 1, x0, x5, x7, x8, x47 => if x47 = true then (if 0 ≤ x8 then (if x8 < (x0.length : Int) then (if (wrap64 (x7 * (rd x0 x8))) > 65536 then (some (0, 7)) else (iT.l1 k x0 x5 (wrap64 (x7 * (rd x0 x8))) (wrap64 (x8 + 1)))) else (none)) else (none)) else (if x5 = true then (some (0, 0)) else (some (x7, 0)))
end
def iT.f (k : Nat) (l0 : List Int) : Option (Int × Int) := if (l0.length : Int) > 8 then (some (0, 6)) else (iT.l0 k l0 false false 0)
theorem iT.calls (k : Nat) (A0 : Option Addr) (c0 : Nat) (l0 : List Int) (r1 : Int) (r2 : Int) (w : World) (hr0 : Kd.C (Kd.int .i64) w A0 l0.length l0) (hc0 : l0.length ≤ c0) (h : iT.f k l0 = some (r1, r2)) :
 Calls Tryz.prog 30 #[.slice A0 l0.length c0] w fun e w' => e = .returned (.tuple #[.int .i64 r1, .int .i64 r2]) ∧ fG w w' := by
 have fF := aA hr0; have oO := aA hc0; clear hr0 hc0; have H : (if (l0.length : Int) > 8 then (some (0, 6)) else (iT.l0 k l0 false false 0)) = some (r1, r2) := h; clear h
 by_cases c2 : (l0.length : Int) > 8
 ·
  rw [ip c2] at H; have iZ := dT c2; have nZ : decide (8 < l0.length) = true := dT (by omega); clear c2
  simp only [Option.some.injEq, Prod.mk.injEq] at H
  obtain ⟨rfl, rfl⟩ := H
  go_enter Tryz.func30, Tryz.ntmps30
  go_wp2
  go_ret2
  exact dW
 ·
  rw [iN c2] at H; have iZ := dF c2; have nZ : decide (8 < l0.length) = false := dF (by omega); clear c2; have H' := aA H; clear H
  go_enter Tryz.func30, Tryz.ntmps30
  go_wp2
  go_loopg [4, 5, 6] k (fun kq v4 v5 v6 w' => ∃ (dN : Bool) (eU : Bool) (bH : Int), v4 = .bool dN ∧ v5 = .bool eU ∧ v6 = .int .i64 bH ∧ aC (iT.l0 kq l0 dN eU bH = some (r1, r2)) ∧ aC (kq ≤ k) ∧ fG w w')
  case atStart => exact ⟨(false), (false), (0), aZ, aZ, aZ, H', ⟨Nat.le_refl _⟩, dr⟩
  case round =>
   clear H'; try clear c2; try clear iZ; try clear nZ
   obtain ⟨dN, eU, bH, rfl, rfl, rfl, HA, bD, ⟨m1, rfl⟩⟩ := hrel
   cases gk with
   | zero => exact absurd HA.out (by simp [iT.l0])
   | succ k1 =>
    have H := HA.out; clear HA
    simp only [iT.l0] at H
    by_cases c3 : bH < (l0.length : Int)
    ·
     rw [ip c3] at H; have gL := dT c3; clear c3; replace H := dU H; obtain ⟨c4, H⟩ := H; have fP := dT c4; clear c4
     by_cases c5 : (rd l0 bH) < 0
     ·
      rw [ip c5] at H; have iH := dT c5; clear c5
      simp only [Option.some.injEq, Prod.mk.injEq] at H
      obtain ⟨rfl, rfl⟩ := H; have dL : 0 ≤ (bH : Int) := aK; have dM : bH < (l0.length : Int) := aK; obtain ⟨lD, iM, gD⟩ := Kd.kN fF.out bH dL dM; cases iM; replace dL := eT dL; replace dM := eT dM
      go_wp2
      go_ret2
      exact dW
     ·
      rw [iN c5] at H; have iH := dF c5; clear c5
      by_cases c6 : dN = true
      ·
       subst c6; have H1 : (if eU = true then (iT.l0 k1 l0 true true (wrap64 (bH + 1))) else (iT.l0 k1 l0 true ((rd l0 bH) == 0) (wrap64 (bH + 1)))) = some (r1, r2) := by rw [ip rfl] at H; exact H
       clear H; have H := H1; clear H1
       by_cases c7 : eU = true
       ·
        subst c7; have H1 : (iT.l0 k1 l0 true true (wrap64 (bH + 1))) = some (r1, r2) := by rw [ip rfl] at H; exact H
        clear H; have H := H1; clear H1; have H' := aA H; clear H; have dL : 0 ≤ (bH : Int) := aK; have dM : bH < (l0.length : Int) := aK; obtain ⟨lD, iM, gD⟩ := Kd.kN fF.out bH dL dM; cases iM; replace dL := eT dL; replace dM := eT dM
        go_wp2
        go_roundg k1
        case measure => have := bD.out; omega
        case rel => exact ⟨(true), (true), (wrap64 (bH + 1)), aZ, aZ, aZ, H', iK bD, dr⟩
       ·
        replace c7 := Bool.eq_false_iff.mpr c7; subst c7; have H1 : (iT.l0 k1 l0 true ((rd l0 bH) == 0) (wrap64 (bH + 1))) = some (r1, r2) := by rw [iN (show ¬ (false = true) by decide)] at H; exact H
        clear H; have H := H1; clear H1; have H' := aA H; clear H; have dL : 0 ≤ (bH : Int) := aK; have dM : bH < (l0.length : Int) := aK; obtain ⟨lD, iM, gD⟩ := Kd.kN fF.out bH dL dM; cases iM; replace dL := eT dL; replace dM := eT dM; have jO : 0 ≤ (bH : Int) := aK; have jP : bH < (l0.length : Int) := aK; obtain ⟨vT, qU, rQ⟩ := Kd.kN fF.out bH jO jP; obtain rfl : lD = vT := (by injection qU); replace jO := eT jO; replace jP := eT jP
        go_wp2
        go_roundg k1
        case measure => have := bD.out; omega
        case rel => exact ⟨(true), (((rd l0 bH) == 0)), (wrap64 (bH + 1)), aZ, aZ, aZ, H', iK bD, dr⟩
      ·
       replace c6 := Bool.eq_false_iff.mpr c6; subst c6; have H1 : (if eU = true then (iT.l0 k1 l0 (decide ((rd l0 bH) > 65536)) true (wrap64 (bH + 1))) else (iT.l0 k1 l0 (decide ((rd l0 bH) > 65536)) ((rd l0 bH) == 0) (wrap64 (bH + 1)))) = some (r1, r2) := by rw [iN (show ¬ (false = true) by decide)] at H; exact H
       clear H; have H := H1; clear H1
       by_cases c8 : eU = true
       ·
        subst c8; have H1 : (iT.l0 k1 l0 (decide ((rd l0 bH) > 65536)) true (wrap64 (bH + 1))) = some (r1, r2) := by rw [ip rfl] at H; exact H
        clear H; have H := H1; clear H1; have H' := aA H; clear H; have dL : 0 ≤ (bH : Int) := aK; have dM : bH < (l0.length : Int) := aK; obtain ⟨lD, iM, gD⟩ := Kd.kN fF.out bH dL dM; cases iM; replace dL := eT dL; replace dM := eT dM; have j6 : 0 ≤ (bH : Int) := aK; have kC : bH < (l0.length : Int) := aK; obtain ⟨uN, rY, uI⟩ := Kd.kN fF.out bH j6 kC; obtain rfl : lD = uN := (by injection rY); replace j6 := eT j6; replace kC := eT kC
        go_wp2
        go_roundg k1
        case measure => have := bD.out; omega
        case rel => exact ⟨(decide ((rd l0 bH) > 65536)), (true), (wrap64 (bH + 1)), aZ, aZ, aZ, H', iK bD, dr⟩
       ·
        replace c8 := Bool.eq_false_iff.mpr c8; subst c8; have H1 : (iT.l0 k1 l0 (decide ((rd l0 bH) > 65536)) ((rd l0 bH) == 0) (wrap64 (bH + 1))) = some (r1, r2) := by rw [iN (show ¬ (false = true) by decide)] at H; exact H
        clear H; have H := H1; clear H1; have H' := aA H; clear H; have dL : 0 ≤ (bH : Int) := aK; have dM : bH < (l0.length : Int) := aK; obtain ⟨lD, iM, gD⟩ := Kd.kN fF.out bH dL dM; cases iM; replace dL := eT dL; replace dM := eT dM; have j6 : 0 ≤ (bH : Int) := aK; have kC : bH < (l0.length : Int) := aK; obtain ⟨uN, rY, uI⟩ := Kd.kN fF.out bH j6 kC; obtain rfl : lD = uN := (by injection rY); replace j6 := eT j6; replace kC := eT kC; have jC : 0 ≤ (bH : Int) := aK; have jD : bH < (l0.length : Int) := aK; obtain ⟨uO, pV, uJ⟩ := Kd.kN fF.out bH jC jD; obtain rfl : lD = uO := (by injection pV); replace jC := eT jC; replace jD := eT jD
        go_wp2
        go_roundg k1
        case measure => have := bD.out; omega
        case rel => exact ⟨(decide ((rd l0 bH) > 65536)), (((rd l0 bH) == 0)), (wrap64 (bH + 1)), aZ, aZ, aZ, H', iK bD, dr⟩
    ·
     rw [iN c3] at H; have gL := dF c3; clear c3
     by_cases c9 : dN = true
     ·
      subst c9; have H1 : (some (0, 7)) = some (r1, r2) := by rw [ip rfl] at H; exact H
      clear H; have H := H1; clear H1
      simp only [Option.some.injEq, Prod.mk.injEq] at H
      obtain ⟨rfl, rfl⟩ := H
      go_wp2
      go_ret2
      exact dW
     ·
      replace c9 := Bool.eq_false_iff.mpr c9; subst c9; have H1 : (iT.l1 k1 l0 eU 1 0) = some (r1, r2) := by rw [iN (show ¬ (false = true) by decide)] at H; exact H
      clear H; have H := H1; clear H1; have H' := aA H; clear H
      go_wp2
      go_loopg [7, 8] k1 (fun kq v7 v8 w' => ∃ (qV : Int) (tZ : Int), v7 = .int .i64 qV ∧ v8 = .int .i64 tZ ∧ aC (iT.l1 kq l0 eU qV tZ = some (r1, r2)) ∧ aC (kq ≤ k1) ∧ fG w w')
      case atStart => exact ⟨(1), (0), aZ, aZ, H', ⟨Nat.le_refl _⟩, dr⟩
      case round =>
       clear H'; obtain ⟨qV, tZ, rfl, rfl, HA, nO, ⟨m2, rfl⟩⟩ := hrel
       cases gk with
       | zero => exact absurd HA.out (by simp [iT.l1])
       | succ k2 =>
        have H := HA.out; clear HA
        simp only [iT.l1] at H
        have qm := aA H; clear H
        go_upto_region 15 with (fail)
        go_cut [47] (fun v47 wc => ∃ (kq : Nat) (ZW : Bool), v47 = .bool ZW ∧ aC (iT.j2 kq l0 eU qV tZ ZW = some (r1, r2)) ∧ aC (kq ≤ k2) ∧ fG w wc)
        case first =>
         have H := qm.out; clear qm
         by_cases c11 : tZ < (l0.length : Int)
         ·
          rw [ip c11] at H; have nJ := dT c11; clear c11
          (first | rw [nJ] | (simp only [dC, iC]; rw [nJ]) | skip)
          have H' := aA H; clear H
          go_wp2
          go_meet
          case rel => exact ⟨_, (!eU), aZ, H', ⟨by have := bD.out; have := nO.out; first | omega | exact Nat.le_refl _⟩, dr⟩
         ·
          rw [iN c11] at H; have nJ := dF c11; clear c11
          (first | rw [nJ] | (simp only [dC, iC]; rw [nJ]) | skip)
          have H' := aA H; clear H
          go_wp2
          go_meet
          case rel => exact ⟨_, (false), aZ, H', ⟨by have := bD.out; have := nO.out; first | omega | exact Nat.le_refl _⟩, dr⟩
        case rest =>
         clear qm; try clear c2; try clear iZ; try clear nZ; try clear c3; try clear gL; try clear c9
         obtain ⟨kq, ZW, rfl, HA, Pz, ⟨mc9, rfl⟩⟩ := hcut
         cases kq with
         | zero => exact absurd HA.out (by simp [iT.j2])
         | succ Ro =>
          have H := HA.out; clear HA
          simp only [iT.j2] at H
          by_cases c12 : ZW = true
          ·
           subst c12; have H1 : (if 0 ≤ tZ then (if tZ < (l0.length : Int) then (if (wrap64 (qV * (rd l0 tZ))) > 65536 then (some (0, 7)) else (iT.l1 Ro l0 eU (wrap64 (qV * (rd l0 tZ))) (wrap64 (tZ + 1)))) else (none)) else (none)) = some (r1, r2) := by rw [ip rfl] at H; exact H
           clear H; have H := H1; clear H1; replace H := dU H; obtain ⟨c13, H⟩ := H; have vU := dT c13; clear c13; replace H := dU H; obtain ⟨c14, H⟩ := H; have yB := dT c14; clear c14
           by_cases c15 : (wrap64 (qV * (rd l0 tZ))) > 65536
           ·
            rw [ip c15] at H; have qP := dT c15; clear c15
            simp only [Option.some.injEq, Prod.mk.injEq] at H
            obtain ⟨rfl, rfl⟩ := H; have tT : 0 ≤ (tZ : Int) := aK; have tV : tZ < (l0.length : Int) := aK; obtain ⟨Y8, J9, YL⟩ := Kd.kN fF.out tZ tT tV; cases J9; replace tT := eT tT; replace tV := eT tV
            go_wp2
            go_ret2
            exact dW
           ·
            rw [iN c15] at H; have qP := dF c15; clear c15; have H' := aA H; clear H; have tT : 0 ≤ (tZ : Int) := aK; have tV : tZ < (l0.length : Int) := aK; obtain ⟨Y8, J9, YL⟩ := Kd.kN fF.out tZ tT tV; cases J9; replace tT := eT tT; replace tV := eT tV
            go_wp2
            go_roundg Ro
            case measure => have := bD.out; have := nO.out; have := Pz.out; omega
            case rel => exact ⟨(wrap64 (qV * (rd l0 tZ))), (wrap64 (tZ + 1)), aZ, aZ, H', ⟨by have := bD.out; have := nO.out; have := Pz.out; omega⟩, dr⟩
          ·
           replace c12 := Bool.eq_false_iff.mpr c12; subst c12; have H1 : (if eU = true then (some (0, 0)) else (some (qV, 0))) = some (r1, r2) := by rw [iN (show ¬ (false = true) by decide)] at H; exact H
           clear H; have H := H1; clear H1
           by_cases c16 : eU = true
           ·
            subst c16; have H1 : (some (0, 0)) = some (r1, r2) := by rw [ip rfl] at H; exact H
            clear H; have H := H1; clear H1
            simp only [Option.some.injEq, Prod.mk.injEq] at H
            obtain ⟨rfl, rfl⟩ := H
            go_wp2
            go_ret2
            exact dW
           ·
            replace c16 := Bool.eq_false_iff.mpr c16; subst c16; have H1 : (some (qV, 0)) = some (r1, r2) := by rw [iN (show ¬ (false = true) by decide)] at H; exact H
            clear H; have H := H1; clear H1
            simp only [Option.some.injEq, Prod.mk.injEq] at H
            obtain ⟨rfl, rfl⟩ := H
            go_wp2
            go_ret2
            exact dW
end
end Go.Proofs.YtgmggompdidcoaaGreatDoor.X
