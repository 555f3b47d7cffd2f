import Derived.Test.YtgmggompdidcoaaGreatDoorMPbtensorReads21
import Derived.Test.YtgmggompdidcoaaGreatDoorMPbtensorReads19
namespace Go.Proofs.YtgmggompdidcoaaGreatDoor.X
open Go.RowKit Go.Proofs.YtgmggompdidcoaaGreatDoorW.aX Go.Proofs.YtgmggompdidcoaaGreatDoorW.bJ Go.Proofs.YtgmggompdidcoaaGreatDoorW.bK
attribute [local go_sem] bO bQ bS bU bM bN bP bR
set_option linter.unusedVariables false
set_option linter.unusedSimpArgs false
set_option maxHeartbeats 8000000
set_option maxRecDepth 100000
def JI.f (l0 : List (dP)) (a1 : Int) : Option (List ByteArray × Int) := if l0.length ≤ 3518437208883 then some ((vR ((l0.filter fun x => x.f0 == a1).map uX) []).1, ((vR ((l0.filter fun x => x.f0 == a1).map uX) []).2 : Int)) else none
theorem Uw (l : List (dP)) (a1 : Int) (hl : l.length ≤ 3518437208883) (d : Nat) : ∀ (i : Nat) (out : List ByteArray), l.length - i = d → i ≤ l.length → out.length ≤ i →
 ∃ k, mE.l0 k l a1 out i = some ((vR (((l.drop i).filter fun x => x.f0 == a1).map uX) out).1, ((vR (((l.drop i).filter fun x => x.f0 == a1).map uX) out).2 : Int)) := by
 induction d with
 | zero =>
  intro i out hd hi ho
  refine ⟨1, ?_⟩
  rw [mE.l0, iN (by omega), List.drop_of_length_le (by omega)]
  rfl
 | succ d ih =>
  intro i out hd hi ho
  have h0 : i < l.length := by omega
  have ew : wrap64 ((i : Int) + 1) = ((i + 1 : Nat) : Int) := by rw [fC (by omega) (by omega)]; omega
  have step : ∀ k, mE.l0 (k + 1) l a1 out i = if l[i].f0 = a1 then mE.j1 k l a1 out i (l[i].f1 != 2) else mE.j1 k l a1 out i false := by
   intro k
   rw [mE.l0, ip (by omega), ip (by omega)]
   simp only [Bh l i h0]
  have step2 : ∀ k, mE.j1 (k + 1) l a1 out i false = if l[i].f0 = a1 then mE.l0 k l a1 (out ++ [l[i].f3]) (wrap64 ((i : Int) + 1)) else mE.l0 k l a1 out (wrap64 ((i : Int) + 1)) := by
   intro k
   rw [mE.j1, iN (by decide), ip (by omega), ip (by omega)]
   simp only [Bh l i h0]
   by_cases hx : l[i].f0 = a1
   · rw [ip hx, ip hx, ip (by omega)]
   · rw [iN hx, iN hx]
  rw [List.drop_eq_getElem_cons h0]
  generalize l[i] = x at *
  by_cases hx : x.f0 = a1
  · rw [List.filter_cons_of_pos (by simp [hx]), List.map_cons, vR]
    by_cases t2 : x.f1 = 2
    · rw [ip (show (uX x).2.1 = 2 from t2)]
      obtain ⟨k, hk⟩ := ih (i + 1) (out ++ [x.f3]) (by omega) (by omega) (by simp; omega)
      exact ⟨k + 2, by rw [step (k + 1), ip hx, show (x.f1 != 2) = false by simp [t2], step2 k, ip hx, ew]; exact hk⟩
    · rw [iN (show ¬ (uX x).2.1 = 2 from t2)]
      refine ⟨2, ?_⟩
      rw [step 1, ip hx, mE.j1, ip (by simp [t2])]; rfl
  · rw [List.filter_cons_of_neg (by simp [hx])]
    obtain ⟨k, hk⟩ := ih (i + 1) out (by omega) (by omega) (by omega)
    exact ⟨k + 2, by rw [step (k + 1), iN hx, step2 k, iN hx, ew]; exact hk⟩
theorem JI.ev (l0 : List (dP)) (a1 : Int) (r) (h : JI.f l0 a1 = some r) : ∃ k, mE.f k l0 a1 = some r := by
 unfold JI.f at h
 split at h
 · rename_i hs
   rw [← h]
   exact Uw l0 a1 hs l0.length 0 [] (by omega) (by omega) (by simp)
 · cases h
theorem JI.calls (A0 : Option Addr) (c0 : Nat) (l0 : List (dP)) (a1 : Int) (r1 : List ByteArray) (r2 : Int) (w : World) (hr0 : Kd.C oF w A0 l0.length l0) (hc0 : l0.length ≤ c0) (h : JI.f l0 a1 = some (r1, r2)) :
 Calls Tryz.prog 27 #[.slice A0 l0.length c0, .int .i64 a1] w fun e w' => ∃ gW : Value, e = .returned (.tuple #[gW, .int .i64 r2]) ∧ Kd.R Kd.string 9 w' w.heap.size (fun _ => True) gW r1 ∧ Below w.heap.size w w' := by
 obtain ⟨k, hk⟩ := JI.ev l0 a1 _ h
 exact mE.calls k A0 c0 l0 a1 r1 r2 w hr0 hc0 hk
def wQ.l0 : Nat → ByteArray → Int → Int → Option (ByteArray)
 | 0, _, _, _ => none
 | k + 1, x3, x4, x5 => if x5 < 8 then ((some (([(Int.tmod x4 256) % 256] : List Int) : List Int)).bind fun y101 => (if x3.size + (strOfNums y101).size ≤ 9223372036854775807 then (wQ.l0 k (x3 ++ (strOfNums y101)) (IntKind.u64.wrap (Int.tdiv x4 256)) (wrap64 (x5 + 1))) else (none))) else (some x3)
def wQ.f (k : Nat) (a0 : Int) : Option (ByteArray) := wQ.l0 k (⟨#[]⟩ : ByteArray) (IntKind.u64.wrap (a0)) 0
theorem wQ.calls (k : Nat) (a0 : Int) (r : ByteArray) (w : World) (h : wQ.f k a0 = some r) :
 Calls Tryz.prog 32 #[.int .i64 a0] w fun e w' => e = .returned (.string r) ∧ Below w.heap.size w w' := by
 have HB := aA (Below.refl w.heap.size w); have H : (wQ.l0 k (⟨#[]⟩ : ByteArray) (IntKind.u64.wrap (a0)) 0) = some r := h; clear h; have H' := aA H; clear H
 go_enter Tryz.func32, Tryz.ntmps32
 go_wp2
 go_loopg [3, 4, 5] k (fun kq v3 v4 v5 w' => ∃ (eG : ByteArray) (dN : Int) (eU : Int), v3 = .string eG ∧ v4 = .int .u64 dN ∧ v5 = .int .i64 eU ∧ aC (wQ.l0 kq eG dN eU = some r) ∧ aC (kq ≤ k) ∧ aC (Below w.heap.size w w'))
 case atStart => exact ⟨((⟨#[]⟩ : ByteArray)), (IntKind.u64.wrap (a0)), (0), aZ, aZ, aZ, H', ⟨Nat.le_refl _⟩, ⟨aJ HB⟩⟩
 case round =>
  clear H'; obtain ⟨eG, dN, eU, rfl, rfl, rfl, HA, bD, HB⟩ := hrel
  cases gk with
  | zero => exact absurd HA.out (by simp [wQ.l0])
  | succ k1 =>
   have H := HA.out; clear HA
   simp only [wQ.l0] at H
   by_cases c2 : eU < 8
   · rw [ip c2] at H
     have iZ := dT c2; clear c2; obtain ⟨y101, hy101⟩ : ∃ y_ : List Int, y_ = (([(Int.tmod dN 256) % 256] : List Int)) := ⟨_, rfl⟩; replace H : (if eG.size + (strOfNums y101).size ≤ 9223372036854775807 then (wQ.l0 k1 (eG ++ (strOfNums y101)) (IntKind.u64.wrap (Int.tdiv dN 256)) (wrap64 (eU + 1))) else (none)) = some r := by first | (rw [hy101]; with_reducible exact H) | (have fI := (Option.bind_some _ _).symm.trans H; rw [hy101]; with_reducible exact fI) | (have fI := (Option.bind_some _ _).symm.trans H; with_reducible exact fI) | with_reducible exact H | (rw [hy101]; exact H) | exact H
     have AX := aA hy101; clear hy101
     by_cases c3 : eG.size + (strOfNums y101).size ≤ 9223372036854775807
     · rw [ip c3] at H
       have gL := eT c3; have rW := dT c3; try have Z7 := eq_false (Nat.not_lt.2 c3)
       try have aEO := Z7
       try simp only [ByteArray.size_append] at aEO
       have H' := aA H; clear H
       go_wp2_with (first | ((with_reducible refine cK (N := 16) rfl ?_); refine Kd.QF (Kd.int .u8) _ 5 ?hg (N := 16) ?hd (xs := ([(Int.tmod dN 256) % 256] : List Int)) (inner := [.int .u8 ((Int.tmod dN 256) % 256)]) (ok := fun _ => True) (qC := fun _ => True) ?hr ?hp (fun _ hk => hk) trivial (Below.refl _ _) (Nat.le_refl _) (by simp) ?_; (case hd => rfl); (case hg => rfl); (case hr => first | (go_simp; done) | (go_simp; rfl)); (case hp => exact (jI.one (show Kd.M (Kd.int .u8) _ _ _ ((Int.tmod dN 256) % 256) [.int .u8 ((Int.tmod dN 256) % 256)] from rfl) (jI.none _ _))); intro KC w4 V8 hb F9 FP; clear F9 FP; (first | rw [← AX.out] at V8 | (simp only [Int.reduceToNat] at V8; rw [← AX.out] at V8)); have jN := aA (Kd.nV V8 (iI (aJ HB))); replace HB := aA (jV (aJ HB) hb); clear hb V8; have aIT := XH (P := Tryz.prog) Tryz.underlying80 Tryz.underlying5 Tryz.underlying9 (Kd.XR jN.out)))
       go_roundg k1
       case measure => have := bD.out; omega
       case rel => exact ⟨(eG ++ (strOfNums y101)), (IntKind.u64.wrap (Int.tdiv dN 256)), (wrap64 (eU + 1)), aZ, aZ, aZ, H', iK bD, ⟨aJ HB⟩⟩
     · rw [iN c3] at H; exact uD H
   · rw [iN c2] at H
     have iZ := dF c2; clear c2; obtain rfl := Option.some.inj H
     go_wp2
     go_ret
     exact ⟨eH, aJ HB⟩
def ND.f (a0 : Int) : Option ByteArray := some (qF a0)
theorem Uq (n : Int) (v : Nat) (hv : IntKind.u64.wrap n = (v : Int)) : qF n = xB v 8 := by
 unfold qF xB pY
 rw [hv]
 rfl
theorem Su (v : Nat) (hv : v < 18446744073709551616) (d : Nat) : ∀ (k i : Nat), 8 - i = d → i ≤ 8 → d < k →
 wQ.l0 k (xB v i) ((v / 256 ^ i : Nat) : Int) (i : Int) = some (xB v 8) := by
 induction d with
 | zero =>
  intro k i hd hi hk
  obtain ⟨k, rfl⟩ : ∃ m, k = m + 1 := ⟨k - 1, by omega⟩
  obtain rfl : i = 8 := by omega
  simp only [wQ.l0]
  rw [iN (by omega)]
 | succ d ih =>
  intro k i hd hi hk
  obtain ⟨k, rfl⟩ : ∃ m, k = m + 1 := ⟨k - 1, by omega⟩
  simp only [wQ.l0]
  have hle : v / 256 ^ i ≤ v := Nat.div_le_self _ _
  have e1 : ([Int.tmod ((v / 256 ^ i : Nat) : Int) 256 % 256] : List Int) = [v / 256 ^ i % 256].map Int.ofNat := by
   rw [Int.tmod_eq_emod_of_nonneg (Int.natCast_nonneg _)]; simp
  have e2 : IntKind.u64.wrap (Int.tdiv ((v / 256 ^ i : Nat) : Int) 256) = ((v / 256 ^ (i + 1) : Nat) : Int) := by
   rw [Nat.pow_succ, ← Nat.div_div_eq_div_mul]
   exact aCC _ (by omega)
  rw [ip (by omega), e1, e2, Option.bind_some, ip (by rw [_I]; simp [strOfNums, ByteArray.size]; omega), fC (by omega) (by omega)]
  have := ih k (i + 1) (by omega) (by omega) (by omega)
  rw [show xB v (i + 1) = xB v i ++ strOfNums ([v / 256 ^ i % 256].map Int.ofNat) from by unfold xB; rw [Dx, List.map_append, Tj]] at this
  exact this
theorem ND.ev (a0 : Int) (r) (h : ND.f a0 = some r) : ∃ k, wQ.f k a0 = some r := by
 rw [← h]
 have h0 : 0 ≤ IntKind.u64.wrap a0 ∧ IntKind.u64.wrap a0 < 18446744073709551616 := by rw [LD]; omega
 obtain ⟨v, hv⟩ := Int.eq_ofNat_of_zero_le h0.1
 refine ⟨9, ?_⟩
 unfold wQ.f ND.f
 rw [Uq a0 v hv, hv]
 have := Su v (by omega) 8 9 0 (by omega) (by omega) (by omega)
 rw [Nat.pow_zero, Nat.div_one] at this
 exact this
theorem ND.calls (a0 : Int) (r : ByteArray) (w : World) (h : ND.f a0 = some r) :
 Calls Tryz.prog 32 #[.int .i64 a0] w fun e w' => e = .returned (.string r) ∧ Below w.heap.size w w' := by
 obtain ⟨k, hk⟩ := ND.ev a0 _ h
 exact wQ.calls k a0 r w hk
structure BQ (mm : List (ByteArray × ByteArray)) (v12 v13 v14 v15 v16 : Value) : Prop where
 a : v12 = .string ((fB mm qM).getD ⟨#[]⟩)
 b : v13 = .bool (fB mm qM).isSome
 c : v14 = .string ((fB mm rT).getD Q9)
 d : v15 = .string ((fB mm mX).getD ⟨#[]⟩)
 e : v16 = .bool (fB mm mX).isSome
theorem aA3 {a b : ByteArray} : (a == b) = true ↔ a = b := MapKept.bytes_beq a b
theorem Gg : qM.toList = ([108, 111, 99, 97, 116, 105, 111, 110] : List UInt8) := by rw [ByteArray.toList_eq]; rfl
theorem Gh : rT.toList = ([111, 102, 102, 115, 101, 116] : List UInt8) := by rw [ByteArray.toList_eq]; rfl
theorem Gf : mX.toList = ([108, 101, 110, 103, 116, 104] : List UInt8) := by rw [ByteArray.toList_eq]; rfl
theorem Np : (qM == rT) = false := by decide
theorem Nn : (qM == mX) = false := by decide
theorem aEn : (rT == mX) = false := by decide
theorem aDe : (rT == qM) = false := by decide
theorem Lp : (mX == qM) = false := by decide
theorem Lr : (mX == rT) = false := by decide
theorem SG (k v : ByteArray) (m : List (ByteArray × ByteArray)) : fB (kK m k v) k = some v := by rw [_8, ip ((MapKept.bytes_beq k k).2 rfl)]
theorem xW {k v q : ByteArray} {m : List (ByteArray × ByteArray)} (h : (q == k) = false) : fB (kK m k v) q = fB m q := by rw [_8, h]; rfl
theorem BQ.loc {mm : List (ByteArray × ByteArray)} {a b c d e : Value} (h : BQ mm a b c d e) (v : ByteArray) : BQ (kK mm qM v) (.string v) (.bool true) c d e :=
 ⟨by rw [SG]; rfl, by rw [SG]; rfl, by rw [xW aDe]; exact h.c, by rw [xW Lp]; exact h.d, by rw [xW Lp]; exact h.e⟩
theorem BQ.off {mm : List (ByteArray × ByteArray)} {a b c d e : Value} (h : BQ mm a b c d e) (v : ByteArray) : BQ (kK mm rT v) a b (.string v) d e :=
 ⟨by rw [xW Np]; exact h.a, by rw [xW Np]; exact h.b, by rw [SG]; rfl, by rw [xW Lr]; exact h.d, by rw [xW Lr]; exact h.e⟩
theorem BQ.len {mm : List (ByteArray × ByteArray)} {a b c d e : Value} (h : BQ mm a b c d e) (v : ByteArray) : BQ (kK mm mX v) a b c (.string v) (.bool true) :=
 ⟨by rw [xW Nn]; exact h.a, by rw [xW Nn]; exact h.b, by rw [xW aEn]; exact h.c, by rw [SG]; rfl, by rw [SG]; rfl⟩
theorem UG {a b : ByteArray} (h : ¬ a = b) : (b == a) = false := by
 cases hb : (b == a) with
 | false => rfl
 | true => exact absurd (aA3.1 hb).symm h
theorem BQ.no {mm : List (ByteArray × ByteArray)} {a b c d e : Value} (h : BQ mm a b c d e) {k : ByteArray} (v : ByteArray) (h1 : ¬ k = qM) (h2 : ¬ k = rT) (h3 : ¬ k = mX) : BQ (kK mm k v) a b c d e :=
 ⟨by rw [xW (UG h1)]; exact h.a, by rw [xW (UG h1)]; exact h.b, by rw [xW (UG h2)]; exact h.c, by rw [xW (UG h3)]; exact h.d, by rw [xW (UG h3)]; exact h.e⟩
theorem _Y (name : ByteArray) (kd : Int) (P : Nat → Prop) (A1 : Option Addr) (c1 : Nat) (bE : List Int) (data : ByteArray) (full : Bool) (A2 : Option Addr) (c2 : Nat) (ext : List ByteArray) (A3 : Option Addr) (c3 : Nat) (l : List jK) (need : Int) (w : World)
 (h1 : Kd.F (Kd.int .i64) w P A1 bE.length bE) (h1c : bE.length ≤ c1) (hx : Kd.C Kd.string w A2 ext.length ext) (hs : ∀ s ∈ ext, s.size ≤ 10000) (hl : Kd.C zX w A3 (iL l).length (iL l)) (hlc : (iL l).length ≤ c3) (hH : ql name need l) :
 Calls Tryz.prog 31 #[.agg #[.string name, .int .i64 kd, .slice A1 bE.length c1, .string data], .bool full, .slice A2 ext.length c2, .slice A3 (iL l).length c3, .int .i64 need] w (G7 w P (o6 name kd bE (zR full ext need (fV l)))) := by
 have jY := Tryz.underlying38
 have U9 := Tryz.underlying68
 have H1 := aA h1
 have yH := aA h1c
 have HX := aA hx
 have I_ := aA hs
 have HL := aA hl
 have mQ := aA hlc
 have ym := aA hx.2.1
 have HH := aA hH
 have HB := aC.mk (Below.refl w.heap.size w)
 obtain ⟨R, hR⟩ : ∃ R, o6 name kd bE (zR full ext need (fV l)) = R := ⟨_, rfl⟩
 rw [hR]
 have HR := aA hR.symm
 clear h1 h1c hx hs hl hlc hH hR
 go_enter Tryz.func31, Tryz.ntmps31
 cases full with
 | true =>
  have HR2 := aA (show R = (iJ, 19) from HR.out.trans (xX name kd bE (by decide)))
  clear HR
  go_wp2_with (first | ((with_reducible refine cK (N := 5) rfl ?_); refine dB (N := 5) (cs := #[.string name, .int .i64 kd, .slice A1 bE.length c1, .string data]) (t := 38) ?_; intro gt hg w1 aG hb; replace HB := hbS HB hb; clear hb aG hg) | ((with_reducible refine cK (N := 10) rfl ?_); refine dB (N := 10) (cs := #[.string ⟨#[]⟩, .int .i64 0, .slice none 0 0, .string ⟨#[]⟩]) (t := 38) ?_; intro gr hg w2 aG hb; have BR := aA aG; have GR := bB HB hg; replace HB := hbS HB hb; clear hb aG hg; obtain ⟨hr0, hr1, hr2, hr3⟩ := aN BR; have fJ := fz BR 0; have fQ := fz BR 1; have fT := fz BR 2; have fU := fz BR 3))
  refine bodyPost_ret (eP rfl _ _ gr 38 #[.string ⟨#[]⟩, .int .i64 0, .slice none 0 0, .string ⟨#[]⟩] (0, 0) _ rfl (aU BR) jY rfl (by kernel_rfl)) rfl ?_
  exact jH HR2.out (dR HB.out GR.out)
 | false =>
  obtain ⟨E, hE⟩ : ∃ E, o7 ext [] = E := ⟨_, rfl⟩
  have HR2 := aA (show R = o6 name kd bE (if E.2 ≠ 0 then (⟨#[]⟩, E.2) else rZ E.1 need (fV l)) from HR.out.trans (by unfold zR; rw [iN (by decide), hE]))
  have I7 := aA hE.symm
  clear HR hE
  go_wp2_with (first | ((with_reducible refine cK (N := 5) rfl ?_); refine dB (N := 5) (cs := #[.string name, .int .i64 kd, .slice A1 bE.length c1, .string data]) (t := 38) ?_; intro gt hg w1 aG hb; have BT := aA aG; have GT := bB HB hg; replace HB := hbS HB hb; clear hb aG hg) | ((with_reducible refine cK (N := 10) rfl ?_); refine dB (N := 10) (cs := #[.string ⟨#[]⟩, .int .i64 0, .slice none 0 0, .string ⟨#[]⟩]) (t := 38) ?_; intro gr hg w2 aG hb; have BR := aA aG; have GR := bB HB hg; have l9 := cO BT hg; have lM := dD BT hg; replace BT := aI BT hb; replace HB := hbS HB hb; clear hb aG hg))
  go_loopg [12, 13, 14, 15, 16, 17] ext.length (fun kq v12 v13 v14 v15 v16 v17 w' => ∃ (i : Nat) (mm : List (ByteArray × ByteArray)), v17 = .int .i64 i ∧ aC (BQ mm v12 v13 v14 v15 v16) ∧ aC (i + kq = ext.length) ∧ aC (E = o7 (ext.drop i) mm) ∧ aC (∀ p ∈ mm, p.2.size ≤ 10000) ∧ aC (w'.heap[gt]? = some (.cells #[.string name, .int .i64 kd, .slice A1 bE.length c1, .string data] 38 (0, 0))) ∧ aC (w'.heap[gr]? = some (.cells #[.string ⟨#[]⟩, .int .i64 0, .slice none 0 0, .string ⟨#[]⟩] 38 (0, 0))) ∧ aC (Below w.heap.size w w'))
  case atStart => exact ⟨0, [], rfl, ⟨⟨rfl, rfl, rfl, rfl, rfl⟩⟩, ⟨by omega⟩, I7, ⟨fun p hp => by cases hp⟩, BT, BR, HB⟩
  case round =>
  clear BT BR HB
  obtain ⟨i, mm, rfl, HV, HN, HE, HM, BT, BR, HB⟩ := hrel
  by_cases hlt : i < ext.length
  · have hlt' : decide ((i : Int) < (ext.length : Int)) = true := dT (by omega)
    obtain ⟨kk, rfl⟩ : ∃ m, gk = m + 1 := ⟨gk - 1, by have := HN.out; omega⟩
    have p1 : 0 ≤ (i : Int) := Int.natCast_nonneg i
    have q1 : (i : Int) < (ext.length : Int) := by omega
    obtain ⟨ad, ea, hx⟩ := Kd.Ec (Kd.gN HX.out HB.out) (i : Int) p1 q1
    cases ea
    have hrd : RD ByteArray.empty ext (i : Int) = ext[i] := by simp [RD, hlt]
    rw [hrd, Int.toNat_natCast] at hx
    have RQ := aC.mk (I_.out ext[i] (List.getElem_mem hlt))
    have HD := aC.mk (show ext.drop i = ext[i] :: ext.drop (i + 1) from List.drop_eq_getElem_cons hlt)
    clear hrd
    generalize ext[i] = s at hx RQ HD
    have Hw : aC (wrap64 ((i : Int) + 1) = (i : Int) + 1) := ⟨by have := ym.out; exact fC (by omega) (by omega)⟩
    clear hlt
    replace p1 := eT p1
    replace q1 := eT q1
    have yJ := aA (HE.out.trans (by rw [HD.out, Za]))
    clear HE HD
    go_wp2_with (first | fail)
    refine (KW.calls s _ _ _ (ip (by have := RQ.out; omega))).mono ?_
    rintro en w3 ⟨v, rfl, zV, hb⟩
    obtain ⟨A, c, rfl⟩ := Kd.jF zV
    have HF := aA (Kd.jA zV).2.2
    have rO := aA (Kd.jA zV).2.1
    have H3 := aA (Below.refl w3.heap.size w3)
    replace BT := aI BT hb
    replace BR := aI BR hb
    replace HB := hbS HB hb
    clear hb zV hx
    have HT1 := aA (PK s 2)
    have sG := aA (XA s)
    obtain ⟨c0, hc0⟩ : ∃ c0 : Nat, (eX s).2 = c0 := ⟨_, rfl⟩
    rw [hc0] at yJ ⊢
    clear hc0
    generalize (eX s).1 = F at yJ HT1 sG HF rO ⊢
    obtain ⟨L, hL⟩ : ∃ L, F.map toR = L := ⟨_, rfl⟩
    rw [hL] at HF rO ⊢
    have EG := aA hL
    clear hL
    by_cases h0 : c0 ≠ 0
    · have b0 : ((c0 : Int) != 0) = true := bne_iff_ne.2 (by omega)
      have HR3 := aA (show R = (iJ, (c0 : Int)) from HR2.out.trans (by rw [yJ.out, ip h0, ip (show ((c0 : Int)) ≠ 0 by omega)]; exact xX _ _ _ (by omega)))
      clear h0
      obtain ⟨hr0, hr1, hr2, hr3⟩ := aN BR
      have fJ := fz BR 0
      have fQ := fz BR 1
      have fT := fz BR 2
      have fU := fz BR 3
      go_wp2
      refine bodyPost_ret (eP rfl _ _ gr 38 #[.string ⟨#[]⟩, .int .i64 0, .slice none 0 0, .string ⟨#[]⟩] (0, 0) _ rfl (aU BR) jY rfl (by kernel_rfl)) rfl ?_
      exact jH HR3.out (dR HB.out GR.out)
    · have b0 : ((c0 : Int) != 0) = false := bne_eq_false_iff_eq.2 (by omega)
      have HE2 := aA (yJ.out.trans (iN h0))
      clear yJ h0
      obtain ⟨q0, q1', q2, q3, qo, qc, hq⟩ : ∃ q0 q1 q2 q3 qo qc, BC (eQ F 1) 2 = (q0, q1, q2, q3, qo, qc) := ⟨_, _, _, _, _, _, rfl⟩
      obtain ⟨r0, r1, r2, r3, ro, rc, hr⟩ : ∃ q0 q1 q2 q3 qo qc, BC (eQ F 2) 2 = (q0, q1, q2, q3, qo, qc) := ⟨_, _, _, _, _, _, rfl⟩
      have HQ := aA hq
      have VT := aA hr
      clear hq hr
      go_wp2_with (first | fail)
      refine (GQ.calls A c _ 1 2 q0 q1' q2 q3 qo qc _ HF.out rO.out (by rw [← EG.out, P5 F sG.out 1 2, HQ.out])).mono ?_
      rintro en w4 ⟨rfl, hb⟩
      replace BT := aI BT hb
      replace BR := aI BR hb
      replace H3 := hbS H3 hb
      replace HB := hbS HB hb
      clear hb
      go_wp2_with (first | ((with_reducible refine cK (N := 20) rfl ?_); refine dB (N := 20) (cs := #[.int .i64 0, .int .i64 0, .int .u64 0, .string ⟨#[]⟩]) (t := 68) ?_; intro gk' hg w5 aG hb; have BK := aA aG; have GK := bB HB hg; have VK := bB H3 hg; have NTK := cO BT hg; have NKT := dD BT hg; replace BT := aI BT hb; have RU := cO BR hg; have Qm := dD BR hg; replace BR := aI BR hb; replace HB := hbS HB hb; replace H3 := hbS H3 hb; clear hb aG hg; obtain ⟨hc0, hc1, hc2, hc3⟩ := aN BK; have hf0 := fz BK 0; have hf1 := fz BK 1; have hf2 := fz BK 2; have hf3 := fz BK 3))
      obtain ⟨w6, hw⟩ : ∃ wb, wb = (((w5.setCell ⟨gk', 0, none⟩ (.int .i64 q0)).setCell ⟨gk', 1, none⟩ (.int .i64 q1')).setCell ⟨gk', 2, none⟩ (.int .u64 q2)).setCell ⟨gk', 3, none⟩ (.string q3) := ⟨_, rfl⟩
      rw [← hw]
      replace BT := aA (show w6.heap[gt]? = some _ from by rw [hw]; exact aU BT)
      replace BR := aA (show w6.heap[gr]? = some _ from by rw [hw]; exact aU BR)
      replace BK := aA (show w6.heap[gk']? = some (.cells #[.int .i64 q0, .int .i64 q1', .int .u64 q2, .string q3] 68 (0, 0)) from by rw [hw]; exact aU BK)
      replace HB := aA (show Below w.heap.size w w6 from by rw [hw]; exact dR HB.out GK.out)
      replace H3 := aA (show Below w3.heap.size w3 w6 from by rw [hw]; exact dR H3.out VK.out)
      clear hw hc0 hc1 hc2 hc3 hf0 hf1 hf2 hf3
      refine (GQ.calls A c _ 2 2 r0 r1 r2 r3 ro rc _ (Kd.gN HF.out H3.out) rO.out (by rw [← EG.out, P5 F sG.out 2 2, VT.out])).mono ?_
      rintro en w7 ⟨rfl, hb⟩
      replace BT := aI BT hb
      replace BR := aI BR hb
      replace BK := aI BK hb
      replace HB := hbS HB hb
      clear hb H3 HF rO
      by_cases hc : lW (eQ F 1) 2 = 0 ∧ lW (eQ F 2) 2 = 0
      · obtain ⟨rfl, rfl, rfl, rfl⟩ : qc = 0 ∧ q3 = (eQ F 1).2.2.2.1 ∧ rc = 0 ∧ r3 = (eQ F 2).2.2.2.1 := by
         have h1 := HQ.out
         have h2 := VT.out
         unfold BC at h1 h2
         rw [ip hc.1] at h1
         rw [ip hc.2] at h2
         simp only [Prod.mk.injEq] at h1 h2
         exact ⟨h1.2.2.2.2.2.symm, h1.2.2.2.1.symm, h2.2.2.2.2.2.symm, h2.2.2.2.1.symm⟩
        have EE := aA (HE2.out.trans (ip hc))
        clear HQ VT HE2 hc
        generalize (eQ F 1).2.2.2.1 = q3 at *
        generalize (eQ F 2).2.2.2.1 = r3 at *
        have l8 := aA (show ∀ p ∈ kK mm q3 r3, p.2.size ≤ 10000 from fun p hp => by
         rcases av mm hp with e | h
         · rw [e]; have := HT1.out; have := RQ.out; omega
         · exact HM.out p h)
        clear HM HT1
        have hz : IntKind.i64.wrap ((0 : Int) + 0) = 0 := by decide
        by_cases t1 : q3 = qM
        · have s1 : (q3.toList == ([108, 111, 99, 97, 116, 105, 111, 110] : List UInt8)) = true := beq_iff_eq.2 (((O9 q3 qM).2 t1).trans Gg)
          have T := aA t1
          clear t1
          go_wp2_with (first | ((with_reducible refine cK (N := 23) rfl ?_); refine dB (N := 23) (cs := #[.int .i64 0, .int .i64 0, .int .u64 0, .string ⟨#[]⟩]) (t := 68) ?_; intro gv hg w8 aG hb; have BV := aA aG; have GV := bB HB hg; have O_ := cO BT hg; have P_ := dD BT hg; replace BT := aI BT hb; have KL := cO BR hg; have I9 := dD BR hg; replace BR := aI BR hb; have CF := cO BK hg; have CJ := dD BK hg; replace BK := aI BK hb; replace HB := hbS HB hb; clear hb aG hg; obtain ⟨hc0, hc1, hc2, hc3⟩ := aN BV; have hf0 := fz BV 0; have hf1 := fz BV 1; have hf2 := fz BV 2; have hf3 := fz BV 3; obtain ⟨hk0, hk1, hk2, hk3⟩ := aN BK; have n1 := CF.out; have n2 := CJ.out; try (obtain ⟨hr0, hr1, hr2, hr3⟩ := aN BR; have fJ := fz BR 0; have fQ := fz BR 1; have fT := fz BR 2; have fU := fz BR 3; have n3 := KL.out; have n4 := I9.out)))
          go_roundg kk
          case measure => omega
          case rel => exact ⟨i + 1, kK mm q3 r3, by rw [Hw.out]; rfl, ⟨by rw [T.out]; exact HV.out.loc r3⟩, ⟨by have := HN.out; omega⟩, EE, l8, ⟨aU BT⟩, ⟨aU BR⟩, ⟨dR HB.out GV.out⟩⟩
        · have s1 : (q3.toList == ([108, 111, 99, 97, 116, 105, 111, 110] : List UInt8)) = false := beq_eq_false_iff_ne.2 (fun h => t1 ((O9 q3 qM).1 (h.trans Gg.symm)))
          by_cases t2 : q3 = rT
          · have s2 : (q3.toList == ([111, 102, 102, 115, 101, 116] : List UInt8)) = true := beq_iff_eq.2 (((O9 q3 rT).2 t2).trans Gh)
            have T := aA t2
            clear t1 t2
            go_wp2_with (first | ((with_reducible refine cK (N := 23) rfl ?_); refine dB (N := 23) (cs := #[.int .i64 0, .int .i64 0, .int .u64 0, .string ⟨#[]⟩]) (t := 68) ?_; intro gv hg w8 aG hb; have BV := aA aG; have GV := bB HB hg; have O_ := cO BT hg; have P_ := dD BT hg; replace BT := aI BT hb; have KL := cO BR hg; have I9 := dD BR hg; replace BR := aI BR hb; have CF := cO BK hg; have CJ := dD BK hg; replace BK := aI BK hb; replace HB := hbS HB hb; clear hb aG hg; obtain ⟨hc0, hc1, hc2, hc3⟩ := aN BV; have hf0 := fz BV 0; have hf1 := fz BV 1; have hf2 := fz BV 2; have hf3 := fz BV 3; obtain ⟨hk0, hk1, hk2, hk3⟩ := aN BK; have n1 := CF.out; have n2 := CJ.out; try (obtain ⟨hr0, hr1, hr2, hr3⟩ := aN BR; have fJ := fz BR 0; have fQ := fz BR 1; have fT := fz BR 2; have fU := fz BR 3; have n3 := KL.out; have n4 := I9.out)))
            go_roundg kk
            case measure => omega
            case rel => exact ⟨i + 1, kK mm q3 r3, by rw [Hw.out]; rfl, ⟨by rw [T.out]; exact HV.out.off r3⟩, ⟨by have := HN.out; omega⟩, EE, l8, ⟨aU BT⟩, ⟨aU BR⟩, ⟨dR HB.out GV.out⟩⟩
          · have s2 : (q3.toList == ([111, 102, 102, 115, 101, 116] : List UInt8)) = false := beq_eq_false_iff_ne.2 (fun h => t2 ((O9 q3 rT).1 (h.trans Gh.symm)))
            by_cases t3 : q3 = mX
            · have s3 : (q3.toList == ([108, 101, 110, 103, 116, 104] : List UInt8)) = true := beq_iff_eq.2 (((O9 q3 mX).2 t3).trans Gf)
              have T := aA t3
              clear t1 t2 t3
              go_wp2_with (first | ((with_reducible refine cK (N := 23) rfl ?_); refine dB (N := 23) (cs := #[.int .i64 0, .int .i64 0, .int .u64 0, .string ⟨#[]⟩]) (t := 68) ?_; intro gv hg w8 aG hb; have BV := aA aG; have GV := bB HB hg; have O_ := cO BT hg; have P_ := dD BT hg; replace BT := aI BT hb; have KL := cO BR hg; have I9 := dD BR hg; replace BR := aI BR hb; have CF := cO BK hg; have CJ := dD BK hg; replace BK := aI BK hb; replace HB := hbS HB hb; clear hb aG hg; obtain ⟨hc0, hc1, hc2, hc3⟩ := aN BV; have hf0 := fz BV 0; have hf1 := fz BV 1; have hf2 := fz BV 2; have hf3 := fz BV 3; obtain ⟨hk0, hk1, hk2, hk3⟩ := aN BK; have n1 := CF.out; have n2 := CJ.out; try (obtain ⟨hr0, hr1, hr2, hr3⟩ := aN BR; have fJ := fz BR 0; have fQ := fz BR 1; have fT := fz BR 2; have fU := fz BR 3; have n3 := KL.out; have n4 := I9.out)))
              go_roundg kk
              case measure => omega
              case rel => exact ⟨i + 1, kK mm q3 r3, by rw [Hw.out]; rfl, ⟨by rw [T.out]; exact HV.out.len r3⟩, ⟨by have := HN.out; omega⟩, EE, l8, ⟨aU BT⟩, ⟨aU BR⟩, ⟨dR HB.out GV.out⟩⟩
            · have s3 : (q3.toList == ([108, 101, 110, 103, 116, 104] : List UInt8)) = false := beq_eq_false_iff_ne.2 (fun h => t3 ((O9 q3 mX).1 (h.trans Gf.symm)))
              have HV2 := aA (HV.out.no r3 t1 t2 t3)
              clear t1 t2 t3
              go_wp2_with (first | ((with_reducible refine cK (N := 23) rfl ?_); refine dB (N := 23) (cs := #[.int .i64 0, .int .i64 0, .int .u64 0, .string ⟨#[]⟩]) (t := 68) ?_; intro gv hg w8 aG hb; have BV := aA aG; have GV := bB HB hg; have O_ := cO BT hg; have P_ := dD BT hg; replace BT := aI BT hb; have KL := cO BR hg; have I9 := dD BR hg; replace BR := aI BR hb; have CF := cO BK hg; have CJ := dD BK hg; replace BK := aI BK hb; replace HB := hbS HB hb; clear hb aG hg; obtain ⟨hc0, hc1, hc2, hc3⟩ := aN BV; have hf0 := fz BV 0; have hf1 := fz BV 1; have hf2 := fz BV 2; have hf3 := fz BV 3; obtain ⟨hk0, hk1, hk2, hk3⟩ := aN BK; have n1 := CF.out; have n2 := CJ.out; try (obtain ⟨hr0, hr1, hr2, hr3⟩ := aN BR; have fJ := fz BR 0; have fQ := fz BR 1; have fT := fz BR 2; have fU := fz BR 3; have n3 := KL.out; have n4 := I9.out)))
              go_roundg kk
              case measure => omega
              case rel => exact ⟨i + 1, kK mm q3 r3, by rw [Hw.out]; rfl, HV2, ⟨by have := HN.out; omega⟩, EE, l8, ⟨aU BT⟩, ⟨aU BR⟩, ⟨dR HB.out GV.out⟩⟩
      · have HR3 := aA (show R = (iJ, 3) from HR2.out.trans (by rw [HE2.out, iN hc]; exact xX _ _ _ (by decide)))
        have hz : (IntKind.i64.wrap (qc + rc) != 0) = true := by
         have h1 := HQ.out
         have h2 := VT.out
         unfold BC at h1 h2
         have k1 := AO (eQ F 1) 2
         have k2 := AO (eQ F 2) 2
         have e1 : qc = lW (eQ F 1) 2 := by
          by_cases k : lW (eQ F 1) 2 = 0
          · rw [ip k] at h1; rw [k]; exact (congrArg (fun x => x.2.2.2.2.2) h1).symm
          · rw [iN k] at h1; rw [k1.resolve_left k]; exact (congrArg (fun x => x.2.2.2.2.2) h1).symm
         have e2 : rc = lW (eQ F 2) 2 := by
          by_cases k : lW (eQ F 2) 2 = 0
          · rw [ip k] at h2; rw [k]; exact (congrArg (fun x => x.2.2.2.2.2) h2).symm
          · rw [iN k] at h2; rw [k2.resolve_left k]; exact (congrArg (fun x => x.2.2.2.2.2) h2).symm
         rw [e1, e2]
         rcases k1 with k1 | k1 <;> rcases k2 with k2 | k2
         · exact absurd ⟨k1, k2⟩ hc
         · rw [k1, k2]; decide
         · rw [k1, k2]; decide
         · rw [k1, k2]; decide
        have hz2 : (wrap64 (qc + rc) != 0) = true := by rw [← dC]; exact hz
        clear hc HQ VT HE2
        obtain ⟨hr0, hr1, hr2, hr3⟩ := aN BR
        have fJ := fz BR 0
        have fQ := fz BR 1
        have fT := fz BR 2
        have fU := fz BR 3
        go_wp2_with (first | ((with_reducible refine cK (N := 23) rfl ?_); refine dB (N := 23) (cs := #[.int .i64 0, .int .i64 0, .int .u64 0, .string ⟨#[]⟩]) (t := 68) ?_; intro gv hg w8 aG hb; have BV := aA aG; have GV := bB HB hg; have O_ := cO BT hg; have P_ := dD BT hg; replace BT := aI BT hb; have KL := cO BR hg; have I9 := dD BR hg; replace BR := aI BR hb; have CF := cO BK hg; have CJ := dD BK hg; replace BK := aI BK hb; replace HB := hbS HB hb; clear hb aG hg; obtain ⟨hc0, hc1, hc2, hc3⟩ := aN BV; have hf0 := fz BV 0; have hf1 := fz BV 1; have hf2 := fz BV 2; have hf3 := fz BV 3; obtain ⟨hk0, hk1, hk2, hk3⟩ := aN BK; have n1 := CF.out; have n2 := CJ.out; try (obtain ⟨hr0, hr1, hr2, hr3⟩ := aN BR; have fJ := fz BR 0; have fQ := fz BR 1; have fT := fz BR 2; have fU := fz BR 3; have n3 := KL.out; have n4 := I9.out)))
        have n1 := I9.out
        refine bodyPost_ret (eP rfl _ _ gr 38 #[.string ⟨#[]⟩, .int .i64 0, .slice none 0 0, .string ⟨#[]⟩] (0, 0) _ rfl (aU BR) jY rfl (by kernel_rfl)) rfl ?_
        exact jH HR3.out (dR (dR HB.out GV.out) GR.out)
  · have hge : decide ((i : Int) < (ext.length : Int)) = false := dF (by omega)
    have hi : i = ext.length := by
     have := HN.out
     omega
    subst hi
    have HR3 := aA (show R = o6 name kd bE (rZ mm need (fV l)) from HR2.out.trans (by rw [HE.out, List.drop_length]; rfl))
    obtain ⟨va, vb, vc, vd, ve⟩ := HV.out
    obtain ⟨K, hK⟩ : ∃ K, (fB mm qM).getD ⟨#[]⟩ = K := ⟨_, rfl⟩
    obtain ⟨hs, Aw⟩ : ∃ x, (fB mm qM).isSome = x := ⟨_, rfl⟩
    obtain ⟨Fr, hF⟩ : ∃ x, (fB mm rT).getD Q9 = x := ⟨_, rfl⟩
    obtain ⟨Ln, hLn⟩ : ∃ x, (fB mm mX).getD ⟨#[]⟩ = x := ⟨_, rfl⟩
    obtain ⟨sz, hsz⟩ : ∃ x, (fB mm mX).isSome = x := ⟨_, rfl⟩
    rw [hK] at va
    rw [Aw] at vb
    rw [hF] at vc
    rw [hLn] at vd
    rw [hsz] at ve
    subst va vb vc vd ve
    have HF := aA (aA5 (fB mm rT))
    rw [hF] at HF
    have B_ := aA (And.intro hK Aw)
    have yl := aA (And.intro hLn hsz)
    clear hK Aw hF hLn hsz hlt HE HV HN I7 HR2
    cases hs with
    | false =>
     have HR4 := aA (show R = (iJ, 18) from HR3.out.trans (by rw [Lf (Ky B_.out.2)]; exact xX _ _ _ (by decide)))
     obtain ⟨hr0, hr1, hr2, hr3⟩ := aN BR
     have fJ := fz BR 0
     have fQ := fz BR 1
     have fT := fz BR 2
     have fU := fz BR 3
     go_wp2
     refine bodyPost_ret (eP rfl _ _ gr 38 #[.string ⟨#[]⟩, .int .i64 0, .slice none 0 0, .string ⟨#[]⟩] (0, 0) _ rfl (aU BR) jY rfl (by kernel_rfl)) rfl ?_
     exact jH HR4.out (dR HB.out GR.out)
    | true =>
     have zS := aA (Gu B_.out.2 B_.out.1)
     have UY := aA (show K.size ≤ 10000 from by
      obtain ⟨p, hp, e⟩ := X4 mm zS.out
      rw [← e]; exact HM.out p hp)
     clear B_ HM
     go_wp2_with (first | fail)
     rcases HF.out with ⟨o1, o2⟩ | ⟨n, o1, o2, o3⟩
     · have HR4 := aA (show R = (iJ, 17) from HR3.out.trans (by rw [Hm zS.out o1]; exact xX _ _ _ (by decide)))
       have b0 : decide ((-1 : Int) < 0) = true := by decide
       refine (kX.calls 20 Fr (rX Fr) _ (NW Fr 20 (Nat.le_refl _))).mono ?_
       rintro e wd ⟨rfl, hd⟩
       have hb := wU hd
       rw [o2]
       replace BT := aI BT hb
       replace BR := aI BR hb
       replace HB := hbS HB hb
       clear hb hd
       obtain ⟨hr0, hr1, hr2, hr3⟩ := aN BR
       have fJ := fz BR 0
       have fQ := fz BR 1
       have fT := fz BR 2
       have fU := fz BR 3
       go_wp2
       refine bodyPost_ret (eP rfl _ _ gr 38 #[.string ⟨#[]⟩, .int .i64 0, .slice none 0 0, .string ⟨#[]⟩] (0, 0) _ rfl (aU BR) jY rfl (by kernel_rfl)) rfl ?_
       exact jH HR4.out (dR HB.out GR.out)
     · have b0 : decide ((n : Int) < 0) = false := dF (by omega)
       refine (kX.calls 20 Fr (rX Fr) _ (NW Fr 20 (Nat.le_refl _))).mono ?_
       rintro e wd ⟨rfl, hd⟩
       have hb := wU hd
       rw [o2]
       replace BT := aI BT hb
       replace BR := aI BR hb
       replace HB := hbS HB hb
       clear hb hd
       cases sz with
       | false =>
        have HR4 := aA (HR3.out.trans (by rw [YW zS.out o1 (show pF (fB mm mX) need = some need from by rw [Ky yl.out.2]; rfl)]))
        clear HR3
        go_wp2_with (first | fail)
        refine (kX.calls 20 Fr (rX Fr) _ (NW Fr 20 (Nat.le_refl _))).mono ?_
        rintro e wd ⟨rfl, hd⟩
        have hb := wU hd
        rw [o2]
        replace BT := aI BT hb
        replace BR := aI BR hb
        replace HB := hbS HB hb
        clear hb hd
        go_wp2_with (first | fail)
        refine (oH.calls 30000 A3 c3 (iL l) K (n : Int) need (sJ (fV l) K n need).1 (sJ (fV l) K n need).2 _ (Kd.gN HL.out HB.out) mQ.out (by rw [Fb l K (by have := HH.out.few; omega) UY.out n need (by omega) (by have := HH.out.n0; have := HH.out.n1; omega) (fun f hf => by have := HH.out.short f hf; omega) 30000 (Nat.le_refl _)])).mono ?_
        rintro e wd ⟨rfl, hd⟩
        have hb := wU hd
        replace BT := aI BT hb
        replace BR := aI BR hb
        replace HB := hbS HB hb
        clear hb hd
        have uV := aA (XD (L := fV l) (key := K) (o := n) HH.out.n1 HH.out.n0)
        obtain ⟨rd, rc, hrd⟩ : ∃ rd rc, sJ (fV l) K n need = (rd, rc) := ⟨_, _, rfl⟩
        rw [hrd] at HR4 uV ⊢
        dsimp only at uV ⊢
        clear hrd
        by_cases h0 : rc ≠ 0
        · have b0 : (rc != 0) = true := bne_iff_ne.2 h0
          replace HR4 := aA (HR4.out.trans (xX name kd bE h0))
          clear h0 uV
          obtain ⟨hr0, hr1, hr2, hr3⟩ := aN BR
          have fJ := fz BR 0
          have fQ := fz BR 1
          have fT := fz BR 2
          have fU := fz BR 3
          go_wp2
          refine bodyPost_ret (eP rfl _ _ gr 38 #[.string ⟨#[]⟩, .int .i64 0, .slice none 0 0, .string ⟨#[]⟩] (0, 0) _ rfl (aU BR) jY rfl (by kernel_rfl)) rfl ?_
          exact jH HR4.out (dR HB.out GR.out)
        · have b0 : (rc != 0) = false := bne_eq_false_iff_eq.2 (Classical.not_not.1 h0)
          obtain rfl : rc = 0 := Classical.not_not.1 h0
          replace HR4 := aA (HR4.out.trans (XO name kd bE rd))
          clear h0
          obtain ⟨ht0, ht1, ht2, ht3⟩ := aN BT
          have qB := fz BT 3
          go_wp2_with (first | fail)
          obtain ⟨wx, hw⟩ : ∃ wb, wb = wd.setCell ⟨gt, 3, none⟩ (.string rd) := ⟨_, rfl⟩
          rw [← hw]
          replace BR := aA (show wx.heap[gr]? = some _ from by rw [hw]; exact aU BR)
          replace BT := aA (show wx.heap[gt]? = some (.cells #[.string name, .int .i64 kd, .slice A1 bE.length c1, .string rd] 38 (0, 0)) from by rw [hw]; exact aU BT)
          replace HB := aA (show Below w.heap.size w wx from by rw [hw]; exact fD HB.out GT.out)
          clear hw ht0 ht1 ht2 ht3 qB
          refine (GJ.calls name kd A1 c1 bE rd _ wx (Kd.gN (Kd.mK H1.out) HB.out) yH.out (ip ⟨HH.out.nm, by have := uV.out; omega⟩)).mono ?_
          rintro e wy ⟨rfl, hb⟩
          replace BR := aI BR hb
          replace BT := aI BT hb
          replace HB := hbS HB hb
          clear hb
          obtain ⟨ck, hck⟩ : ∃ ck, qR name kd bE rd = ck := ⟨_, rfl⟩
          rw [hck] at HR4 ⊢
          clear hck
          obtain ⟨ht0, ht1, ht2, ht3⟩ := aN BT
          have n3 := l9.out
          have n4 := lM.out
          obtain ⟨hr0, hr1, hr2, hr3⟩ := aN BR
          have fJ := fz BR 0
          have fQ := fz BR 1
          have fT := fz BR 2
          have fU := fz BR 3
          by_cases hc : ck ≠ 0
          · have b1 : (ck != 0) = true := bne_iff_ne.2 hc
            replace HR4 := aA (HR4.out.trans (ip hc))
            clear hc
            go_wp2
            refine bodyPost_ret (eP rfl _ _ gr 38 #[.string ⟨#[]⟩, .int .i64 0, .slice none 0 0, .string ⟨#[]⟩] (0, 0) _ rfl (aU BR) jY rfl (by kernel_rfl)) rfl ?_
            exact jH HR4.out (dR HB.out GR.out)
          · have b1 : (ck != 0) = false := bne_eq_false_iff_eq.2 (Classical.not_not.1 hc)
            replace HR4 := aA (HR4.out.trans (iN hc))
            clear hc
            go_wp2
            refine bodyPost_ret (eP rfl _ _ gr 38 #[.string name, .int .i64 kd, .slice A1 bE.length c1, .string rd] (0, 0) _ rfl (aU BR) jY rfl (by kernel_rfl)) rfl ?_
            exact PN HR4.out (dR HB.out GR.out) H1.out yH.out
       | true =>
        have yh := aA (Gu yl.out.2 yl.out.1)
        go_wp2_with (first | fail)
        rcases aj Ln need with ⟨m1, m2⟩ | ⟨m, m1, m2, m3⟩
        · have HR4 := aA (show R = (iJ, 17) from HR3.out.trans (by rw [bz zS.out o1 (by rw [yh.out]; exact m1)]; exact xX _ _ _ (by decide)))
          have b1 : decide ((-1 : Int) < 0) = true := by decide
          refine (kX.calls 20 Ln (rX Ln) _ (NW Ln 20 (Nat.le_refl _))).mono ?_
          rintro e wd ⟨rfl, hd⟩
          have hb := wU hd
          rw [m2]
          replace BT := aI BT hb
          replace BR := aI BR hb
          replace HB := hbS HB hb
          clear hb hd
          obtain ⟨hr0, hr1, hr2, hr3⟩ := aN BR
          have fJ := fz BR 0
          have fQ := fz BR 1
          have fT := fz BR 2
          have fU := fz BR 3
          go_wp2
          refine bodyPost_ret (eP rfl _ _ gr 38 #[.string ⟨#[]⟩, .int .i64 0, .slice none 0 0, .string ⟨#[]⟩] (0, 0) _ rfl (aU BR) jY rfl (by kernel_rfl)) rfl ?_
          exact jH HR4.out (dR HB.out GR.out)
        · have b1 : decide ((m : Int) < 0) = false := dF (by omega)
          refine (kX.calls 20 Ln (rX Ln) _ (NW Ln 20 (Nat.le_refl _))).mono ?_
          rintro e wd ⟨rfl, hd⟩
          have hb := wU hd
          rw [m2]
          replace BT := aI BT hb
          replace BR := aI BR hb
          replace HB := hbS HB hb
          clear hb hd
          go_wp2_with (first | fail)
          refine (kX.calls 20 Ln (rX Ln) _ (NW Ln 20 (Nat.le_refl _))).mono ?_
          rintro e wd ⟨rfl, hd⟩
          have hb := wU hd
          rw [m2]
          replace BT := aI BT hb
          replace BR := aI BR hb
          replace HB := hbS HB hb
          clear hb hd
          by_cases hm : (m : Int) = need
          · have b2 : ((m : Int) != need) = false := bne_eq_false_iff_eq.2 hm
            have HR4 := aA (HR3.out.trans (by rw [YW zS.out o1 (show pF (fB mm mX) need = some need from by rw [yh.out, m1, hm])]))
            clear HR3 hm m3 m1
            go_wp2_with (first | fail)
            refine (kX.calls 20 Fr (rX Fr) _ (NW Fr 20 (Nat.le_refl _))).mono ?_
            rintro e wd ⟨rfl, hd⟩
            have hb := wU hd
            rw [o2]
            replace BT := aI BT hb
            replace BR := aI BR hb
            replace HB := hbS HB hb
            clear hb hd
            go_wp2_with (first | fail)
            refine (oH.calls 30000 A3 c3 (iL l) K (n : Int) need (sJ (fV l) K n need).1 (sJ (fV l) K n need).2 _ (Kd.gN HL.out HB.out) mQ.out (by rw [Fb l K (by have := HH.out.few; omega) UY.out n need (by omega) (by have := HH.out.n0; have := HH.out.n1; omega) (fun f hf => by have := HH.out.short f hf; omega) 30000 (Nat.le_refl _)])).mono ?_
            rintro e wd ⟨rfl, hd⟩
            have hb := wU hd
            replace BT := aI BT hb
            replace BR := aI BR hb
            replace HB := hbS HB hb
            clear hb hd
            have uV := aA (XD (L := fV l) (key := K) (o := n) HH.out.n1 HH.out.n0)
            obtain ⟨rd, rc, hrd⟩ : ∃ rd rc, sJ (fV l) K n need = (rd, rc) := ⟨_, _, rfl⟩
            rw [hrd] at HR4 uV ⊢
            dsimp only at uV ⊢
            clear hrd
            by_cases h0 : rc ≠ 0
            · have b0 : (rc != 0) = true := bne_iff_ne.2 h0
              replace HR4 := aA (HR4.out.trans (xX name kd bE h0))
              clear h0 uV
              obtain ⟨hr0, hr1, hr2, hr3⟩ := aN BR
              have fJ := fz BR 0
              have fQ := fz BR 1
              have fT := fz BR 2
              have fU := fz BR 3
              go_wp2
              refine bodyPost_ret (eP rfl _ _ gr 38 #[.string ⟨#[]⟩, .int .i64 0, .slice none 0 0, .string ⟨#[]⟩] (0, 0) _ rfl (aU BR) jY rfl (by kernel_rfl)) rfl ?_
              exact jH HR4.out (dR HB.out GR.out)
            · have b0 : (rc != 0) = false := bne_eq_false_iff_eq.2 (Classical.not_not.1 h0)
              obtain rfl : rc = 0 := Classical.not_not.1 h0
              replace HR4 := aA (HR4.out.trans (XO name kd bE rd))
              clear h0
              obtain ⟨ht0, ht1, ht2, ht3⟩ := aN BT
              have qB := fz BT 3
              go_wp2_with (first | fail)
              obtain ⟨wx, hw⟩ : ∃ wb, wb = wd.setCell ⟨gt, 3, none⟩ (.string rd) := ⟨_, rfl⟩
              rw [← hw]
              replace BR := aA (show wx.heap[gr]? = some _ from by rw [hw]; exact aU BR)
              replace BT := aA (show wx.heap[gt]? = some (.cells #[.string name, .int .i64 kd, .slice A1 bE.length c1, .string rd] 38 (0, 0)) from by rw [hw]; exact aU BT)
              replace HB := aA (show Below w.heap.size w wx from by rw [hw]; exact fD HB.out GT.out)
              clear hw ht0 ht1 ht2 ht3 qB
              refine (GJ.calls name kd A1 c1 bE rd _ wx (Kd.gN (Kd.mK H1.out) HB.out) yH.out (ip ⟨HH.out.nm, by have := uV.out; omega⟩)).mono ?_
              rintro e wy ⟨rfl, hb⟩
              replace BR := aI BR hb
              replace BT := aI BT hb
              replace HB := hbS HB hb
              clear hb
              obtain ⟨ck, hck⟩ : ∃ ck, qR name kd bE rd = ck := ⟨_, rfl⟩
              rw [hck] at HR4 ⊢
              clear hck
              obtain ⟨ht0, ht1, ht2, ht3⟩ := aN BT
              have n3 := l9.out
              have n4 := lM.out
              obtain ⟨hr0, hr1, hr2, hr3⟩ := aN BR
              have fJ := fz BR 0
              have fQ := fz BR 1
              have fT := fz BR 2
              have fU := fz BR 3
              by_cases hc : ck ≠ 0
              · have b1 : (ck != 0) = true := bne_iff_ne.2 hc
                replace HR4 := aA (HR4.out.trans (ip hc))
                clear hc
                go_wp2
                refine bodyPost_ret (eP rfl _ _ gr 38 #[.string ⟨#[]⟩, .int .i64 0, .slice none 0 0, .string ⟨#[]⟩] (0, 0) _ rfl (aU BR) jY rfl (by kernel_rfl)) rfl ?_
                exact jH HR4.out (dR HB.out GR.out)
              · have b1 : (ck != 0) = false := bne_eq_false_iff_eq.2 (Classical.not_not.1 hc)
                replace HR4 := aA (HR4.out.trans (iN hc))
                clear hc
                go_wp2
                refine bodyPost_ret (eP rfl _ _ gr 38 #[.string name, .int .i64 kd, .slice A1 bE.length c1, .string rd] (0, 0) _ rfl (aU BR) jY rfl (by kernel_rfl)) rfl ?_
                exact PN HR4.out (dR HB.out GR.out) H1.out yH.out
          · have b2 : ((m : Int) != need) = true := bne_iff_ne.2 hm
            have HR4 := aA (show R = (iJ, 7) from HR3.out.trans (by rw [oq zS.out o1 (by rw [yh.out]; exact m1) hm]; exact xX _ _ _ (by decide)))
            clear hm
            obtain ⟨hr0, hr1, hr2, hr3⟩ := aN BR
            have fJ := fz BR 0
            have fQ := fz BR 1
            have fT := fz BR 2
            have fU := fz BR 3
            go_wp2
            refine bodyPost_ret (eP rfl _ _ gr 38 #[.string ⟨#[]⟩, .int .i64 0, .slice none 0 0, .string ⟨#[]⟩] (0, 0) _ rfl (aU BR) jY rfl (by kernel_rfl)) rfl ?_
            exact jH HR4.out (dR HB.out GR.out)
theorem aA0 {b : ByteArray} (h : (eX b).2 ≠ 0) : jM b = (mY, ((eX b).2 : Int)) := ip h
def tO (F : List Fl) (n : Int) : List Int × Nat := mF (F.filter (fun x : Fl => x.1 == n)) []
def OL (F : List Fl) (n : Int) : List ByteArray × Nat := vR (F.filter (fun x : Fl => x.1 == n)) []
theorem rowP (F : List Fl) (n : Int) : ((F.map toP).filter fun x => x.f0 == n).map mD = F.filter (fun x : Fl => x.1 == n) := by
 rw [W9 toP]; exact Wx _
theorem Ox (F : List Fl) (n : Int) : ((F.map toR).filter fun x => x.f0 == n).map uX = F.filter (fun x : Fl => x.1 == n) := by
 rw [W9 toR]; exact Wy _
def Q_ (k2 : Int) : Int := if k2 ≤ 1048576 then wrap64 k2 else 0
def Qv (F : List Fl) : uQ × Int := DY (eQ F 2).2.2.1 (eQ F 8).2.2.2.1 (eQ F 9).2.2.2.1 (eQ F 9).2.2.2.2 (eQ F 14).2.2.1 (tO F 1).1 (tO F 5).1 (tO F 7).1 (OL F 13) (rG (rG ((tO F 1).2 : Int) ((tO F 5).2 : Int)) ((tO F 7).2 : Int))
theorem aDM {b : ByteArray} (h : (eX b).2 = 0) : jM b = if lW (eQ (eX b).1 2) 0 = 0 ∧ lW (eQ (eX b).1 8) 2 = 0 ∧ lW (eQ (eX b).1 9) 2 = 0 ∧ lW (eQ (eX b).1 14) 0 = 0 then Qv (eX b).1 else (mY, 3) := by
 unfold jM
 rw [iN (by rw [h]; simp)]
 show P9 _ (eQ (eX b).1 2).2.2.1 (eQ (eX b).1 8).2.2.2.1 (eQ (eX b).1 9).2.2.2.1 (eQ (eX b).1 9).2.2.2.2 (eQ (eX b).1 14).2.2.1 (kT (eQ (eX b).1 14).2.2.2.2 (eQ (eX b).1 14).2.1 0 (kT (eQ (eX b).1 9).2.2.2.2 (eQ (eX b).1 9).2.1 2 (kT (eQ (eX b).1 8).2.2.2.2 (eQ (eX b).1 8).2.1 2 (kT (eQ (eX b).1 2).2.2.2.2 (eQ (eX b).1 2).2.1 0 0)))) = _
 rw [PG, PG, PG, PG, ip rfl]
 unfold P9
 rw [rowP, rowP, rowP, rowP]
 rcases AO (eQ (eX b).1 2) 0 with h1 | h1
 · rcases AO (eQ (eX b).1 8) 2 with h2 | h2
   · rcases AO (eQ (eX b).1 9) 2 with h3 | h3
     · rcases AO (eQ (eX b).1 14) 0 with h4 | h4
       · rw [h1, h2, h3, h4]; rfl
       · rw [h1, h2, h3, h4]; rfl
     · rw [h1, h2, h3]; rfl
   · rw [h1, h2]; rfl
 · rw [h1]; rfl
theorem Yd {b : ByteArray} {Ls : List (ByteArray × ByteArray)} {m : uQ} {c : Int} (h : jM b = (m, c)) (hc : c ≠ 0) : II b Ls = (iJ, c) := by
 unfold II
 rw [h]
 exact ip hc
theorem bq {k2 : Int} {n3 d3 : ByteArray} {dO : Bool} {o2 : Int} {x1 x5 x7 : List Int} {t : List ByteArray × Nat} {f : Int} (h : f ≠ 0) : DY k2 n3 d3 dO o2 x1 x5 x7 t f = (mY, f) := ip h
theorem aA1 {k2 : Int} {n3 d3 : ByteArray} {dO : Bool} {o2 : Int} {x1 x5 x7 : List Int} {t : List ByteArray × Nat} (h : t.2 ≠ 0) : DY k2 n3 d3 dO o2 x1 x5 x7 t 0 = (mY, (t.2 : Int)) := by
 unfold DY
 rw [iN (fun g => g rfl), ip h]
theorem aCN {k2 : Int} {n3 d3 : ByteArray} {dO : Bool} {o2 : Int} {x1 x5 x7 : List Int} {t : List ByteArray × Nat} (h : t.2 = 0) : DY k2 n3 d3 dO o2 x1 x5 x7 t 0 = xC k2 n3 d3 dO o2 x1 x5 x7 t.1 (Q_ k2) := by
 unfold DY
 rw [iN (fun g => g rfl), iN (by rw [h]; decide)]; rfl
theorem aCV {k2 : Int} (h : k2 < 100) : Q_ k2 = wrap64 k2 := ip (by omega)
theorem aAL {k2 : Int} (h : ¬ k2 < 100) : gF (Q_ k2) = 0 := by
 unfold Q_
 split
 · rw [fC (by omega) (by omega)]
   unfold gF
   rw [iN (by omega), iN (by omega), iN (by omega), iN (by omega), iN (by omega)]
 · decide
theorem aCL {k2 : Int} {n3 d3 : ByteArray} {dO : Bool} {o2 : Int} {x1 x5 x7 : List Int} {ts : List ByteArray} {kd : Int} (h : 1 < o2) : xC k2 n3 d3 dO o2 x1 x5 x7 ts kd = (mY, 19) := ip h
theorem aDN {k2 : Int} {n3 d3 : ByteArray} {dO : Bool} {o2 : Int} {x1 x5 x7 : List Int} {ts : List ByteArray} {kd : Int} (h : o2 ≤ 1) (h2 : tK n3 = false) : xC k2 n3 d3 dO o2 x1 x5 x7 ts kd = (mY, 8) := by
 unfold xC
 rw [iN (Int.not_lt.2 h), ip h2]
theorem Mi {k2 : Int} {n3 d3 : ByteArray} {dO : Bool} {o2 : Int} {x1 x5 x7 : List Int} {ts : List ByteArray} {kd : Int} (h : o2 ≤ 1) (h2 : tK n3 = true) (h3 : gF kd = 0) : xC k2 n3 d3 dO o2 x1 x5 x7 ts kd = (mY, 5) := by
 unfold xC
 rw [iN (Int.not_lt.2 h), iN (by rw [h2]; decide), ip h3]
theorem aCM {k2 : Int} {n3 d3 : ByteArray} {dO : Bool} {o2 : Int} {x1 x5 x7 : List Int} {ts : List ByteArray} {kd : Int} (h : o2 ≤ 1) (h2 : tK n3 = true) (h3 : ¬ gF kd = 0) : xC k2 n3 d3 dO o2 x1 x5 x7 ts kd = (⟨n3, kd, x1, d3, x5, x7, dO, ts, o2, (kE x1).1⟩, (kE x1).2) := by
 unfold xC
 rw [iN (Int.not_lt.2 h), iN (by rw [h2]; decide), iN h3]
theorem Ze {F : List Fl} {n : Int} (h : (eQ F n).2.2.2.2 = false) : (eQ F n).2.2.2.1 = ⟨#[]⟩ := by
 unfold eQ at h ⊢
 cases hg : ((F.map toP).filter fun x => x.f0 == n).getLast? with
 | none => rfl
 | some z => rw [hg] at h; cases h
theorem aAg {a b c d : Int} (ha : a = 0 ∨ a = 3) (hb : b = 0 ∨ b = 3) (hc : c = 0 ∨ c = 3) (hd : d = 0 ∨ d = 3) (h : ¬ (a = 0 ∧ b = 0 ∧ c = 0 ∧ d = 0)) : (IntKind.i64.wrap (IntKind.i64.wrap (IntKind.i64.wrap (a + b) + c) + d) != 0) = true := by
 rcases ha with rfl | rfl <;> rcases hb with rfl | rfl <;> rcases hc with rfl | rfl <;> rcases hd with rfl | rfl <;> first | exact absurd ⟨rfl, rfl, rfl, rfl⟩ h | decide
theorem LH (t : Lt) (k : Int) : (BC t k).2.2.2.2.2 = lW t k := by
 unfold BC
 by_cases h : lW t k = 0
 · rw [ip h, h]
 · rw [iN h, (AO t k).resolve_left h]
theorem XP {t : Lt} {k : Int} (h : lW t k = 0) : BC t k = (t.1, t.2.1, t.2.2.1, t.2.2.2.1, t.2.2.2.2, 0) := ip h
theorem au (F : List Fl) (n : Int) : (tO F n).1.length ≤ 65536 := PI _ _ (Nat.zero_le _)
theorem jb {F : List Fl} {L : List dP} (hL : F.map toR = L) (hw : F.length ≤ 3518437208883) {B : Nat} (hB : B ≤ 10000) (ht : ∀ x ∈ F, x.2.2.2.size ≤ B) (n : Int) {x : List Int} {e : Nat} (hx : tO F n = (x, e)) : EM.f L n = some (x, (e : Int)) := by
 unfold EM.f
 rw [← hL, ip ⟨by rw [List.length_map]; exact hw, fun y hy => by
  obtain ⟨z, hz, rfl⟩ := List.mem_map.1 hy
  exact Nat.le_trans (ht z hz) (by omega)⟩, Ox]
 show some ((tO F n).1, ((tO F n).2 : Int)) = _
 rw [hx]
theorem aAP {F : List Fl} {L : List dP} (hL : F.map toR = L) (hw : F.length ≤ 3518437208883) (n : Int) {x : List ByteArray} {e : Nat} (hx : OL F n = (x, e)) : JI.f L n = some (x, (e : Int)) := by
 unfold JI.f
 rw [← hL, ip (by rw [List.length_map]; exact hw), Ox]
 show some ((OL F n).1, ((OL F n).2 : Int)) = _
 rw [hx]
theorem Zv {F : List Fl} {B : Nat} (ht : ∀ x ∈ F, x.2.2.2.size ≤ B) (n : Int) : ∀ s ∈ (OL F n).1, s.size ≤ B := _W B _ _ (fun x hx => ht x (List.mem_filter.1 hx).1) (fun s hs => by cases hs)
theorem Ku (f : Int) : rG 0 f = f := ip rfl
theorem YR {e : Int} (f : Int) (h : e ≠ 0) : rG e f = e := iN h
theorem Uf (l : List Int) (n : Int) : strOfNums (l ++ [n]) = strOfNums l ++ strOfNums [n] := by
 apply ByteArray.ext
 simp [strOfNums, ByteArray.data_append]
theorem Fx (x : ByteArray) : x ++ (⟨#[]⟩ : ByteArray) = x := UH (by rw [_9]; exact List.append_nil _)
theorem aAx (x : ByteArray) : (⟨#[]⟩ : ByteArray) ++ x = x := UH (by rw [_9]; rfl)
theorem aA2 {l : List Int} {m n : Int} (h : n ∈ l) (hb : wC m n = true) : l.any (wC m) = true := List.any_eq_true.2 ⟨n, h, hb⟩
structure EI (w w3 w' : World) (gr : Nat) : Prop where
 b : Below w.heap.size w w'
 h : Below w3.heap.size w3 w'
 r : w'.heap[gr]? = some (.cells #[.string ⟨#[]⟩, .int .i64 0, .slice none 0 0, .string ⟨#[]⟩] 38 (0, 0))
theorem EI.step {w w3 w' V : World} {gr : Nat} (h : EI w w3 w' gr) (hB : Below w'.heap.size w' V) : EI w w3 V gr := ⟨jV h.b hB, jV h.h hB, oK h.r hB⟩
theorem EI.put {w w3 w' : World} {gr gt i : Nat} (h : EI w w3 w' gr) (g : w.heap.size ≤ gt) (g3 : w3.heap.size ≤ gt) (hn : gr ≠ gt) (v : Value) : EI w w3 (w'.setCell ⟨gt, i, none⟩ v) gr := ⟨fD h.b g, fD h.h g3, PV h.r hn _⟩
theorem Mc (w : World) (n : Int) (T : Nat) : Kd.C (Kd.int .u8) (w.alloc (Obj.cells #[.int .u8 n] T)) (some ⟨w.heap.size, 0, none⟩) 1 [n] :=
 Kd.K6 (d := (0 : Int)) (h1 := fun _ => rfl) ⟨rfl, by decide, fun _ => ⟨_, rfl, fun j hj => by
  have hj0 : j = 0 := by omega
  subst hj0
  exact (aM (vL w _) 0).trans rfl⟩⟩
def IW.Qt : Bool × List (List Nat × List Nat) := (true, [([], []), ([0], [0]), ([], []), ([], []), ([2, 3], [2, 3]), ([4], [4]), ([5], [5]), ([6], [6]), ([7], [7]), ([1, 8], [1, 8]), ([0, 1, 2, 3, 4, 5, 6, 7, 8, 9], []), ([10, 9, 0, 1, 2, 3, 4, 5, 6, 7, 8, 9], [9, 10])])
def IW.B47 : List Nat := [0, 1, 0, 0, 12, 28, 60, 124, 252, 511, 1023, 2047]
theorem IW.Nv : jU .any (opsOf Tryz.f8 47) = IW.Qt := by kernel_rfl
theorem IW.Lb : uK IW.Qt.2 IW.B47 = true := by kernel_rfl
def L8.Qu : Bool × List (List Nat × List Nat) := (true, [([], []), ([0], [0]), ([], []), ([], []), ([2, 3], [2, 3]), ([4], [4]), ([5], [5]), ([1, 6], [1, 6]), ([0, 1, 2, 3, 4, 5, 6, 7], []), ([8, 7, 6, 0, 1, 2, 3, 4, 5, 6, 7], [7, 8])])
def L8.B51 : List Nat := [0, 1, 0, 0, 12, 28, 60, 127, 255, 511]
theorem L8.aEq : jU .any (opsOf Tryz.f8 51) = L8.Qu := by kernel_rfl
theorem L8.aCO : uK L8.Qu.2 L8.B51 = true := by kernel_rfl
theorem Vu (b : ByteArray) (Af : Option Addr) (cf : Nat) (l : List jK) (w : World) (hb : b.size ≤ 10000) (hl : Kd.C zX w Af (iL l).length (iL l)) (hlc : (iL l).length ≤ cf) (hf : l.length ≤ 100) (hsh : ∀ f ∈ l, f.f0.size + f.f1.size ≤ 10000) :
 Calls Tryz.prog 8 #[.string b, .slice Af (iL l).length cf] w (G7 w (fun k => w.heap.size ≤ k) (II b (fV l))) := by
 have jY := Tryz.underlying38
 have U9 := Tryz.underlying68
 have yj := aA hl
 have mQ := aA hlc
 have HS := aA (And.intro hf (And.intro hsh hb))
 have HB := aC.mk (Below.refl w.heap.size w)
 have w_ := aC.mk (Dn b)
 obtain ⟨R, hR⟩ : ∃ R, II b (fV l) = R := ⟨_, rfl⟩
 rw [hR]
 have eF := aA (show ∀ (m : uQ) (c : Int), jM b = (m, c) → c ≠ 0 → R = (iJ, c) from fun m c h hc => hR.symm.trans (Yd h hc))
 have CE := aA (show ∀ m : uQ, jM b = (m, 0) → R = if m.wh = 1 then o6 m.name m.kind m.bE (zR (m.raw || decide (0 < m.few.length + m.many.length)) m.ext (m.els * gF m.kind) (fV l)) else o6 m.name m.kind m.bE (oL m.kind m.data m.few m.many m.raw) from fun m h => hR.symm.trans (by unfold II; rw [h, iN (fun g => g rfl)]; dsimp only; rw [Dt]))
 clear hb hl hlc hf hsh hR
 go_enter Tryz.func8, Tryz.ntmps8
 go_wp2_with (first | ((with_reducible refine cK (N := 4) rfl ?_); refine dB (N := 4) (cs := #[.string ⟨#[]⟩, .int .i64 0, .slice none 0 0, .string ⟨#[]⟩]) (t := 38) ?_; intro gr hg w1 aG hb; have BR := aA aG; have GR := bB HB hg; replace HB := hbS HB hb; clear hb aG hg))
 refine (KW.calls b _ _ _ (ip (by have := HS.out.2.2; omega))).mono ?_
 rintro en w3 ⟨v, rfl, zV, hb⟩
 obtain ⟨A, c, rfl⟩ := Kd.jF zV
 have HF := aA (Kd.jA zV).2.2
 have rO := aA (Kd.jA zV).2.1
 have H3 := aA (Below.refl w3.heap.size w3)
 replace BR := aI BR hb
 replace HB := hbS HB hb
 have R3 := aA (jB BR.out)
 have S3 := aA HB.out.size
 clear hb zV
 have sG := aA (XA b)
 have RH := aA (Em b)
 by_cases h0 : (eX b).2 ≠ 0
 · obtain ⟨c0, hc0⟩ : ∃ c0 : Nat, (eX b).2 = c0 := ⟨_, rfl⟩
   have HR4 := aA (show R = (iJ, (c0 : Int)) from by rw [← hc0]; exact eF.out _ _ (aA0 h0) (by omega))
   rw [hc0] at h0 ⊢
   have b0 : ((c0 : Int) != 0) = true := bne_iff_ne.2 (by omega)
   clear h0 hc0
   obtain ⟨hr0, hr1, hr2, hr3⟩ := aN BR
   have fJ := fz BR 0
   have fQ := fz BR 1
   have fT := fz BR 2
   have fU := fz BR 3
   go_wp2
   refine bodyPost_ret (eP rfl _ _ gr 38 #[.string ⟨#[]⟩, .int .i64 0, .slice none 0 0, .string ⟨#[]⟩] (0, 0) _ rfl (aU BR) jY rfl (by kernel_rfl)) rfl ?_
   exact jH HR4.out (dR HB.out GR.out)
 have hz := Classical.not_not.1 h0
 have v_ := aA (aDM hz)
 rw [hz]
 clear h0 hz
 have Qd := aA (PK b 8)
 have MK := aA (PK b 9)
 generalize (eX b).1 = F at v_ sG RH HF rO Qd MK ⊢
 obtain ⟨L, hL⟩ : ∃ L, F.map toR = L := ⟨_, rfl⟩
 rw [hL] at HF rO ⊢
 have EG := aA hL
 clear hL
 obtain ⟨k0, k1, k2, k3, ko, kc, hq⟩ : ∃ q0 q1 q2 q3 qo qc, BC (eQ F 2) 0 = (q0, q1, q2, q3, qo, qc) := ⟨_, _, _, _, _, _, rfl⟩
 have RN := aA hq
 clear hq
 obtain ⟨n0, n1, n2, n3, no, nc, hq⟩ : ∃ q0 q1 q2 q3 qo qc, BC (eQ F 8) 2 = (q0, q1, q2, q3, qo, qc) := ⟨_, _, _, _, _, _, rfl⟩
 have RO := aA hq
 clear hq
 obtain ⟨d0, d1, d2, d3, dO, dc, hq⟩ : ∃ q0 q1 q2 q3 qo qc, BC (eQ F 9) 2 = (q0, q1, q2, q3, qo, qc) := ⟨_, _, _, _, _, _, rfl⟩
 have RL := aA hq
 clear hq
 obtain ⟨o0, o1, o2, o3, oo, oc, hq⟩ : ∃ q0 q1 q2 q3 qo qc, BC (eQ F 14) 0 = (q0, q1, q2, q3, qo, qc) := ⟨_, _, _, _, _, _, rfl⟩
 have RP := aA hq
 clear hq
 go_wp2_with (first | fail)
 refine (GQ.calls A c L 2 0 k0 k1 k2 k3 ko kc _ (Kd.gN HF.out H3.out) rO.out (by rw [← EG.out, P5 F sG.out 2 0, RN.out])).mono ?_
 rintro en Sc ⟨rfl, hb⟩
 replace BR := aI BR hb
 replace H3 := hbS H3 hb
 replace HB := hbS HB hb
 clear hb
 go_wp2_with (first | ((with_reducible refine cK (N := 8) rfl ?_); refine dB (N := 8) (cs := #[.int .i64 0, .int .i64 0, .int .u64 0, .string ⟨#[]⟩]) (t := 68) ?_; intro gk hg Bo aG hb; have BK := aA aG; have GK := bB HB hg; have VK := bB H3 hg; have RU := cO BR hg; have Qm := dD BR hg; replace BR := aI BR hb; replace HB := hbS HB hb; replace H3 := hbS H3 hb; clear hb aG hg; obtain ⟨hc0, hc1, hc2, hc3⟩ := aN BK; have hf0 := fz BK 0; have hf1 := fz BK 1; have hf2 := fz BK 2; have hf3 := fz BK 3))
 obtain ⟨WW, hw⟩ : ∃ wb, wb = (((Bo.setCell ⟨gk, 0, none⟩ (.int .i64 k0)).setCell ⟨gk, 1, none⟩ (.int .i64 k1)).setCell ⟨gk, 2, none⟩ (.int .u64 k2)).setCell ⟨gk, 3, none⟩ (.string k3) := ⟨_, rfl⟩
 rw [← hw]
 replace BR := aA (show WW.heap[gr]? = some _ from by rw [hw]; exact aU BR)
 replace BK := aA (show WW.heap[gk]? = some (.cells #[.int .i64 k0, .int .i64 k1, .int .u64 k2, .string k3] 68 (0, 0)) from by rw [hw]; exact aU BK)
 replace HB := aA (show Below w.heap.size w WW from by rw [hw]; exact dR HB.out GK.out)
 replace H3 := aA (show Below w3.heap.size w3 WW from by rw [hw]; exact dR H3.out VK.out)
 clear hw hc0 hc1 hc2 hc3 hf0 hf1 hf2 hf3
 refine (GQ.calls A c L 8 2 n0 n1 n2 n3 no nc _ (Kd.gN HF.out H3.out) rO.out (by rw [← EG.out, P5 F sG.out 8 2, RO.out])).mono ?_
 rintro en Sd ⟨rfl, hb⟩
 replace BR := aI BR hb
 replace BK := aI BK hb
 replace H3 := hbS H3 hb
 replace HB := hbS HB hb
 clear hb
 go_wp2_with (first | ((with_reducible refine cK (N := 11) rfl ?_); refine dB (N := 11) (cs := #[.int .i64 0, .int .i64 0, .int .u64 0, .string ⟨#[]⟩]) (t := 68) ?_; intro gn hg Br aG hb; have BN := aA aG; have GN := bB HB hg; have GN3 := bB H3 hg; have NRN := cO BR hg; have NNR := dD BR hg; replace BR := aI BR hb; have NKN := cO BK hg; have NNK := dD BK hg; replace BK := aI BK hb; replace HB := hbS HB hb; replace H3 := hbS H3 hb; clear hb aG hg; obtain ⟨hc0, hc1, hc2, hc3⟩ := aN BN; have hf0 := fz BN 0; have hf1 := fz BN 1; have hf2 := fz BN 2; have hf3 := fz BN 3))
 obtain ⟨R8, hw⟩ : ∃ wb, wb = (((Br.setCell ⟨gn, 0, none⟩ (.int .i64 n0)).setCell ⟨gn, 1, none⟩ (.int .i64 n1)).setCell ⟨gn, 2, none⟩ (.int .u64 n2)).setCell ⟨gn, 3, none⟩ (.string n3) := ⟨_, rfl⟩
 rw [← hw]
 replace BR := aA (show R8.heap[gr]? = some _ from by rw [hw]; exact aU BR)
 replace BK := aA (show R8.heap[gk]? = some _ from by rw [hw]; exact aU BK)
 replace BN := aA (show R8.heap[gn]? = some (.cells #[.int .i64 n0, .int .i64 n1, .int .u64 n2, .string n3] 68 (0, 0)) from by rw [hw]; exact aU BN)
 replace HB := aA (show Below w.heap.size w R8 from by rw [hw]; exact dR HB.out GN.out)
 replace H3 := aA (show Below w3.heap.size w3 R8 from by rw [hw]; exact dR H3.out GN3.out)
 clear hw hc0 hc1 hc2 hc3 hf0 hf1 hf2 hf3
 refine (GQ.calls A c L 9 2 d0 d1 d2 d3 dO dc _ (Kd.gN HF.out H3.out) rO.out (by rw [← EG.out, P5 F sG.out 9 2, RL.out])).mono ?_
 rintro en Sg ⟨rfl, hb⟩
 replace BR := aI BR hb
 replace BK := aI BK hb
 replace BN := aI BN hb
 replace H3 := hbS H3 hb
 replace HB := hbS HB hb
 clear hb
 go_wp2_with (first | ((with_reducible refine cK (N := 14) rfl ?_); refine dB (N := 14) (cs := #[.int .i64 0, .int .i64 0, .int .u64 0, .string ⟨#[]⟩]) (t := 68) ?_; intro gd hg Bt aG hb; have BD := aA aG; have GD := bB HB hg; have GD3 := bB H3 hg; have NRD := cO BR hg; have NDR := dD BR hg; replace BR := aI BR hb; have NKD := cO BK hg; have NDK := dD BK hg; replace BK := aI BK hb; have NND := cO BN hg; have NDN := dD BN hg; replace BN := aI BN hb; replace HB := hbS HB hb; replace H3 := hbS H3 hb; clear hb aG hg; obtain ⟨hc0, hc1, hc2, hc3⟩ := aN BD; have hf0 := fz BD 0; have hf1 := fz BD 1; have hf2 := fz BD 2; have hf3 := fz BD 3))
 obtain ⟨O7, hw⟩ : ∃ wb, wb = (((Bt.setCell ⟨gd, 0, none⟩ (.int .i64 d0)).setCell ⟨gd, 1, none⟩ (.int .i64 d1)).setCell ⟨gd, 2, none⟩ (.int .u64 d2)).setCell ⟨gd, 3, none⟩ (.string d3) := ⟨_, rfl⟩
 rw [← hw]
 replace BR := aA (show O7.heap[gr]? = some _ from by rw [hw]; exact aU BR)
 replace BK := aA (show O7.heap[gk]? = some _ from by rw [hw]; exact aU BK)
 replace BN := aA (show O7.heap[gn]? = some _ from by rw [hw]; exact aU BN)
 replace BD := aA (show O7.heap[gd]? = some (.cells #[.int .i64 d0, .int .i64 d1, .int .u64 d2, .string d3] 68 (0, 0)) from by rw [hw]; exact aU BD)
 replace HB := aA (show Below w.heap.size w O7 from by rw [hw]; exact dR HB.out GD.out)
 replace H3 := aA (show Below w3.heap.size w3 O7 from by rw [hw]; exact dR H3.out GD3.out)
 clear hw hc0 hc1 hc2 hc3 hf0 hf1 hf2 hf3
 refine (GQ.calls A c L 14 0 o0 o1 o2 o3 oo oc _ (Kd.gN HF.out H3.out) rO.out (by rw [← EG.out, P5 F sG.out 14 0, RP.out])).mono ?_
 rintro en _w ⟨rfl, hb⟩
 replace BR := aI BR hb
 replace BK := aI BK hb
 replace BN := aI BN hb
 replace BD := aI BD hb
 replace H3 := hbS H3 hb
 replace HB := hbS HB hb
 clear hb
 by_cases hc : lW (eQ F 2) 0 = 0 ∧ lW (eQ F 8) 2 = 0 ∧ lW (eQ F 9) 2 = 0 ∧ lW (eQ F 14) 0 = 0
 rotate_left
 · have HR4 := aA (show R = (iJ, 3) from eF.out _ _ (v_.out.trans (iN hc)) (by decide))
   have e1 : kc = lW (eQ F 2) 0 := by rw [← LH, RN.out]
   have e2 : nc = lW (eQ F 8) 2 := by rw [← LH, RO.out]
   have e3 : dc = lW (eQ F 9) 2 := by rw [← LH, RL.out]
   have e4 : oc = lW (eQ F 14) 0 := by rw [← LH, RP.out]
   have hsum := aAg (AO (eQ F 2) 0) (AO (eQ F 8) 2) (AO (eQ F 9) 2) (AO (eQ F 14) 0) hc
   rw [← e1, ← e2, ← e3, ← e4] at hsum
   have aEm := hsum
   simp only [dC] at aEm
   clear hc e1 e2 e3 e4 RN RO RL RP
   go_wp2_with (first | ((with_reducible refine cK (N := 17) rfl ?_); refine dB (N := 17) (cs := #[.int .i64 0, .int .i64 0, .int .u64 0, .string ⟨#[]⟩]) (t := 68) ?_; intro go hg O6 aG hb; have BO := aA aG; have GO := bB HB hg; have Po := bB H3 hg; have N_ := cO BR hg; have NOR := dD BR hg; replace BR := aI BR hb; have ze := cO BK hg; have zk := dD BK hg; replace BK := aI BK hb; have zg := cO BN hg; have zm := dD BN hg; replace BN := aI BN hb; have za := cO BD hg; have zh := dD BD hg; replace BD := aI BD hb; replace HB := hbS HB hb; replace H3 := hbS H3 hb; clear hb aG hg; obtain ⟨hc0, hc1, hc2, hc3⟩ := aN BO; have hf0 := fz BO 0; have hf1 := fz BO 1; have hf2 := fz BO 2; have hf3 := fz BO 3; obtain ⟨hr0, hr1, hr2, hr3⟩ := aN BR; have fJ := fz BR 0; have fQ := fz BR 1; have fT := fz BR 2; have fU := fz BR 3; have n1 := N_.out; have n2 := NOR.out))
   refine bodyPost_ret (eP rfl _ _ gr 38 #[.string ⟨#[]⟩, .int .i64 0, .slice none 0 0, .string ⟨#[]⟩] (0, 0) _ rfl (aU BR) jY rfl (by kernel_rfl)) rfl ?_
   exact jH HR4.out (dR (dR HB.out GO.out) GR.out)
 obtain ⟨rfl, rfl, rfl, rfl⟩ : kc = 0 ∧ nc = 0 ∧ dc = 0 ∧ oc = 0 := by
  have h1 := LH (eQ F 2) 0
  have h2 := LH (eQ F 8) 2
  have h3 := LH (eQ F 9) 2
  have h4 := LH (eQ F 14) 0
  rw [RN.out] at h1
  rw [RO.out] at h2
  rw [RL.out] at h3
  rw [RP.out] at h4
  exact ⟨h1.trans hc.1, h2.trans hc.2.1, h3.trans hc.2.2.1, h4.trans hc.2.2.2⟩
 have HA1 := aA (v_.out.trans (ip hc))
 have TK := aA (show eQ F 2 = (k0, k1, k2, k3, ko) from by have h := RN.out; rw [XP hc.1] at h; simp only [Prod.mk.injEq] at h; rw [← h.1, ← h.2.1, ← h.2.2.1, ← h.2.2.2.1, ← h.2.2.2.2.1])
 have TN := aA (show eQ F 8 = (n0, n1, n2, n3, no) from by have h := RO.out; rw [XP hc.2.1] at h; simp only [Prod.mk.injEq] at h; rw [← h.1, ← h.2.1, ← h.2.2.1, ← h.2.2.2.1, ← h.2.2.2.2.1])
 have TD := aA (show eQ F 9 = (d0, d1, d2, d3, dO) from by have h := RL.out; rw [XP hc.2.2.1] at h; simp only [Prod.mk.injEq] at h; rw [← h.1, ← h.2.1, ← h.2.2.1, ← h.2.2.2.1, ← h.2.2.2.2.1])
 have TO := aA (show eQ F 14 = (o0, o1, o2, o3, oo) from by have h := RP.out; rw [XP hc.2.2.2] at h; simp only [Prod.mk.injEq] at h; rw [← h.1, ← h.2.1, ← h.2.2.1, ← h.2.2.2.1, ← h.2.2.2.2.1])
 clear hc RN RO RL RP v_
 have HDn := aA (show dO = false → d3 = ⟨#[]⟩ from fun h => by have h2 := Ze (F := F) (n := 9); rw [TD.out] at h2; exact h2 h)
 have HA2 := aA (show jM b = DY k2 n3 d3 dO o2 (tO F 1).1 (tO F 5).1 (tO F 7).1 (OL F 13) (rG (rG ((tO F 1).2 : Int) ((tO F 5).2 : Int)) ((tO F 7).2 : Int)) from HA1.out.trans (by unfold Qv; rw [TK.out, TN.out, TD.out, TO.out]))
 have KJ := aA (show n3.size ≤ 10000 from by
  have h : (eQ F 8).2.2.2.1.size ≤ b.size := Qd.out
  rw [TN.out] at h
  have := HS.out.2.2
  exact Nat.le_trans h this)
 have HD3 := aA (show d3.size ≤ 10000 from by
  have h : (eQ F 9).2.2.2.1.size ≤ b.size := MK.out
  rw [TD.out] at h
  have := HS.out.2.2
  exact Nat.le_trans h this)
 clear HA1 TK TN TD TO
 go_wp2_with (first | ((with_reducible refine cK (N := 17) rfl ?_); refine dB (N := 17) (cs := #[.int .i64 0, .int .i64 0, .int .u64 0, .string ⟨#[]⟩]) (t := 68) ?_; intro go hg O6 aG hb; have BO := aA aG; have GO := bB HB hg; have Po := bB H3 hg; have N_ := cO BR hg; have NOR := dD BR hg; replace BR := aI BR hb; have ze := cO BK hg; have zk := dD BK hg; replace BK := aI BK hb; have zg := cO BN hg; have zm := dD BN hg; replace BN := aI BN hb; have za := cO BD hg; have zh := dD BD hg; replace BD := aI BD hb; replace HB := hbS HB hb; replace H3 := hbS H3 hb; clear hb aG hg; obtain ⟨hc0, hc1, hc2, hc3⟩ := aN BO; have hf0 := fz BO 0; have hf1 := fz BO 1; have hf2 := fz BO 2; have hf3 := fz BO 3))
 obtain ⟨M9, hw⟩ : ∃ wb, wb = (((O6.setCell ⟨go, 0, none⟩ (.int .i64 o0)).setCell ⟨go, 1, none⟩ (.int .i64 o1)).setCell ⟨go, 2, none⟩ (.int .u64 o2)).setCell ⟨go, 3, none⟩ (.string o3) := ⟨_, rfl⟩
 rw [← hw]
 replace BR := aA (show M9.heap[gr]? = some _ from by rw [hw]; exact aU BR)
 replace BK := aA (show M9.heap[gk]? = some _ from by rw [hw]; exact aU BK)
 replace BN := aA (show M9.heap[gn]? = some _ from by rw [hw]; exact aU BN)
 replace BD := aA (show M9.heap[gd]? = some _ from by rw [hw]; exact aU BD)
 replace BO := aA (show M9.heap[go]? = some (.cells #[.int .i64 o0, .int .i64 o1, .int .u64 o2, .string o3] 68 (0, 0)) from by rw [hw]; exact aU BO)
 replace HB := aA (show Below w.heap.size w M9 from by rw [hw]; exact dR HB.out GO.out)
 replace H3 := aA (show Below w3.heap.size w3 M9 from by rw [hw]; exact dR H3.out Po.out)
 clear hw hc0 hc1 hc2 hc3 hf0 hf1 hf2 hf3
 obtain ⟨x1, e1, hx1⟩ : ∃ x e, tO F 1 = (x, e) := ⟨_, _, rfl⟩
 have HI1 := aA (jb EG.out sG.out HS.out.2.2 RH.out 1 hx1)
 have HL1 := aA (show x1.length ≤ 65536 from by have h := au F 1; rw [hx1] at h; exact h)
 obtain ⟨x5, e5, hx5⟩ : ∃ x e, tO F 5 = (x, e) := ⟨_, _, rfl⟩
 have Pv := aA (jb EG.out sG.out HS.out.2.2 RH.out 5 hx5)
 have D_ := aA (show x5.length ≤ 65536 from by have h := au F 5; rw [hx5] at h; exact h)
 obtain ⟨x7, e7, hx7⟩ : ∃ x e, tO F 7 = (x, e) := ⟨_, _, rfl⟩
 have Pw := aA (jb EG.out sG.out HS.out.2.2 RH.out 7 hx7)
 have E_ := aA (show x7.length ≤ 65536 from by have h := au F 7; rw [hx7] at h; exact h)
 obtain ⟨ts, et, hxt⟩ : ∃ x e, OL F 13 = (x, e) := ⟨_, _, rfl⟩
 have Px := aA (aAP EG.out sG.out 13 hxt)
 have yu := aA (show ∀ s ∈ ts, s.size ≤ 10000 from by have h := Zv RH.out 13; rw [hxt] at h; exact fun s hs => Nat.le_trans (h s hs) HS.out.2.2)
 rw [hx1, hx5, hx7, hxt] at HA2
 dsimp only at HA2
 clear hx1 hx5 hx7 hxt EG RH sG
 refine (EM.calls A c L 1 x1 (e1 : Int) _ (Kd.gN HF.out H3.out) rO.out HI1.out).mono ?_
 rintro en Si ⟨v, rfl, q, hb⟩
 obtain ⟨A1, c1, rfl⟩ := Kd.jF q
 have S1 := aA H3.out.size
 have X1 := aA (show Kd.F (Kd.int .i64) Si (fun k => w3.heap.size ≤ k ∧ k < Si.heap.size) A1 x1.length x1 from Kd.KN (Kd.eO (Kd.nU q) (fun k hk => ⟨Nat.le_trans S1.out hk.2.1, hk.2.2.1⟩)))
 have MR := aA (Kd.jA q).2.1
 replace BR := aI BR hb
 replace BK := aI BK hb
 replace BN := aI BN hb
 replace BD := aI BD hb
 replace BO := aI BO hb
 replace H3 := hbS H3 hb
 replace HB := hbS HB hb
 clear q hb S1
 by_cases h0 : e1 ≠ 0
 · have hz : (e1 : Int) ≠ 0 := by omega
   have b0 : ((e1 : Int) != 0) = true := bne_iff_ne.2 hz
   have HR4 := aA (show R = (iJ, (e1 : Int)) from eF.out _ _ (by rw [HA2.out, YR _ (show rG (e1 : Int) (e5 : Int) ≠ 0 by rw [YR _ hz]; exact hz), YR _ hz]; exact bq hz) hz)
   clear h0 hz
   obtain ⟨hr0, hr1, hr2, hr3⟩ := aN BR
   have fJ := fz BR 0
   have fQ := fz BR 1
   have fT := fz BR 2
   have fU := fz BR 3
   go_wp2
   refine bodyPost_ret (eP rfl _ _ gr 38 #[.string ⟨#[]⟩, .int .i64 0, .slice none 0 0, .string ⟨#[]⟩] (0, 0) _ rfl (aU BR) jY rfl (by kernel_rfl)) rfl ?_
   exact jH HR4.out (dR HB.out GR.out)
 obtain rfl : e1 = 0 := Classical.not_not.1 h0
 have b0 : (((0 : Nat) : Int) != 0) = false := by decide
 clear h0
 replace HA2 := aA (HA2.out.trans (by rw [show ((0 : Nat) : Int) = 0 from rfl, Ku]))
 go_wp2_with (first | fail)
 clear b0
 refine (EM.calls A c L 5 x5 (e5 : Int) _ (Kd.gN HF.out H3.out) rO.out Pv.out).mono ?_
 rintro en Sj ⟨v, rfl, q, hb⟩
 obtain ⟨A2, c2, rfl⟩ := Kd.jF q
 have S5 := aA H3.out.size
 replace X1 := aA (kZ X1.out hb)
 have X5 := aA (show Kd.F (Kd.int .i64) Sj (fun k => w3.heap.size ≤ k ∧ k < Sj.heap.size) A2 x5.length x5 from Kd.KN (Kd.eO (Kd.nU q) (fun k hk => ⟨Nat.le_trans S5.out hk.2.1, hk.2.2.1⟩)))
 have X5c := aA (Kd.jA q).2.1
 replace BR := aI BR hb
 replace BK := aI BK hb
 replace BN := aI BN hb
 replace BD := aI BD hb
 replace BO := aI BO hb
 replace H3 := hbS H3 hb
 replace HB := hbS HB hb
 clear q hb S5
 by_cases h0 : e5 ≠ 0
 · have hz : (e5 : Int) ≠ 0 := by omega
   have b0 : ((e5 : Int) != 0) = true := bne_iff_ne.2 hz
   have HR4 := aA (show R = (iJ, (e5 : Int)) from eF.out _ _ (by rw [HA2.out, YR _ hz]; exact bq hz) hz)
   clear h0 hz
   obtain ⟨hr0, hr1, hr2, hr3⟩ := aN BR
   have fJ := fz BR 0
   have fQ := fz BR 1
   have fT := fz BR 2
   have fU := fz BR 3
   go_wp2
   refine bodyPost_ret (eP rfl _ _ gr 38 #[.string ⟨#[]⟩, .int .i64 0, .slice none 0 0, .string ⟨#[]⟩] (0, 0) _ rfl (aU BR) jY rfl (by kernel_rfl)) rfl ?_
   exact jH HR4.out (dR HB.out GR.out)
 obtain rfl : e5 = 0 := Classical.not_not.1 h0
 have b0 : (((0 : Nat) : Int) != 0) = false := by decide
 clear h0
 replace HA2 := aA (HA2.out.trans (by rw [show ((0 : Nat) : Int) = 0 from rfl, Ku]))
 go_wp2_with (first | fail)
 clear b0
 refine (EM.calls A c L 7 x7 (e7 : Int) _ (Kd.gN HF.out H3.out) rO.out Pw.out).mono ?_
 rintro en wd2 ⟨v, rfl, q, hb⟩
 obtain ⟨A3, c3, rfl⟩ := Kd.jF q
 have S7 := aA H3.out.size
 replace X1 := aA (kZ X1.out hb)
 replace X5 := aA (kZ X5.out hb)
 have X7 := aA (show Kd.F (Kd.int .i64) wd2 (fun k => w3.heap.size ≤ k ∧ k < wd2.heap.size) A3 x7.length x7 from Kd.KN (Kd.eO (Kd.nU q) (fun k hk => ⟨Nat.le_trans S7.out hk.2.1, hk.2.2.1⟩)))
 have X7c := aA (Kd.jA q).2.1
 replace BR := aI BR hb
 replace BK := aI BK hb
 replace BN := aI BN hb
 replace BD := aI BD hb
 replace BO := aI BO hb
 replace H3 := hbS H3 hb
 replace HB := hbS HB hb
 clear q hb S7
 by_cases h0 : e7 ≠ 0
 · have hz : (e7 : Int) ≠ 0 := by omega
   have b0 : ((e7 : Int) != 0) = true := bne_iff_ne.2 hz
   have HR4 := aA (show R = (iJ, (e7 : Int)) from eF.out _ _ (by rw [HA2.out]; exact bq hz) hz)
   clear h0 hz
   obtain ⟨hr0, hr1, hr2, hr3⟩ := aN BR
   have fJ := fz BR 0
   have fQ := fz BR 1
   have fT := fz BR 2
   have fU := fz BR 3
   go_wp2
   refine bodyPost_ret (eP rfl _ _ gr 38 #[.string ⟨#[]⟩, .int .i64 0, .slice none 0 0, .string ⟨#[]⟩] (0, 0) _ rfl (aU BR) jY rfl (by kernel_rfl)) rfl ?_
   exact jH HR4.out (dR HB.out GR.out)
 obtain rfl : e7 = 0 := Classical.not_not.1 h0
 have b0 : (((0 : Nat) : Int) != 0) = false := by decide
 clear h0
 replace HA2 := aA (HA2.out.trans (by rw [show ((0 : Nat) : Int) = 0 from rfl]))
 go_wp2_with (first | fail)
 clear b0
 refine (JI.calls A c L 13 ts (et : Int) _ (Kd.gN HF.out H3.out) rO.out Px.out).mono ?_
 rintro en wd3 ⟨v, rfl, q, hb⟩
 obtain ⟨A4, c4, rfl⟩ := Kd.jF q
 have St := aA H3.out.size
 replace X1 := aA (kZ X1.out hb)
 replace X5 := aA (kZ X5.out hb)
 replace X7 := aA (kZ X7.out hb)
 have Xt := aA (show Kd.F Kd.string wd3 (fun k => w3.heap.size ≤ k ∧ k < wd3.heap.size) A4 ts.length ts from Kd.KN (Kd.eO (Kd.nU q) (fun k hk => ⟨Nat.le_trans St.out hk.2.1, hk.2.2.1⟩)))
 have Xtc := aA (Kd.jA q).2.1
 replace BR := aI BR hb
 replace BK := aI BK hb
 replace BN := aI BN hb
 replace BD := aI BD hb
 replace BO := aI BO hb
 replace H3 := hbS H3 hb
 replace HB := hbS HB hb
 clear q hb St
 by_cases h0 : et ≠ 0
 · have hz : (et : Int) ≠ 0 := by omega
   have b0 : ((et : Int) != 0) = true := bne_iff_ne.2 hz
   have HR4 := aA (show R = (iJ, (et : Int)) from eF.out _ _ (by rw [HA2.out]; exact aA1 h0) hz)
   clear h0 hz
   obtain ⟨hr0, hr1, hr2, hr3⟩ := aN BR
   have fJ := fz BR 0
   have fQ := fz BR 1
   have fT := fz BR 2
   have fU := fz BR 3
   go_wp2
   refine bodyPost_ret (eP rfl _ _ gr 38 #[.string ⟨#[]⟩, .int .i64 0, .slice none 0 0, .string ⟨#[]⟩] (0, 0) _ rfl (aU BR) jY rfl (by kernel_rfl)) rfl ?_
   exact jH HR4.out (dR HB.out GR.out)
 obtain rfl : et = 0 := Classical.not_not.1 h0
 have b0 : (((0 : Nat) : Int) != 0) = false := by decide
 have MI := aA (HA2.out.trans (aCN rfl))
 clear h0 HA2 HF rO HI1 Pv Pw Px
 dsimp only at MI
 have H5 := aA (Below.refl wd3.heap.size wd3)
 have S5 := aA H3.out.size
 have HBs := aA HB.out.size
 clear H3
 obtain ⟨hk0, hk1, hk2, hk3⟩ := aN BK
 obtain ⟨hn0, hn1, hn2, KT⟩ := aN BN
 obtain ⟨hd0, hd1, hd2, hd3⟩ := aN BD
 obtain ⟨ho0, ho1, ho2, ho3⟩ := aN BO
 by_cases h19 : 1 < o2
 · have b1 : decide (1 < o2) = true := dT h19
   have HR4 := aA (show R = (iJ, 19) from eF.out _ _ (MI.out.trans (aCL h19)) (by decide))
   clear h19
   obtain ⟨hr0, hr1, hr2, hr3⟩ := aN BR
   have fJ := fz BR 0
   have fQ := fz BR 1
   have fT := fz BR 2
   have fU := fz BR 3
   go_wp2
   refine bodyPost_ret (eP rfl _ _ gr 38 #[.string ⟨#[]⟩, .int .i64 0, .slice none 0 0, .string ⟨#[]⟩] (0, 0) _ rfl (aU BR) jY rfl (by kernel_rfl)) rfl ?_
   exact jH HR4.out (dR HB.out GR.out)
 have b1 : decide (1 < o2) = false := dF h19
 have u_ := aA (Int.not_lt.1 h19)
 clear h19
 go_wp2_with (first | fail)
 refine (xS.calls n3 (tK n3) _ (ip (by have := KJ.out; omega))).mono ?_
 rintro en we0 ⟨rfl, hd⟩
 have hb := wU hd
 replace BR := aI BR hb
 replace BK := aI BK hb
 replace BN := aI BN hb
 replace BD := aI BD hb
 replace BO := aI BO hb
 replace H5 := hbS H5 hb
 replace HB := hbS HB hb
 clear hb hd b0 b1
 clear hk0 hk1 hk2 hk3 hn0 hn1 hn2 KT hd0 hd1 hd2 hd3 ho0 ho1 ho2 ho3
 obtain ⟨hk0, hk1, hk2, hk3⟩ := aN BK
 obtain ⟨hn0, hn1, hn2, KT⟩ := aN BN
 obtain ⟨hd0, hd1, hd2, hd3⟩ := aN BD
 obtain ⟨ho0, ho1, ho2, ho3⟩ := aN BO
 cases hnm : tK n3 with
 | false =>
  have HR4 := aA (show R = (iJ, 8) from eF.out _ _ (MI.out.trans (aDN u_.out hnm)) (by decide))
  clear hnm
  obtain ⟨hr0, hr1, hr2, hr3⟩ := aN BR
  have fJ := fz BR 0
  have fQ := fz BR 1
  have fT := fz BR 2
  have fU := fz BR 3
  go_wp2
  refine bodyPost_ret (eP rfl _ _ gr 38 #[.string ⟨#[]⟩, .int .i64 0, .slice none 0 0, .string ⟨#[]⟩] (0, 0) _ rfl (aU BR) jY rfl (by kernel_rfl)) rfl ?_
  exact jH HR4.out (dR HB.out GR.out)
 | true =>
  by_cases Q7 : k2 < 100
  rotate_left
  · have b2 : decide (k2 < 100) = false := dF Q7
    have HR4 := aA (show R = (iJ, 5) from eF.out _ _ (MI.out.trans (Mi u_.out hnm (aAL Q7))) (by decide))
    clear hnm Q7
    obtain ⟨hr0, hr1, hr2, hr3⟩ := aN BR
    have fJ := fz BR 0
    have fQ := fz BR 1
    have fT := fz BR 2
    have fU := fz BR 3
    go_wp2
    refine bodyPost_ret (eP rfl _ _ gr 38 #[.string ⟨#[]⟩, .int .i64 0, .slice none 0 0, .string ⟨#[]⟩] (0, 0) _ rfl (aU BR) jY rfl (by kernel_rfl)) rfl ?_
    exact jH HR4.out (dR HB.out GR.out)
  have b2 : decide (k2 < 100) = true := dT Q7
  rw [aCV Q7] at MI
  clear Q7
  go_wp2_with (first | fail)
  refine (xR.calls (wrap64 k2) (gF (wrap64 k2)) _ rfl).mono ?_
  rintro en we1 ⟨rfl, hd⟩
  have hb := wU hd
  replace BR := aI BR hb
  replace BK := aI BK hb
  replace BN := aI BN hb
  replace BD := aI BD hb
  replace BO := aI BO hb
  replace H5 := hbS H5 hb
  replace HB := hbS HB hb
  clear hb hd b2
  clear hk0 hk1 hk2 hk3 hn0 hn1 hn2 KT hd0 hd1 hd2 hd3 ho0 ho1 ho2 ho3
  obtain ⟨hk0, hk1, hk2, hk3⟩ := aN BK
  obtain ⟨hn0, hn1, hn2, KT⟩ := aN BN
  obtain ⟨hd0, hd1, hd2, hd3⟩ := aN BD
  obtain ⟨ho0, ho1, ho2, ho3⟩ := aN BO
  obtain ⟨sz, hsz⟩ : ∃ sz, gF (wrap64 k2) = sz := ⟨_, rfl⟩
  rw [hsz]
  by_cases hs : sz = 0
  · have b3 : (sz == 0) = true := beq_iff_eq.2 hs
    have HR4 := aA (show R = (iJ, 5) from eF.out _ _ (MI.out.trans (Mi u_.out hnm (hsz.trans hs))) (by decide))
    clear hnm hs hsz
    obtain ⟨hr0, hr1, hr2, hr3⟩ := aN BR
    have fJ := fz BR 0
    have fQ := fz BR 1
    have fT := fz BR 2
    have fU := fz BR 3
    go_wp2
    refine bodyPost_ret (eP rfl _ _ gr 38 #[.string ⟨#[]⟩, .int .i64 0, .slice none 0 0, .string ⟨#[]⟩] (0, 0) _ rfl (aU BR) jY rfl (by kernel_rfl)) rfl ?_
    exact jH HR4.out (dR HB.out GR.out)
  have b3 : (sz == 0) = false := beq_eq_false_iff_ne.2 hs
  obtain ⟨els, ec, hse⟩ : ∃ els ec, kE x1 = (els, ec) := ⟨_, _, rfl⟩
  have xn := aA (MI.out.trans (by rw [aCM u_.out hnm (by rw [hsz]; exact hs), hse]))
  have uV := aA hsz
  clear MI hnm hs hsz
  go_wp2_with (first | fail)
  refine (yY.calls A1 c1 x1 els ec _ (Kd.gN (Kd.mK X1.out) H5.out) MR.out (congrArg some hse)).mono ?_
  rintro en we2 ⟨rfl, hd⟩
  have hb := wU hd
  replace BR := aI BR hb
  replace BK := aI BK hb
  replace BN := aI BN hb
  replace BD := aI BD hb
  replace BO := aI BO hb
  replace H5 := hbS H5 hb
  replace HB := hbS HB hb
  clear hb hd b3
  clear hk0 hk1 hk2 hk3 hn0 hn1 hn2 KT hd0 hd1 hd2 hd3 ho0 ho1 ho2 ho3
  obtain ⟨hk0, hk1, hk2, hk3⟩ := aN BK
  obtain ⟨hn0, hn1, hn2, KT⟩ := aN BN
  obtain ⟨hd0, hd1, hd2, hd3⟩ := aN BD
  obtain ⟨ho0, ho1, ho2, ho3⟩ := aN BO
  by_cases he : ec ≠ 0
  · have b4 : (ec != 0) = true := bne_iff_ne.2 he
    have HR4 := aA (show R = (iJ, ec) from eF.out _ _ xn.out he)
    clear he hse
    obtain ⟨hr0, hr1, hr2, hr3⟩ := aN BR
    have fJ := fz BR 0
    have fQ := fz BR 1
    have fT := fz BR 2
    have fU := fz BR 3
    go_wp2
    refine bodyPost_ret (eP rfl _ _ gr 38 #[.string ⟨#[]⟩, .int .i64 0, .slice none 0 0, .string ⟨#[]⟩] (0, 0) _ rfl (aU BR) jY rfl (by kernel_rfl)) rfl ?_
    exact jH HR4.out (dR HB.out GR.out)
  obtain rfl : ec = 0 := Classical.not_not.1 he
  have HEl := aA (show 0 ≤ els ∧ els ≤ 65536 from by have h := Dh x1; rw [hse] at h; exact h)
  have HM := aA (CE.out _ xn.out)
  dsimp only at HM
  clear he hse xn eF CE
  go_upto_region 35 with (first | ((with_reducible refine cK (N := 26) rfl ?_); refine dB (N := 26) (cs := #[.string ⟨#[]⟩, .int .i64 0, .slice none 0 0, .string ⟨#[]⟩]) (t := 38) ?_; intro gt hg wf aG hb; have BT := aA aG; have GT := bB HB hg; have p_ := bB H5 hg; have lM := cO BR hg; have l9 := dD BR hg; have NOT := cO BO hg; have NTO := dD BO hg; replace BR := aI BR hb; replace BK := aI BK hb; replace BN := aI BN hb; replace BD := aI BD hb; replace BO := aI BO hb; replace H5 := hbS H5 hb; replace HB := hbS HB hb; clear hb aG hg hk0 hk1 hk2 hk3 hn0 hn1 hn2 KT hd0 hd1 hd2 hd3 ho0 ho1 ho2 ho3; obtain ⟨ht0, ht1, ht2, ht3⟩ := aN BT; have CY := fz BT 0; have CZ := fz BT 1; have C8 := fz BT 2; have qB := fz BT 3; obtain ⟨ho0, ho1, ho2, ho3⟩ := aN BO; have n1 := NOT.out; have n2 := NTO.out))
  obtain ⟨wg, hw⟩ : ∃ wb, wb = (((wf.setCell ⟨gt, 0, none⟩ (.string n3)).setCell ⟨gt, 1, none⟩ (.int .i64 (wrap64 k2))).setCell ⟨gt, 2, none⟩ (.slice A1 x1.length c1)).setCell ⟨gt, 3, none⟩ (.string d3) := ⟨_, rfl⟩
  rw [← hw]
  replace BR := aA (show wg.heap[gr]? = some _ from by rw [hw]; exact aU BR)
  replace BO := aA (show wg.heap[go]? = some _ from by rw [hw]; exact aU BO)
  replace BT := aA (show wg.heap[gt]? = some (.cells #[.string n3, .int .i64 (wrap64 k2), .slice A1 x1.length c1, .string d3] 38 (0, 0)) from by rw [hw]; exact aU BT)
  replace HB := aA (show Below w.heap.size w wg from by rw [hw]; exact dR HB.out GT.out)
  replace H5 := aA (show Below wd3.heap.size wd3 wg from by rw [hw]; exact dR H5.out p_.out)
  clear hw ht0 ht1 ht2 ht3 CY CZ C8 qB ho0 ho1 ho2 ho3 n1 n2 BK BN BD
  generalize wrap64 k2 = kd at HM uV BT ⊢
  obtain ⟨ho0, ho1, ho2, ho3⟩ := aN BO
  have hzl : IntKind.i64.wrap ((x5.length : Int) + (x7.length : Int)) = (x5.length : Int) + (x7.length : Int) := by rw [dC]; have := D_.out; have := E_.out; exact fC (by omega) (by omega)
  by_cases ho : o2 = 1
  · have b5 : (o2 == 1) = true := beq_iff_eq.2 ho
    obtain ⟨need, hN⟩ : ∃ need, els * gF kd = need := ⟨_, rfl⟩
    have MM := aA (HM.out.trans (ip ho))
    rw [hN] at MM
    have I8 := aA (show 0 ≤ need ∧ need ≤ 1000000000 from by
     have h8 := Kw kd
     have h1 := HEl.out
     rw [← hN]
     exact ⟨Int.mul_nonneg h1.1 h8.1, Int.le_trans (Int.mul_le_mul h1.2 h8.2 h8.1 (by decide)) (by decide)⟩)
    have hmul : IntKind.i64.wrap (sz * els) = need := by rw [dC, ← uV.out, Int.mul_comm, hN]; have := I8.out; exact fC (by omega) (by omega)
    clear hN ho HM
    obtain ⟨ht0, ht1, ht2, ht3⟩ := aN BT
    cases dO with
    | true =>
     clear hzl
     go_wp2_with (first | fail)
     refine (_Y n3 kd _ A1 c1 x1 d3 true A4 c4 ts Af cf l need _ (kZ X1.out H5.out) MR.out (Kd.gN (Kd.mK Xt.out) H5.out) yu.out (Kd.gN yj.out HB.out) mQ.out ⟨by have := KJ.out; omega, I8.out.1, I8.out.2, HS.out.1, HS.out.2.1⟩).mono ?_
     rintro en wh ⟨v, rfl, hv, hb⟩
     obtain ⟨⟨sn, sk, sd, FZ⟩, sc, uB⟩ : ∃ t c, o6 n3 kd x1 (zR true ts need (fV l)) = (t, c) := ⟨_, _, rfl⟩
     rw [uB] at hv ⊢
     dsimp only at hv ⊢
     obtain ⟨AU, cU, rfl⟩ := Kd.LF hv
     have qH := aA (show R = ((sn, sk, sd, FZ), sc) from MM.out.trans (by rw [Bool.true_or]; exact uB))
     have OQ := aA (Kd.MQ hv)
     have F5 := aA (Kd.LB hv).2.1
     replace BR := aI BR hb
     replace HB := hbS HB hb
     clear hb hv uB
     obtain ⟨hr0, hr1, hr2, hr3⟩ := aN BR
     have fJ := fz BR 0
     have fQ := fz BR 1
     have fT := fz BR 2
     have fU := fz BR 3
     go_wp2
     refine bodyPost_ret (eP rfl _ _ gr 38 #[.string sn, .int .i64 sk, .slice AU sd.length cU, .string FZ] (0, 0) _ rfl (aU BR) jY rfl (by kernel_rfl)) rfl ?_
     exact NN qH.out (dR HB.out GR.out) (JW OQ.out (fun k hk => Nat.ne_of_gt (Nat.lt_of_lt_of_le R3.out hk.1))) F5.out (fun k hk => Nat.le_trans S3.out hk.1)
    | false =>
     by_cases hfm : 0 < x5.length + x7.length
     · have b6 : decide (0 < (x5.length : Int) + (x7.length : Int)) = true := dT (by omega)
       have yf := aA (dT hfm)
       clear hfm
       go_wp2_with (first | fail)
       refine (_Y n3 kd _ A1 c1 x1 d3 true A4 c4 ts Af cf l need _ (kZ X1.out H5.out) MR.out (Kd.gN (Kd.mK Xt.out) H5.out) yu.out (Kd.gN yj.out HB.out) mQ.out ⟨by have := KJ.out; omega, I8.out.1, I8.out.2, HS.out.1, HS.out.2.1⟩).mono ?_
       rintro en wh ⟨v, rfl, hv, hb⟩
       obtain ⟨⟨sn, sk, sd, FZ⟩, sc, uB⟩ : ∃ t c, o6 n3 kd x1 (zR true ts need (fV l)) = (t, c) := ⟨_, _, rfl⟩
       rw [uB] at hv ⊢
       dsimp only at hv ⊢
       obtain ⟨AU, cU, rfl⟩ := Kd.LF hv
       have qH := aA (show R = ((sn, sk, sd, FZ), sc) from MM.out.trans (by rw [yf.out, Bool.false_or]; exact uB))
       have OQ := aA (Kd.MQ hv)
       have F5 := aA (Kd.LB hv).2.1
       replace BR := aI BR hb
       replace HB := hbS HB hb
       clear hb hv uB
       obtain ⟨hr0, hr1, hr2, hr3⟩ := aN BR
       have fJ := fz BR 0
       have fQ := fz BR 1
       have fT := fz BR 2
       have fU := fz BR 3
       go_wp2
       refine bodyPost_ret (eP rfl _ _ gr 38 #[.string sn, .int .i64 sk, .slice AU sd.length cU, .string FZ] (0, 0) _ rfl (aU BR) jY rfl (by kernel_rfl)) rfl ?_
       exact NN qH.out (dR HB.out GR.out) (JW OQ.out (fun k hk => Nat.ne_of_gt (Nat.lt_of_lt_of_le R3.out hk.1))) F5.out (fun k hk => Nat.le_trans S3.out hk.1)
     · have b6 : decide (0 < (x5.length : Int) + (x7.length : Int)) = false := dF (by omega)
       have yf := aA (dF hfm)
       clear hfm
       go_wp2_with (first | fail)
       refine (_Y n3 kd _ A1 c1 x1 d3 false A4 c4 ts Af cf l need _ (kZ X1.out H5.out) MR.out (Kd.gN (Kd.mK Xt.out) H5.out) yu.out (Kd.gN yj.out HB.out) mQ.out ⟨by have := KJ.out; omega, I8.out.1, I8.out.2, HS.out.1, HS.out.2.1⟩).mono ?_
       rintro en wh ⟨v, rfl, hv, hb⟩
       obtain ⟨⟨sn, sk, sd, FZ⟩, sc, uB⟩ : ∃ t c, o6 n3 kd x1 (zR false ts need (fV l)) = (t, c) := ⟨_, _, rfl⟩
       rw [uB] at hv ⊢
       dsimp only at hv ⊢
       obtain ⟨AU, cU, rfl⟩ := Kd.LF hv
       have qH := aA (show R = ((sn, sk, sd, FZ), sc) from MM.out.trans (by rw [yf.out, Bool.false_or]; exact uB))
       have OQ := aA (Kd.MQ hv)
       have F5 := aA (Kd.LB hv).2.1
       replace BR := aI BR hb
       replace HB := hbS HB hb
       clear hb hv uB
       obtain ⟨hr0, hr1, hr2, hr3⟩ := aN BR
       have fJ := fz BR 0
       have fQ := fz BR 1
       have fT := fz BR 2
       have fU := fz BR 3
       go_wp2
       refine bodyPost_ret (eP rfl _ _ gr 38 #[.string sn, .int .i64 sk, .slice AU sd.length cU, .string FZ] (0, 0) _ rfl (aU BR) jY rfl (by kernel_rfl)) rfl ?_
       exact NN qH.out (dR HB.out GR.out) (JW OQ.out (fun k hk => Nat.ne_of_gt (Nat.lt_of_lt_of_le R3.out hk.1))) F5.out (fun k hk => Nat.le_trans S3.out hk.1)
  have b5 : (o2 == 1) = false := beq_eq_false_iff_ne.2 ho
  have l8 := aA (HM.out.trans (iN ho))
  clear ho HM
  cases dO with
  | true =>
   by_cases hfm : 0 < x5.length + x7.length
   · have b6 : decide (0 < (x5.length : Int) + (x7.length : Int)) = true := dT (by omega)
     have HR4 := aA (show R = (iJ, 19) from l8.out.trans (by unfold oL; rw [ip rfl, ip hfm]; exact xX _ _ _ (by decide)))
     clear hfm
     obtain ⟨hr0, hr1, hr2, hr3⟩ := aN BR
     have fJ := fz BR 0
     have fQ := fz BR 1
     have fT := fz BR 2
     have fU := fz BR 3
     have kL := lM.out
     have KV := l9.out
     go_wp2
     refine bodyPost_ret (eP rfl _ _ gr 38 #[.string ⟨#[]⟩, .int .i64 0, .slice none 0 0, .string ⟨#[]⟩] (0, 0) _ rfl (aU BR) jY rfl (by kernel_rfl)) rfl ?_
     exact jH HR4.out (dR HB.out GR.out)
   · have b6 : decide (0 < (x5.length : Int) + (x7.length : Int)) = false := dF (by omega)
     have qH := aA (l8.out.trans (by unfold oL; rw [ip rfl, iN hfm, XO]))
     clear hfm l8
     obtain ⟨ht0, ht1, ht2, ht3⟩ := aN BT
     go_wp2_with (first | fail)
     refine (GJ.calls n3 kd A1 c1 x1 d3 _ _ (Kd.gN (Kd.mK X1.out) H5.out) MR.out (ip ⟨by have := KJ.out; omega, by have := HD3.out; omega⟩)).mono ?_
     rintro e wk ⟨rfl, hb⟩
     replace BR := aI BR hb
     replace BT := aI BT hb
     replace H5 := hbS H5 hb
     replace HB := hbS HB hb
     clear hb ht0 ht1 ht2 ht3
     obtain ⟨ck, hck⟩ : ∃ ck, qR n3 kd x1 d3 = ck := ⟨_, rfl⟩
     rw [hck] at qH ⊢
     clear hck
     obtain ⟨ht0, ht1, ht2, ht3⟩ := aN BT
     obtain ⟨hr0, hr1, hr2, hr3⟩ := aN BR
     have fJ := fz BR 0
     have fQ := fz BR 1
     have fT := fz BR 2
     have fU := fz BR 3
     have kL := lM.out
     have KV := l9.out
     by_cases hc : ck ≠ 0
     · have b1 : (ck != 0) = true := bne_iff_ne.2 hc
       have HR4 := aA (show R = (iJ, ck) from qH.out.trans (ip hc))
       clear hc
       go_wp2
       refine bodyPost_ret (eP rfl _ _ gr 38 #[.string ⟨#[]⟩, .int .i64 0, .slice none 0 0, .string ⟨#[]⟩] (0, 0) _ rfl (aU BR) jY rfl (by kernel_rfl)) rfl ?_
       exact jH HR4.out (dR HB.out GR.out)
     · have b1 : (ck != 0) = false := bne_eq_false_iff_eq.2 (Classical.not_not.1 hc)
       have HR4 := aA (qH.out.trans (iN hc))
       clear hc
       go_wp2
       refine bodyPost_ret (eP rfl _ _ gr 38 #[.string n3, .int .i64 kd, .slice A1 x1.length c1, .string d3] (0, 0) _ rfl (aU BR) jY rfl (by kernel_rfl)) rfl ?_
       exact NN HR4.out (dR HB.out GR.out) (JW (kZ X1.out H5.out) (fun k hk => Nat.ne_of_gt (Nat.lt_of_lt_of_le R3.out hk.1))) MR.out (fun k hk => Nat.le_trans S3.out hk.1)
  | false =>
   obtain rfl : d3 = ⟨#[]⟩ := HDn.out rfl
   obtain ⟨ht0, ht1, ht2, ht3⟩ := aN BT
   have hw : ((0 < x5.length ∧ kd = 2 ∧ 0 < x7.length) ∨ (0 < x5.length ∧ kd = 9 ∧ 0 < x7.length) ∨ (0 < x5.length ∧ kd ≠ 2 ∧ kd ≠ 9) ∨ (¬ 0 < x5.length ∧ 0 < x7.length ∧ kd ≠ 7)) ∨ ((0 < x5.length ∧ kd = 2 ∧ ¬ 0 < x7.length) ∨ (0 < x5.length ∧ kd = 9 ∧ ¬ 0 < x7.length) ∨ (¬ 0 < x5.length ∧ 0 < x7.length ∧ kd = 7) ∨ (¬ 0 < x5.length ∧ ¬ 0 < x7.length)) := by omega
   rcases hw with (⟨f0, q2, m0⟩ | ⟨f0, q9, m0⟩ | ⟨f0, q2, q9⟩ | ⟨f0, m0, q7⟩) | (⟨f0, q2, m0⟩ | ⟨f0, q9, m0⟩ | ⟨f0, m0, q7⟩ | ⟨f0, m0⟩)
   · have bf : decide (0 < (x5.length : Int)) = true := dT (by omega)
     have e2 : (kd != 2) = false := bne_eq_false_iff_eq.2 (by omega)
     have bm : decide (0 < (x7.length : Int)) = true := dT (by omega)
     have e7 : (kd != 7) = true := bne_iff_ne.2 (by omega)
     have HR4 := aA (show R = (iJ, 5) from l8.out.trans (by rw [K9 (.inr ⟨m0, by omega⟩)]; exact xX _ _ _ (by decide)))
     obtain ⟨hr0, hr1, hr2, hr3⟩ := aN BR
     have fJ := fz BR 0
     have fQ := fz BR 1
     have fT := fz BR 2
     have fU := fz BR 3
     have kL := lM.out
     have KV := l9.out
     go_wp2
     refine bodyPost_ret (eP rfl _ _ gr 38 #[.string ⟨#[]⟩, .int .i64 0, .slice none 0 0, .string ⟨#[]⟩] (0, 0) _ rfl (aU BR) jY rfl (by kernel_rfl)) rfl ?_
     exact jH HR4.out (dR HB.out GR.out)
   · have bf : decide (0 < (x5.length : Int)) = true := dT (by omega)
     have e2 : (kd != 2) = true := bne_iff_ne.2 (by omega)
     have e9 : (kd != 9) = false := bne_eq_false_iff_eq.2 (by omega)
     have bm : decide (0 < (x7.length : Int)) = true := dT (by omega)
     have e7 : (kd != 7) = true := bne_iff_ne.2 (by omega)
     have HR4 := aA (show R = (iJ, 5) from l8.out.trans (by rw [K9 (.inr ⟨m0, by omega⟩)]; exact xX _ _ _ (by decide)))
     obtain ⟨hr0, hr1, hr2, hr3⟩ := aN BR
     have fJ := fz BR 0
     have fQ := fz BR 1
     have fT := fz BR 2
     have fU := fz BR 3
     have kL := lM.out
     have KV := l9.out
     go_wp2
     refine bodyPost_ret (eP rfl _ _ gr 38 #[.string ⟨#[]⟩, .int .i64 0, .slice none 0 0, .string ⟨#[]⟩] (0, 0) _ rfl (aU BR) jY rfl (by kernel_rfl)) rfl ?_
     exact jH HR4.out (dR HB.out GR.out)
   · have bf : decide (0 < (x5.length : Int)) = true := dT (by omega)
     have e2 : (kd != 2) = true := bne_iff_ne.2 (by omega)
     have e9 : (kd != 9) = true := bne_iff_ne.2 (by omega)
     have HR4 := aA (show R = (iJ, 5) from l8.out.trans (by rw [K9 (.inl ⟨f0, q2, q9⟩)]; exact xX _ _ _ (by decide)))
     obtain ⟨hr0, hr1, hr2, hr3⟩ := aN BR
     have fJ := fz BR 0
     have fQ := fz BR 1
     have fT := fz BR 2
     have fU := fz BR 3
     have kL := lM.out
     have KV := l9.out
     go_wp2
     refine bodyPost_ret (eP rfl _ _ gr 38 #[.string ⟨#[]⟩, .int .i64 0, .slice none 0 0, .string ⟨#[]⟩] (0, 0) _ rfl (aU BR) jY rfl (by kernel_rfl)) rfl ?_
     exact jH HR4.out (dR HB.out GR.out)
   · have bf : decide (0 < (x5.length : Int)) = false := dF (by omega)
     have bm : decide (0 < (x7.length : Int)) = true := dT (by omega)
     have e7 : (kd != 7) = true := bne_iff_ne.2 (by omega)
     have HR4 := aA (show R = (iJ, 5) from l8.out.trans (by rw [K9 (.inr ⟨m0, q7⟩)]; exact xX _ _ _ (by decide)))
     obtain ⟨hr0, hr1, hr2, hr3⟩ := aN BR
     have fJ := fz BR 0
     have fQ := fz BR 1
     have fT := fz BR 2
     have fU := fz BR 3
     have kL := lM.out
     have KV := l9.out
     go_wp2
     refine bodyPost_ret (eP rfl _ _ gr 38 #[.string ⟨#[]⟩, .int .i64 0, .slice none 0 0, .string ⟨#[]⟩] (0, 0) _ rfl (aU BR) jY rfl (by kernel_rfl)) rfl ?_
     exact jH HR4.out (dR HB.out GR.out)
   focus
    have bf : decide (0 < (x5.length : Int)) = true := dT (by omega)
    have e2 : (kd != 2) = false := bne_eq_false_iff_eq.2 (by omega)
    have bm : decide (0 < (x7.length : Int)) = false := dF (by omega)
    have OG := aA (show ¬ ((0 < x5.length ∧ kd ≠ 2 ∧ kd ≠ 9) ∨ (0 < x7.length ∧ kd ≠ 7)) from by omega)
    go_wp2_with (first | fail)
    clear bf e2 bm f0 q2 m0
   rotate_left
   focus
    have bf : decide (0 < (x5.length : Int)) = true := dT (by omega)
    have e2 : (kd != 2) = true := bne_iff_ne.2 (by omega)
    have e9 : (kd != 9) = false := bne_eq_false_iff_eq.2 (by omega)
    have bm : decide (0 < (x7.length : Int)) = false := dF (by omega)
    have OG := aA (show ¬ ((0 < x5.length ∧ kd ≠ 2 ∧ kd ≠ 9) ∨ (0 < x7.length ∧ kd ≠ 7)) from by omega)
    go_wp2_with (first | fail)
    clear bf e2 e9 bm f0 q9 m0
   rotate_left
   focus
    have bf : decide (0 < (x5.length : Int)) = false := dF (by omega)
    have bm : decide (0 < (x7.length : Int)) = true := dT (by omega)
    have e7 : (kd != 7) = false := bne_eq_false_iff_eq.2 (by omega)
    have OG := aA (show ¬ ((0 < x5.length ∧ kd ≠ 2 ∧ kd ≠ 9) ∨ (0 < x7.length ∧ kd ≠ 7)) from by omega)
    go_wp2_with (first | fail)
    clear bf e7 bm f0 q7 m0
   rotate_left
   focus
    have bf : decide (0 < (x5.length : Int)) = false := dF (by omega)
    have bm : decide (0 < (x7.length : Int)) = false := dF (by omega)
    have OG := aA (show ¬ ((0 < x5.length ∧ kd ≠ 2 ∧ kd ≠ 9) ∨ (0 < x7.length ∧ kd ≠ 7)) from by omega)
    go_wp2_with (first | fail)
    clear bf bm f0 m0
   all_goals
    clear ht0 ht1 ht2 ht3
    go_loopg [27] x5.length (fun kq v27 w' => ∃ i : Nat, v27 = .int .i64 i ∧ aC (i + kq = x5.length) ∧ aC ((x5.take i).any (wC (tJ kd)) = false) ∧ aC (w'.heap[gt]? = some (.cells #[.string n3, .int .i64 kd, .slice A1 x1.length c1, .string (strOfNums ((x5.take i).map (· % 256)))] 38 (0, 0))) ∧ aC (w'.heap[gr]? = some (.cells #[.string ⟨#[]⟩, .int .i64 0, .slice none 0 0, .string ⟨#[]⟩] 38 (0, 0))) ∧ aC (Below w.heap.size w w') ∧ aC (Below wd3.heap.size wd3 w'))
    case atStart => exact ⟨0, rfl, ⟨by omega⟩, ⟨rfl⟩, BT, BR, HB, H5⟩
    case round =>
    clear BT BR HB H5
    obtain ⟨i, rfl, HN, VR, BT, BR, HB, H5⟩ := hrel
    obtain ⟨ht0, ht1, ht2, ht3⟩ := aN BT
    by_cases hlt : i < x5.length
    · have hlt' : decide ((i : Int) < (x5.length : Int)) = true := dT (by omega)
      obtain ⟨kk, rfl⟩ : ∃ m, gk = m + 1 := ⟨gk - 1, by have := HN.out; omega⟩
      have p1 : 0 ≤ (i : Int) := Int.natCast_nonneg i
      have q1 : (i : Int) < (x5.length : Int) := by omega
      obtain ⟨ad, ea, hx⟩ := Kd.kN (Kd.gN (Kd.mK X5.out) H5.out) (i : Int) p1 q1
      cases ea
      have hrd : rd x5 (i : Int) = x5[i] := by simp [rd, hlt]
      rw [hrd, Int.toNat_natCast] at hx
      have MN := aA (List.take_succ_eq_append_getElem hlt)
      have yn := aA (List.getElem_mem hlt)
      clear hrd
      generalize x5[i] = n at hx MN yn
      have WB : wrap64 ((i : Int) + 1) = ((i + 1 : Nat) : Int) := by have := D_.out; rw [fC (by omega) (by omega)]; omega
      clear hlt
      replace p1 := eT p1
      replace q1 := eT q1
      by_cases bad : wC (tJ kd) n = true
      · have HR4 := aA (show R = (iJ, 17) from l8.out.trans (by
         rw [PM OG.out]
         unfold vP
         rw [ip (aA2 yn.out bad)]
         exact xX _ _ _ (by decide)))
        have hb3 : n < 0 ∨ (¬ n < 0 ∧ n > 255) ∨ (¬ n < 0 ∧ ¬ n > 255 ∧ n > 1 ∧ kd = 9) := by
         unfold wC tJ at bad
         rw [Bool.or_eq_true, decide_eq_true_eq, decide_eq_true_eq] at bad
         split at bad <;> omega
        clear bad WB
        rcases hb3 with a | ⟨a, a2⟩ | ⟨a, a2, a3, a4⟩
        · have t1 : decide (n < 0) = true := dT a
          clear a
          obtain ⟨hr0, hr1, hr2, hr3⟩ := aN BR
          have fJ := fz BR 0
          have fQ := fz BR 1
          have fT := fz BR 2
          have fU := fz BR 3
          have kL := lM.out
          have KV := l9.out
          go_wp2
          refine bodyPost_ret (eP rfl _ _ gr 38 #[.string ⟨#[]⟩, .int .i64 0, .slice none 0 0, .string ⟨#[]⟩] (0, 0) _ rfl (aU BR) jY rfl (by kernel_rfl)) rfl ?_
          exact jH HR4.out (dR HB.out GR.out)
        · have t1 : decide (n < 0) = false := dF a
          have t2 : decide (255 < n) = true := dT a2
          clear a a2
          obtain ⟨hr0, hr1, hr2, hr3⟩ := aN BR
          have fJ := fz BR 0
          have fQ := fz BR 1
          have fT := fz BR 2
          have fU := fz BR 3
          have kL := lM.out
          have KV := l9.out
          go_wp2
          refine bodyPost_ret (eP rfl _ _ gr 38 #[.string ⟨#[]⟩, .int .i64 0, .slice none 0 0, .string ⟨#[]⟩] (0, 0) _ rfl (aU BR) jY rfl (by kernel_rfl)) rfl ?_
          exact jH HR4.out (dR HB.out GR.out)
        · have t1 : decide (n < 0) = false := dF a
          have t2 : decide (255 < n) = false := dF a2
          have t3 : decide (1 < n) = true := dT a3
          have t4 : (kd == 9) = true := beq_iff_eq.2 a4
          clear a a2 a3 a4
          obtain ⟨hr0, hr1, hr2, hr3⟩ := aN BR
          have fJ := fz BR 0
          have fQ := fz BR 1
          have fT := fz BR 2
          have fU := fz BR 3
          have kL := lM.out
          have KV := l9.out
          go_wp2
          refine bodyPost_ret (eP rfl _ _ gr 38 #[.string ⟨#[]⟩, .int .i64 0, .slice none 0 0, .string ⟨#[]⟩] (0, 0) _ rfl (aU BR) jY rfl (by kernel_rfl)) rfl ?_
          exact jH HR4.out (dR HB.out GR.out)
      · have Oe := aA (show (x5.take (i + 1)).any (wC (tJ kd)) = false from by
         rw [MN.out, List.any_append, VR.out, List.any_cons, List.any_nil, Bool.eq_false_iff.2 bad]; rfl)
        have hb3 : (0 ≤ n ∧ n ≤ 255 ∧ n > 1 ∧ kd ≠ 9) ∨ (0 ≤ n ∧ n ≤ 1) := by
         unfold wC tJ at bad
         rw [Bool.or_eq_true, decide_eq_true_eq, decide_eq_true_eq] at bad
         split at bad <;> omega
        have HD := aA (show strOfNums ((x5.take i).map (· % 256)) ++ strOfNums [n % 256] = strOfNums ((x5.take (i + 1)).map (· % 256)) from by rw [MN.out, List.map_append]; exact (Uf _ _).symm)
        have MK := (show (strOfNums ((x5.take i).map (· % 256))).size ≤ 65536 from by rw [strOfNums_size, List.length_map, List.length_take]; have := D_.out; omega)
        have fP : (strOfNums ((x5.take i).map (· % 256))).size + (strOfNums [n % 256]).size ≤ 9223372036854775807 := by rw [strOfNums_size [n % 256]]; have : [n % 256].length = 1 := rfl; omega
        obtain ⟨D, hD⟩ : ∃ D, strOfNums ((x5.take i).map (· % 256)) = D := ⟨_, rfl⟩
        rw [hD] at HD BT fP ht3
        have oN := dT fP
        have Z8 := eq_false (Nat.not_lt.2 fP)
        have sj := Z8
        try simp only [ByteArray.size_append] at sj
        replace fP := eT fP
        clear hD MK bad VR MN yn
        rcases hb3 with ⟨a, a2, a3, a4⟩ | ⟨a, a2⟩
        · have t1 : decide (n < 0) = false := dF (by omega)
          have t2 : decide (255 < n) = false := dF (by omega)
          have t3 : decide (1 < n) = true := dT a3
          have t4 : (kd == 9) = false := beq_eq_false_iff_ne.2 a4
          clear a a2 a3 a4
          go_wp2_with (first | fail)
          have ML := aA (show EI w wd3 wr.drew gr from ⟨iO HB.out, iO H5.out, kU BR.out⟩)
          have MO := aA (show wr.drew.cell? (ad.add i) = some (.int .i64 n) from hx)
          replace BT := aA (kU BT.out)
          clear HB H5 BR ht0 ht1 ht2 ht3 hx
          refine vQ (n := 12) (S := fun w' => True) (ds := []) #[false, false, false, false, false, false, false, false, false, false, false, false] (by kernel_rfl) rfl rfl trivial (fun hHeld => ?_)
          refine G6 IW.Nv IW.Lb (fun gP pX => ?_)
          generalize wr.drew = wz at ML MO BT hHeld ⊢
          refine QA [0, 1, 2, 3, 4, 5, 6, 7, 8, 9, 10, 11] (fun F7 b a w' => ∃ (p7 : Option Addr) (eY : Value), a = kV F7 b [(0, 233, .pointer (some ⟨gt, 3, none⟩)), (1, 234, .string D), (2, 235, .slice (some ad) x5.length c2), (3, 236, .int .i64 i), (4, 237, .pointer (some (ad.add i))), (5, 238, .int .i64 n), (6, 239, .int .u8 (n % 256)), (7, 240, eY), (8, 241, .string (strOfNums [n % 256])), (9, 242, .string (D ++ (strOfNums [n % 256]))), (10, 243, .pointer (some ⟨gt, 3, none⟩))] ∧ (EI w wd3 w' gr) ∧ (b 11 = false → w'.cell? (ad.add i) = some (.int .i64 n)) ∧ (b 11 = false → w'.heap[gt]? = some (.cells #[.string n3, .int .i64 kd, .slice A1 x1.length c1, .string D] 38 (0, 0))) ∧ (b 11 = true → w'.heap[gt]? = some (.cells #[.string n3, .int .i64 kd, .slice A1 x1.length c1, .string (D ++ (strOfNums [n % 256]))] 38 (0, 0))) ∧ (b 7 = true → b 11 = false → Kd.C (Kd.int .u8) w' p7 1 [n % 256]) ∧ (b 7 = true → (eY : Value) = .slice p7 1 1)) gP.out pX.out (by kernel_rfl) (by kernel_rfl) ?_ ?_ ?_
          · exact ⟨none, .bool false, by simp only [kV, Bool.false_eq_true, if_false], ML.out, fun _ => MO.out, fun _ => BT.out, fun h_ => absurd h_ (by decide), fun h_ => absurd h_ (by decide), fun h_ => absurd h_ (by decide)⟩
          · skip
            skip
            refine gG ?_ ?_
            · rintro b a w' ⟨p7, eY, ha, aW, dX, bW, fA, dA, gV⟩ bZ hon hoff
              refine ⟨_, rfl, fun K hK => ?_⟩
              have e26 : a.tmps[26]? = some (.pointer (some ⟨gt, 0, none⟩)) := by rw [ha]; exact (nT rfl).trans rfl
              replace ha := aC.mk ha
              have R := aC.mk aW
              have X := aC.mk (dX (hoff 11 (by kernel_rfl)))
              have G0 := aC.mk (bW (hoff 11 (by kernel_rfl)))
              refine iF (w1 := w') (v := .pointer (some ⟨gt, 3, none⟩)) (by rfl) rfl ?_ ?_
              · go_simp
                (try simp only [dC])
                try rfl
              refine hK.out _ _ ⟨p7, eY, (by rw [ha.out]; exact gM 0 bZ rfl rfl rfl), aW, dX, bW, fun aQ => absurd ((hoff 11 (by kernel_rfl)).symm.trans aQ) (by decide), dA, gV⟩
            refine gG ?_ ?_
            · rintro b a w' ⟨p7, eY, ha, aW, dX, bW, fA, dA, gV⟩ bZ hon hoff
              refine ⟨_, rfl, fun K hK => ?_⟩
              have e233 : a.tmps[233]? = some (.pointer (some ⟨gt, 3, none⟩)) := by rw [ha]; exact fK (e := (0, 233, .pointer (some ⟨gt, 3, none⟩))) 0 rfl rfl (hon 0 (by kernel_rfl)) rfl
              replace ha := aC.mk ha
              have R := aC.mk aW
              have X := aC.mk (dX (hoff 11 (by kernel_rfl)))
              have G0 := aC.mk (bW (hoff 11 (by kernel_rfl)))
              obtain ⟨aQ, F8, OZ, O0⟩ := aN (aA G0.out)
              refine iF (w1 := w') (v := .string D) (by rfl) rfl ?_ ?_
              · go_simp
                (try simp only [dC])
                try rfl
              refine hK.out _ _ ⟨p7, eY, (by rw [ha.out]; exact gM 1 bZ rfl rfl rfl), aW, dX, bW, fun aQ => absurd ((hoff 11 (by kernel_rfl)).symm.trans aQ) (by decide), dA, gV⟩
            refine gG ?_ ?_
            · rintro b a w' ⟨p7, eY, ha, aW, dX, bW, fA, dA, gV⟩ bZ hon hoff
              refine ⟨_, rfl, fun K hK => ?_⟩
              have e21 : a.tmps[21]? = some (.slice (some ad) x5.length c2) := by rw [ha]; exact (nT rfl).trans rfl
              replace ha := aC.mk ha
              have R := aC.mk aW
              have X := aC.mk (dX (hoff 11 (by kernel_rfl)))
              have G0 := aC.mk (bW (hoff 11 (by kernel_rfl)))
              refine iF (w1 := w') (v := .slice (some ad) x5.length c2) (by rfl) rfl ?_ ?_
              · go_simp
                (try simp only [dC])
                try rfl
              refine hK.out _ _ ⟨p7, eY, (by rw [ha.out]; exact gM 2 bZ rfl rfl rfl), aW, dX, bW, fun aQ => absurd ((hoff 11 (by kernel_rfl)).symm.trans aQ) (by decide), fun aQ _ => absurd ((hoff 7 (by kernel_rfl)).symm.trans aQ) (by decide), fun aQ => absurd ((hoff 7 (by kernel_rfl)).symm.trans aQ) (by decide)⟩
            refine gG ?_ ?_
            · rintro b a w' ⟨p7, eY, ha, aW, dX, bW, fA, dA, gV⟩ bZ hon hoff
              refine ⟨_, rfl, fun K hK => ?_⟩
              have e27 : a.tmps[27]? = some (.int .i64 i) := by rw [ha]; exact (nT rfl).trans rfl
              replace ha := aC.mk ha
              have R := aC.mk aW
              have X := aC.mk (dX (hoff 11 (by kernel_rfl)))
              have G0 := aC.mk (bW (hoff 11 (by kernel_rfl)))
              refine iF (w1 := w') (v := .int .i64 i) (by rfl) rfl ?_ ?_
              · go_simp
                (try simp only [dC])
                try rfl
              refine hK.out _ _ ⟨p7, eY, (by rw [ha.out]; exact gM 3 bZ rfl rfl rfl), aW, dX, bW, fun aQ => absurd ((hoff 11 (by kernel_rfl)).symm.trans aQ) (by decide), fun aQ _ => absurd ((hoff 7 (by kernel_rfl)).symm.trans aQ) (by decide), fun aQ => absurd ((hoff 7 (by kernel_rfl)).symm.trans aQ) (by decide)⟩
            refine gG ?_ ?_
            · rintro b a w' ⟨p7, eY, ha, aW, dX, bW, fA, dA, gV⟩ bZ hon hoff
              refine ⟨_, rfl, fun K hK => ?_⟩
              have aE0 : a.tmps[235]? = some (.slice (some ad) x5.length c2) := by rw [ha]; exact fK (e := (2, 235, .slice (some ad) x5.length c2)) 2 rfl rfl (hon 2 (by kernel_rfl)) rfl
              have aE1 : a.tmps[236]? = some (.int .i64 i) := by rw [ha]; exact fK (e := (3, 236, .int .i64 i)) 3 rfl rfl (hon 3 (by kernel_rfl)) rfl
              replace ha := aC.mk ha
              have R := aC.mk aW
              have X := aC.mk (dX (hoff 11 (by kernel_rfl)))
              have G0 := aC.mk (bW (hoff 11 (by kernel_rfl)))
              refine iF (w1 := w') (v := .pointer (some (ad.add i))) (by rfl) rfl ?_ ?_
              · go_simp
                (try simp only [dC])
                try rfl
              refine hK.out _ _ ⟨p7, eY, (by rw [ha.out]; exact gM 4 bZ rfl rfl rfl), aW, dX, bW, fun aQ => absurd ((hoff 11 (by kernel_rfl)).symm.trans aQ) (by decide), fun aQ _ => absurd ((hoff 7 (by kernel_rfl)).symm.trans aQ) (by decide), fun aQ => absurd ((hoff 7 (by kernel_rfl)).symm.trans aQ) (by decide)⟩
            refine gG ?_ ?_
            · rintro b a w' ⟨p7, eY, ha, aW, dX, bW, fA, dA, gV⟩ bZ hon hoff
              refine ⟨_, rfl, fun K hK => ?_⟩
              have e237 : a.tmps[237]? = some (.pointer (some (ad.add i))) := by rw [ha]; exact fK (e := (4, 237, .pointer (some (ad.add i)))) 4 rfl rfl (hon 4 (by kernel_rfl)) rfl
              replace ha := aC.mk ha
              have R := aC.mk aW
              have X := aC.mk (dX (hoff 11 (by kernel_rfl)))
              have G0 := aC.mk (bW (hoff 11 (by kernel_rfl)))
              have Rm := X.out
              refine iF (w1 := w') (v := .int .i64 n) (by rfl) rfl ?_ ?_
              · go_simp
                (try simp only [dC])
                try rfl
              refine hK.out _ _ ⟨p7, eY, (by rw [ha.out]; exact gM 5 bZ rfl rfl rfl), aW, dX, bW, fun aQ => absurd ((hoff 11 (by kernel_rfl)).symm.trans aQ) (by decide), fun aQ _ => absurd ((hoff 7 (by kernel_rfl)).symm.trans aQ) (by decide), fun aQ => absurd ((hoff 7 (by kernel_rfl)).symm.trans aQ) (by decide)⟩
            refine gG ?_ ?_
            · rintro b a w' ⟨p7, eY, ha, aW, dX, bW, fA, dA, gV⟩ bZ hon hoff
              refine ⟨_, rfl, fun K hK => ?_⟩
              have e238 : a.tmps[238]? = some (.int .i64 n) := by rw [ha]; exact fK (e := (5, 238, .int .i64 n)) 5 rfl rfl (hon 5 (by kernel_rfl)) rfl
              replace ha := aC.mk ha
              have R := aC.mk aW
              have X := aC.mk (dX (hoff 11 (by kernel_rfl)))
              have G0 := aC.mk (bW (hoff 11 (by kernel_rfl)))
              refine iF (w1 := w') (v := .int .u8 (n % 256)) (by rfl) rfl ?_ ?_
              · go_simp
                (try simp only [dC])
                try rfl
              refine hK.out _ _ ⟨p7, eY, (by rw [ha.out]; exact gM 6 bZ rfl rfl rfl), aW, dX, bW, fun aQ => absurd ((hoff 11 (by kernel_rfl)).symm.trans aQ) (by decide), fun aQ _ => absurd ((hoff 7 (by kernel_rfl)).symm.trans aQ) (by decide), fun aQ => absurd ((hoff 7 (by kernel_rfl)).symm.trans aQ) (by decide)⟩
            refine gG ?_ ?_
            · rintro b a w' ⟨p7, eY, ha, aW, dX, bW, fA, dA, gV⟩ bZ hon hoff
              refine ⟨_, rfl, fun K hK => ?_⟩
              have aE2 : a.tmps[239]? = some (.int .u8 (n % 256)) := by rw [ha]; exact fK (e := (6, 239, .int .u8 (n % 256))) 6 rfl rfl (hon 6 (by kernel_rfl)) rfl
              replace ha := aC.mk ha
              have R := aC.mk aW
              have X := aC.mk (dX (hoff 11 (by kernel_rfl)))
              have G0 := aC.mk (bW (hoff 11 (by kernel_rfl)))
              refine iF (w1 := w'.alloc (Obj.cells #[.int .u8 (n % 256)] 5)) (v := .slice (some ⟨w'.heap.size, 0, none⟩) 1 1) (by rfl) rfl ?_ ?_
              · go_simp
                try rfl
              refine hK.out _ _ ⟨(some ⟨w'.heap.size, 0, none⟩), (.slice (some ⟨w'.heap.size, 0, none⟩) 1 1), (by rw [ha.out]; exact gM 7 bZ rfl rfl rfl), R.out.step (iD (Below.refl w'.heap.size w') (Obj.cells #[.int .u8 (n % 256)] 5)), fun _ => (((iD (Below.refl w'.heap.size w') (Obj.cells #[.int .u8 (n % 256)] 5))).cell (World.block_lt_of_cell? _ _ X.out)).trans X.out, fun _ => oK G0.out (iD (Below.refl w'.heap.size w') (Obj.cells #[.int .u8 (n % 256)] 5)), fun aQ => absurd ((hoff 11 (by kernel_rfl)).symm.trans aQ) (by decide), fun _ _ => Mc w' (n % 256) _, fun _ => rfl⟩
            refine gG ?_ ?_
            · rintro b a w' ⟨p7, eY, ha, aW, dX, bW, fA, dA, gV⟩ bZ hon hoff
              refine ⟨_, rfl, fun K hK => ?_⟩
              have e240 : a.tmps[240]? = some (eY) := by rw [ha]; exact fK (e := (7, 240, eY)) 7 rfl rfl (hon 7 (by kernel_rfl)) rfl
              rw [gV (hon 7 (by kernel_rfl))] at e240
              replace ha := aC.mk ha
              have R := aC.mk aW
              have X := aC.mk (dX (hoff 11 (by kernel_rfl)))
              have G0 := aC.mk (bW (hoff 11 (by kernel_rfl)))
              have O := aC.mk (dA (hon 7 (by kernel_rfl)) (hoff 11 (by kernel_rfl)))
              have hcv := Kd.Fj (P := Tryz.prog) (src := 80) (dst := 9) (c := 1) Tryz.underlying80 Tryz.underlying5 Tryz.underlying9 O.out
              refine iF (w1 := w') (v := .string (strOfNums [n % 256])) (by rfl) rfl ?_ ?_
              · go_simp
                (try simp only [dC])
                try rfl
              refine hK.out _ _ ⟨p7, eY, (by rw [ha.out]; exact gM 8 bZ rfl rfl rfl), aW, dX, bW, fun aQ => absurd ((hoff 11 (by kernel_rfl)).symm.trans aQ) (by decide), dA, gV⟩
            refine gG ?_ ?_
            · rintro b a w' ⟨p7, eY, ha, aW, dX, bW, fA, dA, gV⟩ bZ hon hoff
              refine ⟨_, rfl, fun K hK => ?_⟩
              have e234 : a.tmps[234]? = some (.string D) := by rw [ha]; exact fK (e := (1, 234, .string D)) 1 rfl rfl (hon 1 (by kernel_rfl)) rfl
              have e241 : a.tmps[241]? = some (.string (strOfNums [n % 256])) := by rw [ha]; exact fK (e := (8, 241, .string (strOfNums [n % 256]))) 8 rfl rfl (hon 8 (by kernel_rfl)) rfl
              replace ha := aC.mk ha
              have R := aC.mk aW
              have X := aC.mk (dX (hoff 11 (by kernel_rfl)))
              have G0 := aC.mk (bW (hoff 11 (by kernel_rfl)))
              have O := aC.mk (dA (hon 7 (by kernel_rfl)) (hoff 11 (by kernel_rfl)))
              refine iF (w1 := w') (v := .string (D ++ (strOfNums [n % 256]))) (by rfl) rfl ?_ ?_
              · go_simp
                (try simp only [dC])
                try rfl
              refine hK.out _ _ ⟨p7, eY, (by rw [ha.out]; exact gM 9 bZ rfl rfl rfl), aW, dX, bW, fun aQ => absurd ((hoff 11 (by kernel_rfl)).symm.trans aQ) (by decide), dA, gV⟩
            refine gG ?_ ?_
            · rintro b a w' ⟨p7, eY, ha, aW, dX, bW, fA, dA, gV⟩ bZ hon hoff
              refine ⟨_, rfl, fun K hK => ?_⟩
              have e26 : a.tmps[26]? = some (.pointer (some ⟨gt, 0, none⟩)) := by rw [ha]; exact (nT rfl).trans rfl
              replace ha := aC.mk ha
              have R := aC.mk aW
              have X := aC.mk (dX (hoff 11 (by kernel_rfl)))
              have G0 := aC.mk (bW (hoff 11 (by kernel_rfl)))
              have O := aC.mk (dA (hon 7 (by kernel_rfl)) (hoff 11 (by kernel_rfl)))
              refine iF (w1 := w') (v := .pointer (some ⟨gt, 3, none⟩)) (by rfl) rfl ?_ ?_
              · go_simp
                (try simp only [dC])
                try rfl
              refine hK.out _ _ ⟨p7, eY, (by rw [ha.out]; exact gM 10 bZ rfl rfl rfl), aW, dX, bW, fun aQ => absurd ((hoff 11 (by kernel_rfl)).symm.trans aQ) (by decide), dA, gV⟩
            refine gG ?_ ?_
            · rintro b a w' ⟨p7, eY, ha, aW, dX, bW, fA, dA, gV⟩ bZ hon hoff
              refine ⟨_, rfl, fun K hK => ?_⟩
              have e243 : a.tmps[243]? = some (.pointer (some ⟨gt, 3, none⟩)) := by rw [ha]; exact fK (e := (10, 243, .pointer (some ⟨gt, 3, none⟩))) 10 rfl rfl (hon 10 (by kernel_rfl)) rfl
              have e242 : a.tmps[242]? = some (.string (D ++ (strOfNums [n % 256]))) := by rw [ha]; exact fK (e := (9, 242, .string (D ++ (strOfNums [n % 256])))) 9 rfl rfl (hon 9 (by kernel_rfl)) rfl
              replace ha := aC.mk ha
              have R := aC.mk aW
              have X := aC.mk (dX bZ)
              have G0 := aC.mk (bW bZ)
              have O := aC.mk (dA (hon 7 (by kernel_rfl)) bZ)
              obtain ⟨aQ, F8, OZ, O0⟩ := aN (aA G0.out)
              have Qz := eZ G0.out 3
              refine J6 (w1 := w'.setCell ⟨gt, 3, none⟩ (.string (D ++ (strOfNums [n % 256])))) (by rfl) rfl ?_ ?_
              · go_simp
                try rfl
              refine hK.out _ _ ⟨p7, eY, (by rw [ha.out]; exact SI (v := undef) rfl), R.out.put GT.out p_.out lM.out _, fun aQ => absurd ((zH b 11).symm.trans aQ) (by decide), fun aQ => absurd ((zH b 11).symm.trans aQ) (by decide), fun _ => lH (cs := #[.string n3, .int .i64 kd, .slice A1 x1.length c1, .string D]) G0.out 3 _ rfl, fun _ F8 => absurd ((zH b 11).symm.trans F8) (by decide), gV⟩
            exact PL
          · rintro b a w' hall ⟨p7, eY, ha, aW, dX, bW, fA, dA, gV⟩
            skip
            have wE := hall 0 (by kernel_rfl)
            have wF := hall 1 (by kernel_rfl)
            have r9 := hall 2 (by kernel_rfl)
            have wG := hall 3 (by kernel_rfl)
            have wH := hall 4 (by kernel_rfl)
            have wI := hall 5 (by kernel_rfl)
            have wJ := hall 6 (by kernel_rfl)
            have sD := hall 7 (by kernel_rfl)
            have tL := hall 8 (by kernel_rfl)
            have uS := hall 9 (by kernel_rfl)
            have zO := hall 10 (by kernel_rfl)
            have uP := hall 11 (by kernel_rfl)
            subst ha
            obtain rfl := gV sD
            simp only [kV, wE, wF, r9, wG, wH, wI, wJ, sD, tL, uS, zO, uP, if_true, Act.put, List.setIfInBounds_toArray, List.set_cons_zero, List.set_cons_succ]
            have R := aC.mk aW
            clear aW
            clear dX
            clear bW
            have G1 := aC.mk (fA uP)
            clear fA
            clear dA
            clear hall wE wF r9 wG wH wI wJ sD tL uS zO uP
            go_wp2
            go_roundg kk
            case measure => omega
            case rel => exact ⟨i + 1, (by first | rfl | rw [WB]), ⟨by have := HN.out; omega⟩, Oe, ⟨by rw [← HD.out]; exact G1.out⟩, ⟨R.out.r⟩, ⟨R.out.b⟩, ⟨R.out.h⟩⟩
        · have t1 : decide (n < 0) = false := dF (by omega)
          have t2 : decide (255 < n) = false := dF (by omega)
          have t3 : decide (1 < n) = false := dF (by omega)
          clear a a2
          go_wp2_with (first | fail)
          have ML := aA (show EI w wd3 wr.drew gr from ⟨iO HB.out, iO H5.out, kU BR.out⟩)
          have MO := aA (show wr.drew.cell? (ad.add i) = some (.int .i64 n) from hx)
          replace BT := aA (kU BT.out)
          clear HB H5 BR ht0 ht1 ht2 ht3 hx
          refine vQ (n := 12) (S := fun w' => True) (ds := []) #[false, false, false, false, false, false, false, false, false, false, false, false] (by kernel_rfl) rfl rfl trivial (fun hHeld => ?_)
          refine G6 IW.Nv IW.Lb (fun gP pX => ?_)
          generalize wr.drew = wz at ML MO BT hHeld ⊢
          refine QA [0, 1, 2, 3, 4, 5, 6, 7, 8, 9, 10, 11] (fun F7 b a w' => ∃ (p7 : Option Addr) (eY : Value), a = kV F7 b [(0, 233, .pointer (some ⟨gt, 3, none⟩)), (1, 234, .string D), (2, 235, .slice (some ad) x5.length c2), (3, 236, .int .i64 i), (4, 237, .pointer (some (ad.add i))), (5, 238, .int .i64 n), (6, 239, .int .u8 (n % 256)), (7, 240, eY), (8, 241, .string (strOfNums [n % 256])), (9, 242, .string (D ++ (strOfNums [n % 256]))), (10, 243, .pointer (some ⟨gt, 3, none⟩))] ∧ (EI w wd3 w' gr) ∧ (b 11 = false → w'.cell? (ad.add i) = some (.int .i64 n)) ∧ (b 11 = false → w'.heap[gt]? = some (.cells #[.string n3, .int .i64 kd, .slice A1 x1.length c1, .string D] 38 (0, 0))) ∧ (b 11 = true → w'.heap[gt]? = some (.cells #[.string n3, .int .i64 kd, .slice A1 x1.length c1, .string (D ++ (strOfNums [n % 256]))] 38 (0, 0))) ∧ (b 7 = true → b 11 = false → Kd.C (Kd.int .u8) w' p7 1 [n % 256]) ∧ (b 7 = true → (eY : Value) = .slice p7 1 1)) gP.out pX.out (by kernel_rfl) (by kernel_rfl) ?_ ?_ ?_
          · exact ⟨none, .bool false, by simp only [kV, Bool.false_eq_true, if_false], ML.out, fun _ => MO.out, fun _ => BT.out, fun h_ => absurd h_ (by decide), fun h_ => absurd h_ (by decide), fun h_ => absurd h_ (by decide)⟩
          · skip
            skip
            refine gG ?_ ?_
            · rintro b a w' ⟨p7, eY, ha, aW, dX, bW, fA, dA, gV⟩ bZ hon hoff
              refine ⟨_, rfl, fun K hK => ?_⟩
              have e26 : a.tmps[26]? = some (.pointer (some ⟨gt, 0, none⟩)) := by rw [ha]; exact (nT rfl).trans rfl
              replace ha := aC.mk ha
              have R := aC.mk aW
              have X := aC.mk (dX (hoff 11 (by kernel_rfl)))
              have G0 := aC.mk (bW (hoff 11 (by kernel_rfl)))
              refine iF (w1 := w') (v := .pointer (some ⟨gt, 3, none⟩)) (by rfl) rfl ?_ ?_
              · go_simp
                (try simp only [dC])
                try rfl
              refine hK.out _ _ ⟨p7, eY, (by rw [ha.out]; exact gM 0 bZ rfl rfl rfl), aW, dX, bW, fun aQ => absurd ((hoff 11 (by kernel_rfl)).symm.trans aQ) (by decide), dA, gV⟩
            refine gG ?_ ?_
            · rintro b a w' ⟨p7, eY, ha, aW, dX, bW, fA, dA, gV⟩ bZ hon hoff
              refine ⟨_, rfl, fun K hK => ?_⟩
              have e233 : a.tmps[233]? = some (.pointer (some ⟨gt, 3, none⟩)) := by rw [ha]; exact fK (e := (0, 233, .pointer (some ⟨gt, 3, none⟩))) 0 rfl rfl (hon 0 (by kernel_rfl)) rfl
              replace ha := aC.mk ha
              have R := aC.mk aW
              have X := aC.mk (dX (hoff 11 (by kernel_rfl)))
              have G0 := aC.mk (bW (hoff 11 (by kernel_rfl)))
              obtain ⟨aQ, F8, OZ, O0⟩ := aN (aA G0.out)
              refine iF (w1 := w') (v := .string D) (by rfl) rfl ?_ ?_
              · go_simp
                (try simp only [dC])
                try rfl
              refine hK.out _ _ ⟨p7, eY, (by rw [ha.out]; exact gM 1 bZ rfl rfl rfl), aW, dX, bW, fun aQ => absurd ((hoff 11 (by kernel_rfl)).symm.trans aQ) (by decide), dA, gV⟩
            refine gG ?_ ?_
            · rintro b a w' ⟨p7, eY, ha, aW, dX, bW, fA, dA, gV⟩ bZ hon hoff
              refine ⟨_, rfl, fun K hK => ?_⟩
              have e21 : a.tmps[21]? = some (.slice (some ad) x5.length c2) := by rw [ha]; exact (nT rfl).trans rfl
              replace ha := aC.mk ha
              have R := aC.mk aW
              have X := aC.mk (dX (hoff 11 (by kernel_rfl)))
              have G0 := aC.mk (bW (hoff 11 (by kernel_rfl)))
              refine iF (w1 := w') (v := .slice (some ad) x5.length c2) (by rfl) rfl ?_ ?_
              · go_simp
                (try simp only [dC])
                try rfl
              refine hK.out _ _ ⟨p7, eY, (by rw [ha.out]; exact gM 2 bZ rfl rfl rfl), aW, dX, bW, fun aQ => absurd ((hoff 11 (by kernel_rfl)).symm.trans aQ) (by decide), fun aQ _ => absurd ((hoff 7 (by kernel_rfl)).symm.trans aQ) (by decide), fun aQ => absurd ((hoff 7 (by kernel_rfl)).symm.trans aQ) (by decide)⟩
            refine gG ?_ ?_
            · rintro b a w' ⟨p7, eY, ha, aW, dX, bW, fA, dA, gV⟩ bZ hon hoff
              refine ⟨_, rfl, fun K hK => ?_⟩
              have e27 : a.tmps[27]? = some (.int .i64 i) := by rw [ha]; exact (nT rfl).trans rfl
              replace ha := aC.mk ha
              have R := aC.mk aW
              have X := aC.mk (dX (hoff 11 (by kernel_rfl)))
              have G0 := aC.mk (bW (hoff 11 (by kernel_rfl)))
              refine iF (w1 := w') (v := .int .i64 i) (by rfl) rfl ?_ ?_
              · go_simp
                (try simp only [dC])
                try rfl
              refine hK.out _ _ ⟨p7, eY, (by rw [ha.out]; exact gM 3 bZ rfl rfl rfl), aW, dX, bW, fun aQ => absurd ((hoff 11 (by kernel_rfl)).symm.trans aQ) (by decide), fun aQ _ => absurd ((hoff 7 (by kernel_rfl)).symm.trans aQ) (by decide), fun aQ => absurd ((hoff 7 (by kernel_rfl)).symm.trans aQ) (by decide)⟩
            refine gG ?_ ?_
            · rintro b a w' ⟨p7, eY, ha, aW, dX, bW, fA, dA, gV⟩ bZ hon hoff
              refine ⟨_, rfl, fun K hK => ?_⟩
              have aE0 : a.tmps[235]? = some (.slice (some ad) x5.length c2) := by rw [ha]; exact fK (e := (2, 235, .slice (some ad) x5.length c2)) 2 rfl rfl (hon 2 (by kernel_rfl)) rfl
              have aE1 : a.tmps[236]? = some (.int .i64 i) := by rw [ha]; exact fK (e := (3, 236, .int .i64 i)) 3 rfl rfl (hon 3 (by kernel_rfl)) rfl
              replace ha := aC.mk ha
              have R := aC.mk aW
              have X := aC.mk (dX (hoff 11 (by kernel_rfl)))
              have G0 := aC.mk (bW (hoff 11 (by kernel_rfl)))
              refine iF (w1 := w') (v := .pointer (some (ad.add i))) (by rfl) rfl ?_ ?_
              · go_simp
                (try simp only [dC])
                try rfl
              refine hK.out _ _ ⟨p7, eY, (by rw [ha.out]; exact gM 4 bZ rfl rfl rfl), aW, dX, bW, fun aQ => absurd ((hoff 11 (by kernel_rfl)).symm.trans aQ) (by decide), fun aQ _ => absurd ((hoff 7 (by kernel_rfl)).symm.trans aQ) (by decide), fun aQ => absurd ((hoff 7 (by kernel_rfl)).symm.trans aQ) (by decide)⟩
            refine gG ?_ ?_
            · rintro b a w' ⟨p7, eY, ha, aW, dX, bW, fA, dA, gV⟩ bZ hon hoff
              refine ⟨_, rfl, fun K hK => ?_⟩
              have e237 : a.tmps[237]? = some (.pointer (some (ad.add i))) := by rw [ha]; exact fK (e := (4, 237, .pointer (some (ad.add i)))) 4 rfl rfl (hon 4 (by kernel_rfl)) rfl
              replace ha := aC.mk ha
              have R := aC.mk aW
              have X := aC.mk (dX (hoff 11 (by kernel_rfl)))
              have G0 := aC.mk (bW (hoff 11 (by kernel_rfl)))
              have Rm := X.out
              refine iF (w1 := w') (v := .int .i64 n) (by rfl) rfl ?_ ?_
              · go_simp
                (try simp only [dC])
                try rfl
              refine hK.out _ _ ⟨p7, eY, (by rw [ha.out]; exact gM 5 bZ rfl rfl rfl), aW, dX, bW, fun aQ => absurd ((hoff 11 (by kernel_rfl)).symm.trans aQ) (by decide), fun aQ _ => absurd ((hoff 7 (by kernel_rfl)).symm.trans aQ) (by decide), fun aQ => absurd ((hoff 7 (by kernel_rfl)).symm.trans aQ) (by decide)⟩
            refine gG ?_ ?_
            · rintro b a w' ⟨p7, eY, ha, aW, dX, bW, fA, dA, gV⟩ bZ hon hoff
              refine ⟨_, rfl, fun K hK => ?_⟩
              have e238 : a.tmps[238]? = some (.int .i64 n) := by rw [ha]; exact fK (e := (5, 238, .int .i64 n)) 5 rfl rfl (hon 5 (by kernel_rfl)) rfl
              replace ha := aC.mk ha
              have R := aC.mk aW
              have X := aC.mk (dX (hoff 11 (by kernel_rfl)))
              have G0 := aC.mk (bW (hoff 11 (by kernel_rfl)))
              refine iF (w1 := w') (v := .int .u8 (n % 256)) (by rfl) rfl ?_ ?_
              · go_simp
                (try simp only [dC])
                try rfl
              refine hK.out _ _ ⟨p7, eY, (by rw [ha.out]; exact gM 6 bZ rfl rfl rfl), aW, dX, bW, fun aQ => absurd ((hoff 11 (by kernel_rfl)).symm.trans aQ) (by decide), fun aQ _ => absurd ((hoff 7 (by kernel_rfl)).symm.trans aQ) (by decide), fun aQ => absurd ((hoff 7 (by kernel_rfl)).symm.trans aQ) (by decide)⟩
            refine gG ?_ ?_
            · rintro b a w' ⟨p7, eY, ha, aW, dX, bW, fA, dA, gV⟩ bZ hon hoff
              refine ⟨_, rfl, fun K hK => ?_⟩
              have aE2 : a.tmps[239]? = some (.int .u8 (n % 256)) := by rw [ha]; exact fK (e := (6, 239, .int .u8 (n % 256))) 6 rfl rfl (hon 6 (by kernel_rfl)) rfl
              replace ha := aC.mk ha
              have R := aC.mk aW
              have X := aC.mk (dX (hoff 11 (by kernel_rfl)))
              have G0 := aC.mk (bW (hoff 11 (by kernel_rfl)))
              refine iF (w1 := w'.alloc (Obj.cells #[.int .u8 (n % 256)] 5)) (v := .slice (some ⟨w'.heap.size, 0, none⟩) 1 1) (by rfl) rfl ?_ ?_
              · go_simp
                try rfl
              refine hK.out _ _ ⟨(some ⟨w'.heap.size, 0, none⟩), (.slice (some ⟨w'.heap.size, 0, none⟩) 1 1), (by rw [ha.out]; exact gM 7 bZ rfl rfl rfl), R.out.step (iD (Below.refl w'.heap.size w') (Obj.cells #[.int .u8 (n % 256)] 5)), fun _ => (((iD (Below.refl w'.heap.size w') (Obj.cells #[.int .u8 (n % 256)] 5))).cell (World.block_lt_of_cell? _ _ X.out)).trans X.out, fun _ => oK G0.out (iD (Below.refl w'.heap.size w') (Obj.cells #[.int .u8 (n % 256)] 5)), fun aQ => absurd ((hoff 11 (by kernel_rfl)).symm.trans aQ) (by decide), fun _ _ => Mc w' (n % 256) _, fun _ => rfl⟩
            refine gG ?_ ?_
            · rintro b a w' ⟨p7, eY, ha, aW, dX, bW, fA, dA, gV⟩ bZ hon hoff
              refine ⟨_, rfl, fun K hK => ?_⟩
              have e240 : a.tmps[240]? = some (eY) := by rw [ha]; exact fK (e := (7, 240, eY)) 7 rfl rfl (hon 7 (by kernel_rfl)) rfl
              rw [gV (hon 7 (by kernel_rfl))] at e240
              replace ha := aC.mk ha
              have R := aC.mk aW
              have X := aC.mk (dX (hoff 11 (by kernel_rfl)))
              have G0 := aC.mk (bW (hoff 11 (by kernel_rfl)))
              have O := aC.mk (dA (hon 7 (by kernel_rfl)) (hoff 11 (by kernel_rfl)))
              have hcv := Kd.Fj (P := Tryz.prog) (src := 80) (dst := 9) (c := 1) Tryz.underlying80 Tryz.underlying5 Tryz.underlying9 O.out
              refine iF (w1 := w') (v := .string (strOfNums [n % 256])) (by rfl) rfl ?_ ?_
              · go_simp
                (try simp only [dC])
                try rfl
              refine hK.out _ _ ⟨p7, eY, (by rw [ha.out]; exact gM 8 bZ rfl rfl rfl), aW, dX, bW, fun aQ => absurd ((hoff 11 (by kernel_rfl)).symm.trans aQ) (by decide), dA, gV⟩
            refine gG ?_ ?_
            · rintro b a w' ⟨p7, eY, ha, aW, dX, bW, fA, dA, gV⟩ bZ hon hoff
              refine ⟨_, rfl, fun K hK => ?_⟩
              have e234 : a.tmps[234]? = some (.string D) := by rw [ha]; exact fK (e := (1, 234, .string D)) 1 rfl rfl (hon 1 (by kernel_rfl)) rfl
              have e241 : a.tmps[241]? = some (.string (strOfNums [n % 256])) := by rw [ha]; exact fK (e := (8, 241, .string (strOfNums [n % 256]))) 8 rfl rfl (hon 8 (by kernel_rfl)) rfl
              replace ha := aC.mk ha
              have R := aC.mk aW
              have X := aC.mk (dX (hoff 11 (by kernel_rfl)))
              have G0 := aC.mk (bW (hoff 11 (by kernel_rfl)))
              have O := aC.mk (dA (hon 7 (by kernel_rfl)) (hoff 11 (by kernel_rfl)))
              refine iF (w1 := w') (v := .string (D ++ (strOfNums [n % 256]))) (by rfl) rfl ?_ ?_
              · go_simp
                (try simp only [dC])
                try rfl
              refine hK.out _ _ ⟨p7, eY, (by rw [ha.out]; exact gM 9 bZ rfl rfl rfl), aW, dX, bW, fun aQ => absurd ((hoff 11 (by kernel_rfl)).symm.trans aQ) (by decide), dA, gV⟩
            refine gG ?_ ?_
            · rintro b a w' ⟨p7, eY, ha, aW, dX, bW, fA, dA, gV⟩ bZ hon hoff
              refine ⟨_, rfl, fun K hK => ?_⟩
              have e26 : a.tmps[26]? = some (.pointer (some ⟨gt, 0, none⟩)) := by rw [ha]; exact (nT rfl).trans rfl
              replace ha := aC.mk ha
              have R := aC.mk aW
              have X := aC.mk (dX (hoff 11 (by kernel_rfl)))
              have G0 := aC.mk (bW (hoff 11 (by kernel_rfl)))
              have O := aC.mk (dA (hon 7 (by kernel_rfl)) (hoff 11 (by kernel_rfl)))
              refine iF (w1 := w') (v := .pointer (some ⟨gt, 3, none⟩)) (by rfl) rfl ?_ ?_
              · go_simp
                (try simp only [dC])
                try rfl
              refine hK.out _ _ ⟨p7, eY, (by rw [ha.out]; exact gM 10 bZ rfl rfl rfl), aW, dX, bW, fun aQ => absurd ((hoff 11 (by kernel_rfl)).symm.trans aQ) (by decide), dA, gV⟩
            refine gG ?_ ?_
            · rintro b a w' ⟨p7, eY, ha, aW, dX, bW, fA, dA, gV⟩ bZ hon hoff
              refine ⟨_, rfl, fun K hK => ?_⟩
              have e243 : a.tmps[243]? = some (.pointer (some ⟨gt, 3, none⟩)) := by rw [ha]; exact fK (e := (10, 243, .pointer (some ⟨gt, 3, none⟩))) 10 rfl rfl (hon 10 (by kernel_rfl)) rfl
              have e242 : a.tmps[242]? = some (.string (D ++ (strOfNums [n % 256]))) := by rw [ha]; exact fK (e := (9, 242, .string (D ++ (strOfNums [n % 256])))) 9 rfl rfl (hon 9 (by kernel_rfl)) rfl
              replace ha := aC.mk ha
              have R := aC.mk aW
              have X := aC.mk (dX bZ)
              have G0 := aC.mk (bW bZ)
              have O := aC.mk (dA (hon 7 (by kernel_rfl)) bZ)
              obtain ⟨aQ, F8, OZ, O0⟩ := aN (aA G0.out)
              have Qz := eZ G0.out 3
              refine J6 (w1 := w'.setCell ⟨gt, 3, none⟩ (.string (D ++ (strOfNums [n % 256])))) (by rfl) rfl ?_ ?_
              · go_simp
                try rfl
              refine hK.out _ _ ⟨p7, eY, (by rw [ha.out]; exact SI (v := undef) rfl), R.out.put GT.out p_.out lM.out _, fun aQ => absurd ((zH b 11).symm.trans aQ) (by decide), fun aQ => absurd ((zH b 11).symm.trans aQ) (by decide), fun _ => lH (cs := #[.string n3, .int .i64 kd, .slice A1 x1.length c1, .string D]) G0.out 3 _ rfl, fun _ F8 => absurd ((zH b 11).symm.trans F8) (by decide), gV⟩
            exact PL
          · rintro b a w' hall ⟨p7, eY, ha, aW, dX, bW, fA, dA, gV⟩
            skip
            have wE := hall 0 (by kernel_rfl)
            have wF := hall 1 (by kernel_rfl)
            have r9 := hall 2 (by kernel_rfl)
            have wG := hall 3 (by kernel_rfl)
            have wH := hall 4 (by kernel_rfl)
            have wI := hall 5 (by kernel_rfl)
            have wJ := hall 6 (by kernel_rfl)
            have sD := hall 7 (by kernel_rfl)
            have tL := hall 8 (by kernel_rfl)
            have uS := hall 9 (by kernel_rfl)
            have zO := hall 10 (by kernel_rfl)
            have uP := hall 11 (by kernel_rfl)
            subst ha
            obtain rfl := gV sD
            simp only [kV, wE, wF, r9, wG, wH, wI, wJ, sD, tL, uS, zO, uP, if_true, Act.put, List.setIfInBounds_toArray, List.set_cons_zero, List.set_cons_succ]
            have R := aC.mk aW
            clear aW
            clear dX
            clear bW
            have G1 := aC.mk (fA uP)
            clear fA
            clear dA
            clear hall wE wF r9 wG wH wI wJ sD tL uS zO uP
            go_wp2
            go_roundg kk
            case measure => omega
            case rel => exact ⟨i + 1, (by first | rfl | rw [WB]), ⟨by have := HN.out; omega⟩, Oe, ⟨by rw [← HD.out]; exact G1.out⟩, ⟨R.out.r⟩, ⟨R.out.b⟩, ⟨R.out.h⟩⟩
    · have hge : decide ((i : Int) < (x5.length : Int)) = false := dF (by omega)
      have hi : i = x5.length := by have := HN.out; omega
      subst hi
      rw [List.take_length] at VR BT ht3
      have HR3 := aA (show R = o6 n3 kd x1 (if kd = 7 then iE x7 else strOfNums (x5.map (· % 256)), 0) from l8.out.trans (by
       have hbR : vP x5 (tJ kd) = (strOfNums (x5.map (· % 256)), 0) := by
        unfold vP
        exact iN (by rw [VR.out]; decide)
       rw [PM OG.out, hbR]
       exact congrArg (o6 n3 kd x1) (iN (fun g : (0 : Int) ≠ 0 => g rfl))))
      clear hlt HN l8 VR
      have MK := aA (show (strOfNums (x5.map (· % 256))).size ≤ 65536 from by rw [strOfNums_size, List.length_map]; exact D_.out)
      have xz := aA (show kd = 7 → strOfNums (x5.map (· % 256)) = ⟨#[]⟩ from fun h => by
       have : x5 = [] := List.length_eq_zero_iff.1 (by have := OG.out; omega)
       rw [this]; rfl)
      generalize strOfNums (x5.map (· % 256)) = D at HR3 BT ht3 MK xz ⊢
      go_wp2_with (first | fail)
      go_loopg [28] x7.length (fun kq v28 w' => ∃ j : Nat, v28 = .int .i64 j ∧ aC (j + kq = x7.length) ∧ aC (w'.heap[gt]? = some (.cells #[.string n3, .int .i64 kd, .slice A1 x1.length c1, .string (D ++ iE (x7.take j))] 38 (0, 0))) ∧ aC (w'.heap[gr]? = some (.cells #[.string ⟨#[]⟩, .int .i64 0, .slice none 0 0, .string ⟨#[]⟩] 38 (0, 0))) ∧ aC (Below w.heap.size w w') ∧ aC (Below wd3.heap.size wd3 w'))
      case atStart => exact ⟨0, rfl, ⟨by omega⟩, ⟨by rw [show iE (x7.take 0) = ⟨#[]⟩ from rfl, Fx]; exact BT.out⟩, BR, HB, H5⟩
      case round =>
      clear BT BR HB H5 ht0 ht1 ht2 ht3
      obtain ⟨j, rfl, HN, BT, BR, HB, H5⟩ := hrel
      obtain ⟨ht0, ht1, ht2, ht3⟩ := aN BT
      by_cases hlt : j < x7.length
      · have hlt' : decide ((j : Int) < (x7.length : Int)) = true := dT (by omega)
        obtain ⟨kk, rfl⟩ : ∃ m, gk = m + 1 := ⟨gk - 1, by have := HN.out; omega⟩
        have p1 : 0 ≤ (j : Int) := Int.natCast_nonneg j
        have q1 : (j : Int) < (x7.length : Int) := by omega
        obtain ⟨ad, ea, hx⟩ := Kd.kN (Kd.gN (Kd.mK X7.out) H5.out) (j : Int) p1 q1
        cases ea
        have hrd : rd x7 (j : Int) = x7[j] := by simp [rd, hlt]
        rw [hrd, Int.toNat_natCast] at hx
        have MN := aA (show D ++ iE (x7.take j) ++ qF x7[j] = D ++ iE (x7.take (j + 1)) from by rw [List.take_succ_eq_append_getElem hlt, Cm, ByteArray.append_assoc])
        clear hrd
        generalize x7[j] = n at hx MN
        have WB : wrap64 ((j : Int) + 1) = ((j + 1 : Nat) : Int) := by have := E_.out; rw [fC (by omega) (by omega)]; omega
        have fP : (D ++ iE (x7.take j)).size + (qF n).size ≤ 9223372036854775807 := by rw [ByteArray.size_append, NJ, XF, List.length_take]; have := E_.out; have := MK.out; omega
        clear hlt
        replace p1 := eT p1
        replace q1 := eT q1
        generalize D ++ iE (x7.take j) = D2 at MN fP BT ht3
        go_wp2_with (first | fail)
        have oN := dT fP
        have Z8 := eq_false (Nat.not_lt.2 fP)
        have sj := Z8
        try simp only [ByteArray.size_append] at sj
        replace fP := eT fP
        have ML := aA (show EI w wd3 wr.drew gr from ⟨iO HB.out, iO H5.out, kU BR.out⟩)
        have MO := aA (show wr.drew.cell? (ad.add j) = some (.int .i64 n) from hx)
        replace BT := aA (kU BT.out)
        clear HB H5 BR ht0 ht1 ht2 ht3 hx
        refine vQ (n := 10) (S := fun w' => True) (ds := []) #[false, false, false, false, false, false, false, false, false, false] (by kernel_rfl) rfl rfl trivial (fun hHeld => ?_)
        refine G6 L8.aEq L8.aCO (fun gP pX => ?_)
        generalize wr.drew = wz at ML MO BT hHeld ⊢
        refine QA [0, 1, 2, 3, 4, 5, 6, 7, 8, 9] (fun F7 b a w' => a = kV F7 b [(0, 250, .pointer (some ⟨gt, 3, none⟩)), (1, 251, .string D2), (2, 252, .slice (some ad) x7.length c3), (3, 253, .int .i64 j), (4, 254, .pointer (some (ad.add j))), (5, 255, .int .i64 n), (6, 256, .string (qF n)), (7, 257, .string (D2 ++ (qF n))), (8, 258, .pointer (some ⟨gt, 3, none⟩))] ∧ (EI w wd3 w' gr) ∧ (b 9 = false → w'.cell? (ad.add j) = some (.int .i64 n)) ∧ (b 9 = false → w'.heap[gt]? = some (.cells #[.string n3, .int .i64 kd, .slice A1 x1.length c1, .string D2] 38 (0, 0))) ∧ (b 9 = true → w'.heap[gt]? = some (.cells #[.string n3, .int .i64 kd, .slice A1 x1.length c1, .string (D2 ++ (qF n))] 38 (0, 0)))) gP.out pX.out (by kernel_rfl) (by kernel_rfl) ?_ ?_ ?_
        · exact ⟨by simp only [kV, Bool.false_eq_true, if_false], ML.out, fun _ => MO.out, fun _ => BT.out, fun h_ => absurd h_ (by decide)⟩
        · skip
          skip
          refine gG ?_ ?_
          · rintro b a w' ⟨ha, aW, dX, bW, fA⟩ bZ hon hoff
            refine ⟨_, rfl, fun K hK => ?_⟩
            have e26 : a.tmps[26]? = some (.pointer (some ⟨gt, 0, none⟩)) := by rw [ha]; exact (nT rfl).trans rfl
            replace ha := aC.mk ha
            have R := aC.mk aW
            have X := aC.mk (dX (hoff 9 (by kernel_rfl)))
            have G0 := aC.mk (bW (hoff 9 (by kernel_rfl)))
            refine iF (w1 := w') (v := .pointer (some ⟨gt, 3, none⟩)) (by rfl) rfl ?_ ?_
            · go_simp
              (try simp only [dC])
              try rfl
            refine hK.out _ _ ⟨(by rw [ha.out]; exact gM 0 bZ rfl rfl rfl), aW, dX, bW, fun aQ => absurd ((hoff 9 (by kernel_rfl)).symm.trans aQ) (by decide)⟩
          refine gG ?_ ?_
          · rintro b a w' ⟨ha, aW, dX, bW, fA⟩ bZ hon hoff
            refine ⟨_, rfl, fun K hK => ?_⟩
            have e250 : a.tmps[250]? = some (.pointer (some ⟨gt, 3, none⟩)) := by rw [ha]; exact fK (e := (0, 250, .pointer (some ⟨gt, 3, none⟩))) 0 rfl rfl (hon 0 (by kernel_rfl)) rfl
            replace ha := aC.mk ha
            have R := aC.mk aW
            have X := aC.mk (dX (hoff 9 (by kernel_rfl)))
            have G0 := aC.mk (bW (hoff 9 (by kernel_rfl)))
            obtain ⟨aQ, F8, OZ, O0⟩ := aN (aA G0.out)
            refine iF (w1 := w') (v := .string D2) (by rfl) rfl ?_ ?_
            · go_simp
              (try simp only [dC])
              try rfl
            refine hK.out _ _ ⟨(by rw [ha.out]; exact gM 1 bZ rfl rfl rfl), aW, dX, bW, fun aQ => absurd ((hoff 9 (by kernel_rfl)).symm.trans aQ) (by decide)⟩
          refine gG ?_ ?_
          · rintro b a w' ⟨ha, aW, dX, bW, fA⟩ bZ hon hoff
            refine ⟨_, rfl, fun K hK => ?_⟩
            have e22 : a.tmps[22]? = some (.slice (some ad) x7.length c3) := by rw [ha]; exact (nT rfl).trans rfl
            replace ha := aC.mk ha
            have R := aC.mk aW
            have X := aC.mk (dX (hoff 9 (by kernel_rfl)))
            have G0 := aC.mk (bW (hoff 9 (by kernel_rfl)))
            refine iF (w1 := w') (v := .slice (some ad) x7.length c3) (by rfl) rfl ?_ ?_
            · go_simp
              (try simp only [dC])
              try rfl
            refine hK.out _ _ ⟨(by rw [ha.out]; exact gM 2 bZ rfl rfl rfl), aW, dX, bW, fun aQ => absurd ((hoff 9 (by kernel_rfl)).symm.trans aQ) (by decide)⟩
          refine gG ?_ ?_
          · rintro b a w' ⟨ha, aW, dX, bW, fA⟩ bZ hon hoff
            refine ⟨_, rfl, fun K hK => ?_⟩
            have e28 : a.tmps[28]? = some (.int .i64 j) := by rw [ha]; exact (nT rfl).trans rfl
            replace ha := aC.mk ha
            have R := aC.mk aW
            have X := aC.mk (dX (hoff 9 (by kernel_rfl)))
            have G0 := aC.mk (bW (hoff 9 (by kernel_rfl)))
            refine iF (w1 := w') (v := .int .i64 j) (by rfl) rfl ?_ ?_
            · go_simp
              (try simp only [dC])
              try rfl
            refine hK.out _ _ ⟨(by rw [ha.out]; exact gM 3 bZ rfl rfl rfl), aW, dX, bW, fun aQ => absurd ((hoff 9 (by kernel_rfl)).symm.trans aQ) (by decide)⟩
          refine gG ?_ ?_
          · rintro b a w' ⟨ha, aW, dX, bW, fA⟩ bZ hon hoff
            refine ⟨_, rfl, fun K hK => ?_⟩
            have e252 : a.tmps[252]? = some (.slice (some ad) x7.length c3) := by rw [ha]; exact fK (e := (2, 252, .slice (some ad) x7.length c3)) 2 rfl rfl (hon 2 (by kernel_rfl)) rfl
            have aID : a.tmps[253]? = some (.int .i64 j) := by rw [ha]; exact fK (e := (3, 253, .int .i64 j)) 3 rfl rfl (hon 3 (by kernel_rfl)) rfl
            replace ha := aC.mk ha
            have R := aC.mk aW
            have X := aC.mk (dX (hoff 9 (by kernel_rfl)))
            have G0 := aC.mk (bW (hoff 9 (by kernel_rfl)))
            refine iF (w1 := w') (v := .pointer (some (ad.add j))) (by rfl) rfl ?_ ?_
            · go_simp
              (try simp only [dC])
              try rfl
            refine hK.out _ _ ⟨(by rw [ha.out]; exact gM 4 bZ rfl rfl rfl), aW, dX, bW, fun aQ => absurd ((hoff 9 (by kernel_rfl)).symm.trans aQ) (by decide)⟩
          refine gG ?_ ?_
          · rintro b a w' ⟨ha, aW, dX, bW, fA⟩ bZ hon hoff
            refine ⟨_, rfl, fun K hK => ?_⟩
            have e254 : a.tmps[254]? = some (.pointer (some (ad.add j))) := by rw [ha]; exact fK (e := (4, 254, .pointer (some (ad.add j)))) 4 rfl rfl (hon 4 (by kernel_rfl)) rfl
            replace ha := aC.mk ha
            have R := aC.mk aW
            have X := aC.mk (dX (hoff 9 (by kernel_rfl)))
            have G0 := aC.mk (bW (hoff 9 (by kernel_rfl)))
            have Rm := X.out
            refine iF (w1 := w') (v := .int .i64 n) (by rfl) rfl ?_ ?_
            · go_simp
              (try simp only [dC])
              try rfl
            refine hK.out _ _ ⟨(by rw [ha.out]; exact gM 5 bZ rfl rfl rfl), aW, dX, bW, fun aQ => absurd ((hoff 9 (by kernel_rfl)).symm.trans aQ) (by decide)⟩
          refine gG ?_ ?_
          · rintro b a w' ⟨ha, aW, dX, bW, fA⟩ bZ hon hoff
            refine ⟨_, rfl, fun K hK => ?_⟩
            have aIE : a.tmps[255]? = some (.int .i64 n) := by rw [ha]; exact fK (e := (5, 255, .int .i64 n)) 5 rfl rfl (hon 5 (by kernel_rfl)) rfl
            replace ha := aC.mk ha
            have R := aC.mk aW
            have X := aC.mk (dX (hoff 9 (by kernel_rfl)))
            have G0 := aC.mk (bW (hoff 9 (by kernel_rfl)))
            refine call_ 32 #[.int .i64 n] (by rfl) rfl (by go_simp; try rfl) ?_
            refine (ND.calls n (qF n) w' rfl).mono ?_
            rintro e w1 ⟨rfl, hB⟩
            refine ⟨_, rfl, ?_⟩
            refine hK.out _ _ ⟨(by rw [ha.out]; exact gM 6 bZ rfl rfl rfl), R.out.step hB, fun _ => ((hB).cell (World.block_lt_of_cell? _ _ X.out)).trans X.out, fun _ => oK G0.out hB, fun aQ => absurd ((hoff 9 (by kernel_rfl)).symm.trans aQ) (by decide)⟩
          refine gG ?_ ?_
          · rintro b a w' ⟨ha, aW, dX, bW, fA⟩ bZ hon hoff
            refine ⟨_, rfl, fun K hK => ?_⟩
            have e251 : a.tmps[251]? = some (.string D2) := by rw [ha]; exact fK (e := (1, 251, .string D2)) 1 rfl rfl (hon 1 (by kernel_rfl)) rfl
            have aIF : a.tmps[256]? = some (.string (qF n)) := by rw [ha]; exact fK (e := (6, 256, .string (qF n))) 6 rfl rfl (hon 6 (by kernel_rfl)) rfl
            replace ha := aC.mk ha
            have R := aC.mk aW
            have X := aC.mk (dX (hoff 9 (by kernel_rfl)))
            have G0 := aC.mk (bW (hoff 9 (by kernel_rfl)))
            refine iF (w1 := w') (v := .string (D2 ++ (qF n))) (by rfl) rfl ?_ ?_
            · go_simp
              (try simp only [dC])
              try rfl
            refine hK.out _ _ ⟨(by rw [ha.out]; exact gM 7 bZ rfl rfl rfl), aW, dX, bW, fun aQ => absurd ((hoff 9 (by kernel_rfl)).symm.trans aQ) (by decide)⟩
          refine gG ?_ ?_
          · rintro b a w' ⟨ha, aW, dX, bW, fA⟩ bZ hon hoff
            refine ⟨_, rfl, fun K hK => ?_⟩
            have e26 : a.tmps[26]? = some (.pointer (some ⟨gt, 0, none⟩)) := by rw [ha]; exact (nT rfl).trans rfl
            replace ha := aC.mk ha
            have R := aC.mk aW
            have X := aC.mk (dX (hoff 9 (by kernel_rfl)))
            have G0 := aC.mk (bW (hoff 9 (by kernel_rfl)))
            refine iF (w1 := w') (v := .pointer (some ⟨gt, 3, none⟩)) (by rfl) rfl ?_ ?_
            · go_simp
              (try simp only [dC])
              try rfl
            refine hK.out _ _ ⟨(by rw [ha.out]; exact gM 8 bZ rfl rfl rfl), aW, dX, bW, fun aQ => absurd ((hoff 9 (by kernel_rfl)).symm.trans aQ) (by decide)⟩
          refine gG ?_ ?_
          · rintro b a w' ⟨ha, aW, dX, bW, fA⟩ bZ hon hoff
            refine ⟨_, rfl, fun K hK => ?_⟩
            have e258 : a.tmps[258]? = some (.pointer (some ⟨gt, 3, none⟩)) := by rw [ha]; exact fK (e := (8, 258, .pointer (some ⟨gt, 3, none⟩))) 8 rfl rfl (hon 8 (by kernel_rfl)) rfl
            have e257 : a.tmps[257]? = some (.string (D2 ++ (qF n))) := by rw [ha]; exact fK (e := (7, 257, .string (D2 ++ (qF n)))) 7 rfl rfl (hon 7 (by kernel_rfl)) rfl
            replace ha := aC.mk ha
            have R := aC.mk aW
            have X := aC.mk (dX bZ)
            have G0 := aC.mk (bW bZ)
            obtain ⟨aQ, F8, OZ, O0⟩ := aN (aA G0.out)
            have Qz := eZ G0.out 3
            refine J6 (w1 := w'.setCell ⟨gt, 3, none⟩ (.string (D2 ++ (qF n)))) (by rfl) rfl ?_ ?_
            · go_simp
              try rfl
            refine hK.out _ _ ⟨(by rw [ha.out]; exact SI (v := undef) rfl), R.out.put GT.out p_.out lM.out _, fun aQ => absurd ((zH b 9).symm.trans aQ) (by decide), fun aQ => absurd ((zH b 9).symm.trans aQ) (by decide), fun _ => lH (cs := #[.string n3, .int .i64 kd, .slice A1 x1.length c1, .string D2]) G0.out 3 _ rfl⟩
          exact PL
        · rintro b a w' hall ⟨ha, aW, dX, bW, fA⟩
          skip
          have wE := hall 0 (by kernel_rfl)
          have wF := hall 1 (by kernel_rfl)
          have r9 := hall 2 (by kernel_rfl)
          have wG := hall 3 (by kernel_rfl)
          have wH := hall 4 (by kernel_rfl)
          have wI := hall 5 (by kernel_rfl)
          have wJ := hall 6 (by kernel_rfl)
          have sD := hall 7 (by kernel_rfl)
          have tL := hall 8 (by kernel_rfl)
          have uS := hall 9 (by kernel_rfl)
          subst ha
          simp only [kV, wE, wF, r9, wG, wH, wI, wJ, sD, tL, uS, if_true, Act.put, List.setIfInBounds_toArray, List.set_cons_zero, List.set_cons_succ]
          have R := aC.mk aW
          clear aW
          clear dX
          clear bW
          have G1 := aC.mk (fA uS)
          clear fA
          clear hall wE wF r9 wG wH wI wJ sD tL uS
          go_wp2
          go_roundg kk
          case measure => omega
          case rel => exact ⟨j + 1, (by first | rfl | rw [WB]), ⟨by have := HN.out; omega⟩, ⟨by rw [← MN.out]; exact G1.out⟩, ⟨R.out.r⟩, ⟨R.out.b⟩, ⟨R.out.h⟩⟩
      · have hge : decide ((j : Int) < (x7.length : Int)) = false := dF (by omega)
        have hi : j = x7.length := by have := HN.out; omega
        subst hi
        rw [List.take_length] at BT
        have Ps := aA (show (D ++ iE x7).size ≤ 1000000 from by rw [ByteArray.size_append, NJ]; have := E_.out; have := MK.out; omega)
        have qH := aA (show R = if qR n3 kd x1 (D ++ iE x7) ≠ 0 then (iJ, qR n3 kd x1 (D ++ iE x7)) else ((n3, kd, x1, D ++ iE x7), 0) from HR3.out.trans (by
         rw [XO]
         have e : (if kd = 7 then iE x7 else D) = D ++ iE x7 := by
          by_cases k7 : kd = 7
          · rw [ip k7, xz.out k7, aAx]
          · have : x7 = [] := List.length_eq_zero_iff.1 (by have := OG.out; omega)
            rw [iN k7, this, show iE [] = ⟨#[]⟩ from rfl, Fx]
         rw [e]))
        clear hlt HN HR3 xz ht0 ht1 ht2 ht3
        generalize D ++ iE x7 = D3 at qH Ps BT ⊢
        obtain ⟨ht0, ht1, ht2, ht3⟩ := aN BT
        go_wp2_with (first | fail)
        refine (GJ.calls n3 kd A1 c1 x1 D3 _ _ (Kd.gN (Kd.mK X1.out) H5.out) MR.out (ip ⟨by have := KJ.out; omega, by have := Ps.out; omega⟩)).mono ?_
        rintro e wk ⟨rfl, hb⟩
        replace BR := aI BR hb
        replace BT := aI BT hb
        replace H5 := hbS H5 hb
        replace HB := hbS HB hb
        clear hb ht0 ht1 ht2 ht3
        obtain ⟨ck, hck⟩ : ∃ ck, qR n3 kd x1 D3 = ck := ⟨_, rfl⟩
        rw [hck] at qH ⊢
        clear hck
        obtain ⟨ht0, ht1, ht2, ht3⟩ := aN BT
        obtain ⟨hr0, hr1, hr2, hr3⟩ := aN BR
        have fJ := fz BR 0
        have fQ := fz BR 1
        have fT := fz BR 2
        have fU := fz BR 3
        have kL := lM.out
        have KV := l9.out
        by_cases hc : ck ≠ 0
        · have b1 : (ck != 0) = true := bne_iff_ne.2 hc
          have HR4 := aA (show R = (iJ, ck) from qH.out.trans (ip hc))
          clear hc
          go_wp2
          refine bodyPost_ret (eP rfl _ _ gr 38 #[.string ⟨#[]⟩, .int .i64 0, .slice none 0 0, .string ⟨#[]⟩] (0, 0) _ rfl (aU BR) jY rfl (by kernel_rfl)) rfl ?_
          exact jH HR4.out (dR HB.out GR.out)
        · have b1 : (ck != 0) = false := bne_eq_false_iff_eq.2 (Classical.not_not.1 hc)
          have HR4 := aA (qH.out.trans (iN hc))
          clear hc
          go_wp2
          refine bodyPost_ret (eP rfl _ _ gr 38 #[.string n3, .int .i64 kd, .slice A1 x1.length c1, .string D3] (0, 0) _ rfl (aU BR) jY rfl (by kernel_rfl)) rfl ?_
          exact NN HR4.out (dR HB.out GR.out) (JW (kZ X1.out H5.out) (fun k hk => Nat.ne_of_gt (Nat.lt_of_lt_of_le R3.out hk.1))) MR.out (fun k hk => Nat.le_trans S3.out hk.1)
end Go.Proofs.YtgmggompdidcoaaGreatDoor.X
