import Derived.Test.YtgmggompdidcoaaGreatDoorMPbtensorReads7
namespace Go.Proofs.YtgmggompdidcoaaGreatDoor.X
open Go.RowKit Go.Proofs.YtgmggompdidcoaaGreatDoorW.aX Go.Proofs.YtgmggompdidcoaaGreatDoorW.bJ Go.Proofs.YtgmggompdidcoaaGreatDoorW.bK
attribute [local go_sem] bO bQ bS bU bM bN bP bR
set_option linter.unusedVariables false
set_option linter.unusedSimpArgs false
set_option maxHeartbeats 8000000
set_option maxRecDepth 100000
def mW.f (a0 : Int) : Option ByteArray := if 0 ≤ a0 ∧ a0 < 18446744073709551616 then some (uT a0.toNat) else none
def mW.Rel (N : Nat) (w : World) (a' : Act) (w' : World) : Prop := ∃ (m : Nat) (xs : List Int) (u3 u4 u5 u6 u7 u8 u9 WJ WK WL WM WN WO u16 WQ WR WS u20 : Value),
 a' = { tmps := #[.int .u64 m, undef, .string ⟨#[]⟩, u3, u4, u5, u6, u7, u8, u9, WJ, WK, WL, WM, WN, WO, u16, WQ, WR, WS, u20], defers := [] } ∧ aC (m < 18446744073709551616) ∧
 aC (Kd.R (Kd.int .u8) 5 w' w.heap.size (fun _ => True) u3 xs) ∧ aC (Below w.heap.size w w') ∧ aC (xs ++ (tX m).map Int.ofNat = (tX N).map Int.ofNat)
theorem mW.calls (a0 : Int) (r : ByteArray) (w : World) (h : mW.f a0 = some r) :
 Calls Tryz.prog 72 #[.int .u64 a0] w fun e w' => e = .returned (.string r) ∧ Below w.heap.size w w' := by
 unfold mW.f at h
 by_cases h0 : 0 ≤ a0 ∧ a0 < 18446744073709551616
 · rw [ip h0] at h
   obtain ⟨h0, h1⟩ := h0
   obtain ⟨n, rfl⟩ := Int.eq_ofNat_of_zero_le h0
   have HJ : aC (strOfNums ((tX n).map Int.ofNat) = r) := ⟨Option.some.inj h⟩
   have H1 := aC.mk h1
   clear h h1
   go_enter Tryz.func72, Tryz.ntmps72
   go_wp2
   refine Cv 0 (mW.Rel n w) (fun a' _ => match a'.tmps.getD 0 undef with | .int _ q => q.toNat | _ => 0) rfl ?_ ?_
   · intro K hK
     have HK := aC.mk hK
     clear hK
     go_wp2
     refine HK.out _ _ ⟨n, [], _, _, _, _, _, _, _, _, _, _, _, _, _, _, _, _, _, _, rfl, ⟨by have := H1.out; omega⟩, ⟨Kd.AZ _ _ _ _ _⟩, ⟨Below.refl _ _⟩, ⟨rfl⟩⟩
   rintro a' w' ⟨m, xs, u3, u4, u5, u6, u7, u8, u9, WJ, WK, WL, WM, WN, WO, u16, WQ, WR, WS, u20, rfl, HM, HO, HB, HE⟩
   have HL : aC (xs.length ≤ 10) := ⟨by
    have := congrArg List.length HE.out
    simp only [List.length_append, List.length_map, Dk] at this
    have := XV n (by have := H1.out; omega)
    omega⟩
   by_cases hge : 128 ≤ (m : Int)
   · have HX : aC ((xs ++ [((m : Int) % 128 + 128)]) ++ (tX (m / 128)).map Int.ofNat = (tX n).map Int.ofNat) := ⟨by
      rw [← HE.out, TT (v := m) (by omega)]; simp⟩
     go_wp2_with (first | ((with_reducible refine qD (b := .append) (xs := #[.tmp 6, .tmp 11]) rfl ?_); at_builtin; refine Kd.qZ (Kd.int .u8) (w0 := w) w.heap.size rfl (.tmp 6) (.tmp 11) 80 5 (.int .u8 0) 1 rfl Tryz.underlying80 info5 rfl (by decide) (by omega) u3 xs ((m : Int) % 128 + 128) [.int .u8 ((m : Int) % 128 + 128)] (fun _ => True) (fun _ => False) rfl rfl ?aP (fun _ hk => hk.elim) ?aF ?aO ?aB ?aS ?aL ?_; (case aP => exact rfl); (case aB => exact (by repeat (first | (with_reducible first | exact HB.out | apply iD | apply nS | apply iO) | exact HB.out))); (case aF => exact (fun _ _ => trivial)); (case aO => exact (by (with_reducible repeat (first | apply Kd.kI | apply Kd.kD | apply Kd.jX)); exact HO.out)); (case aS => exact (iI (by repeat (first | (with_reducible first | exact HB.out | apply iD | apply nS | apply iO) | exact HB.out)))); (case aL => have := HL.out; omega); intro v105 w8 ho hb hg hat; have bI := aC.mk hb; have bV := aC.mk ho; clear HB; clear HO; have HB := bI; have HO := bV; clear bI bV; clear ho hb hg hat))
     go_step3
     refine ⟨rfl, ⟨m / 128, _, _, _, _, _, _, _, _, _, _, _, _, _, _, _, _, _, _, _, by rfl, ⟨by have := HM.out; omega⟩, HO, HB, HX⟩, ?_⟩
     simp
     omega
   · have HX : aC (xs ++ [(m : Int)] = (tX n).map Int.ofNat) := ⟨by
      rw [← HE.out, TU (v := m) (by omega)]; rfl⟩
     go_wp2_with (first | ((with_reducible refine qD (b := .append) (xs := #[.tmp 15, .tmp 18]) rfl ?_); at_builtin; refine Kd.qZ (Kd.int .u8) (w0 := w) w.heap.size rfl (.tmp 15) (.tmp 18) 80 5 (.int .u8 0) 1 rfl Tryz.underlying80 info5 rfl (by decide) (by omega) u3 xs ((m : Int)) [.int .u8 ((m : Int))] (fun _ => True) (fun _ => False) rfl rfl ?aP (fun _ hk => hk.elim) ?aF ?aO ?aB ?aS ?aL ?_; (case aP => exact rfl); (case aB => exact (by repeat (first | (with_reducible first | exact HB.out | apply iD | apply nS | apply iO) | exact HB.out))); (case aF => exact (fun _ _ => trivial)); (case aO => exact (by (with_reducible repeat (first | apply Kd.kI | apply Kd.kD | apply Kd.jX)); exact HO.out)); (case aS => exact (iI (by repeat (first | (with_reducible first | exact HB.out | apply iD | apply nS | apply iO) | exact HB.out)))); (case aL => have := HL.out; omega); intro v105 w8 ho hb hg hat; have bI := aC.mk hb; have bV := aC.mk ho; clear HB; clear HO; have HB := bI; have HO := bV; clear bI bV; have hcv := XH (P := Tryz.prog) Tryz.underlying80 Tryz.underlying5 Tryz.underlying9 (Kd.XR HO.out); clear ho hb hg hat))
     simp only [Exit.jump]
     go_ret
     exact ⟨by rw [← HJ.out, ← HX.out]; rfl, HB.out⟩
 · rw [iN h0] at h; cases h
def vH.l0 : Nat → Int → List Int → Int → Int → Option (ByteArray)
 | 0, _, _, _, _ => none
 | k + 1, x0, x5, x7, x8 => if x8 < x7 then (if 0 ≤ (wrap64 (8 * x8)) then (if x5.length < 140737488355328 then (vH.l0 k x0 (x5 ++ [(shr .u64 x0 (wrap64 (8 * x8))) % 256]) x7 (wrap64 (x8 + 1))) else (none)) else (none)) else (some (strOfNums x5))
def vH.f (k : Nat) (a0 : Int) (a1 : Int) : Option (ByteArray) := vH.l0 k a0 ([] : List Int) a1 0
theorem vH.calls (k : Nat) (a0 : Int) (a1 : Int) (r : ByteArray) (w : World) (h : vH.f k a0 a1 = some r) :
 Calls Tryz.prog 94 #[.int .u64 a0, .int .i64 a1] w fun e w' => e = .returned (.string r) ∧ Below w.heap.size w w' := by
 have HB := aA (Below.refl w.heap.size w); have H : (vH.l0 k a0 ([] : List Int) a1 0) = some r := h; clear h; have H' := aA H; clear H
 go_enter Tryz.func94, Tryz.ntmps94
 go_wp2
 go_loopg [5, 8] k (fun kq v5 v8 w' => ∃ (eU : List Int) (l7 : Int), v8 = .int .i64 l7 ∧ aC (vH.l0 kq a0 eU a1 l7 = some r) ∧ aC (kq ≤ k) ∧ aC (Kd.R (Kd.int .u8) 5 w' w.heap.size (fun _ => True) v5 eU) ∧ aC (Below w.heap.size w w'))
 case atStart => exact ⟨(([] : List Int)), (0), aZ, H', ⟨Nat.le_refl _⟩, ⟨nC⟩, ⟨aJ HB⟩⟩
 case round =>
  clear H'; obtain ⟨eU, l7, rfl, HA, bD, qQ, HB⟩ := hrel
  cases gk with
  | zero => exact absurd HA.out (by simp [vH.l0])
  | succ k1 =>
   have H := HA.out; clear HA
   simp only [vH.l0] at H
   by_cases c3 : l7 < a1
   · rw [ip c3] at H
     have gL := dT c3; clear c3; obtain ⟨M3, uj⟩ : ∃ j_ : Int, (wrap64 (8 * l7)) = j_ := ⟨_, rfl⟩; replace H : (if 0 ≤ (M3) then (if eU.length < 140737488355328 then (vH.l0 k1 a0 (eU ++ [(shr .u64 a0 (M3)) % 256]) a1 (wrap64 (l7 + 1))) else (none)) else (none)) = some r := by first | (rw [uj] at H; exact H) | (simp only [uj] at H ⊢; exact H)
     have aHH : (IntKind.i64.wrap (8 * l7)) = M3 := (dC _).trans uj
     by_cases c5 : 0 ≤ (M3)
     · rw [ip c5] at H
       have iH := eT c5; have lF := dT c5; clear c5; obtain ⟨yP, MB⟩ : ∃ j_ : Int, (shr .u64 a0 (M3)) = j_ := ⟨_, rfl⟩; replace H : (if eU.length < 140737488355328 then (vH.l0 k1 a0 (eU ++ [(yP) % 256]) a1 (wrap64 (l7 + 1))) else (none)) = some r := by first | (rw [MB] at H; exact H) | (simp only [MB] at H ⊢; exact H)
       have aHI : (a0 / 2 ^ min (M3).toNat 64) = yP := MB; have aHK : (M3) ≤ 64 → (a0 / 2 ^ (M3).toNat) = yP := Zn MB
       by_cases c7 : eU.length < 140737488355328
       · rw [ip c7] at H
         have rq := aA c7; clear c7; obtain ⟨y101, hy101⟩ : ∃ y_ : List Int, y_ = (eU ++ [(yP) % 256]) := ⟨_, rfl⟩; replace H : (vH.l0 k1 a0 y101 a1 (wrap64 (l7 + 1))) = some r := by first | (rw [hy101]; with_reducible exact H) | (have fI := (Option.bind_some _ _).symm.trans H; rw [hy101]; with_reducible exact fI) | (have fI := (Option.bind_some _ _).symm.trans H; with_reducible exact fI) | with_reducible exact H | (rw [hy101]; exact H) | exact H
         have AX := aA hy101; clear hy101; have H' := aA H; clear H
         go_wp2_with (first | ((with_reducible refine qD (b := .append) (xs := #[.tmp 11, .tmp 17]) rfl ?_); at_builtin; refine Kd.qZ (Kd.int .u8) (w0 := w) w.heap.size rfl (.tmp 11) (.tmp 17) 80 5 (.int .u8 0) 1 rfl Tryz.underlying80 info5 rfl (by decide) (by omega) u5 eU ((yP) % 256) [.int .u8 ((yP) % 256)] (fun _ => True) (fun _ => False) rfl rfl ?aP (fun _ hk => hk.elim) ?aF ?aO ?aB ?aS ?aL ?_; (case aP => exact rfl); (case aB => exact (aJ HB)); (case aF => exact (fun _ _ => trivial)); (case aO => exact (by (with_reducible repeat (first | apply Kd.kI | apply Kd.kD | apply Kd.jX)); exact qQ.out)); (case aS => exact (iI (aJ HB))); (case aL => have := rq.out; omega); intro KC w8 ho hb hg hat; rw [← AX.out] at ho; replace HB := aA hb; have jN := aA ho; clear qQ; clear ho hb hg hat))
         go_roundg k1
         case measure => have := bD.out; omega
         case rel => exact ⟨(y101), (wrap64 (l7 + 1)), aZ, H', iK bD, ⟨by (with_reducible repeat (first | apply Kd.kI | apply Kd.kD | apply Kd.jX)); exact jN.out⟩, ⟨aJ HB⟩⟩
       · rw [iN c7] at H; exact uD H
     · rw [iN c5] at H; exact uD H
   · rw [iN c3] at H
     have gL := dF c3; clear c3; obtain rfl := Option.some.inj H; have aIU := XH (P := Tryz.prog) Tryz.underlying80 Tryz.underlying5 Tryz.underlying9 (Kd.XR qQ.out)
     go_wp2
     go_ret
     exact ⟨eH, aJ HB⟩
def zA.f (a0 a1 : Int) : Option ByteArray := if 0 ≤ a0 ∧ a0 < 18446744073709551616 ∧ 0 ≤ a1 ∧ a1 ≤ 8 then some (xB a0.toNat a1.toNat) else none
theorem Ug (v n : Nat) (hv : v < 18446744073709551616) (hn : n ≤ 8) (d : Nat) : ∀ (k i : Nat), n - i = d → i ≤ n → d < k →
 vH.l0 k (v : Int) ((IU v i).map Int.ofNat) (n : Int) (i : Int) = some (xB v n) := by
 induction d with
 | zero =>
  intro k i hd hi hk
  obtain ⟨k, rfl⟩ : ∃ m, k = m + 1 := ⟨k - 1, by omega⟩
  obtain rfl : i = n := by omega
  simp only [vH.l0]
  rw [iN (by omega)]; rfl
 | succ d ih =>
  intro k i hd hi hk
  obtain ⟨k, rfl⟩ : ∃ m, k = m + 1 := ⟨k - 1, by omega⟩
  simp only [vH.l0]
  have e0 : wrap64 (8 * (i : Int)) = ((8 * i : Nat) : Int) := by rw [fC (by omega) (by omega)]; omega
  have e1 : shr .u64 (v : Int) ((8 * i : Nat) : Int) % 256 = Int.ofNat (v / 256 ^ i % 256) := by
   show (v : Int) / 2 ^ min ((8 * i : Nat) : Int).toNat 64 % 256 = _
   have hp : (256 : Nat) ^ i = 2 ^ (8 * i) := by rw [Nat.pow_mul]
   rw [Int.toNat_natCast, Nat.min_eq_left (by omega), hp]
   simp
  rw [ip (by omega), ip (by rw [e0]; omega), ip (by simp [Cq]; omega), e0, e1, fC (by omega) (by omega)]
  have := ih k (i + 1) (by omega) (by omega) (by omega)
  rw [Dx, List.map_append] at this
  exact this
theorem zA.ev (a0 a1 : Int) (r) (h : zA.f a0 a1 = some r) : ∃ k, vH.f k a0 a1 = some r := by
 unfold zA.f at h
 split at h
 · rename_i hr
   obtain ⟨v, rfl⟩ := Int.eq_ofNat_of_zero_le hr.1
   obtain ⟨n, rfl⟩ := Int.eq_ofNat_of_zero_le hr.2.2.1
   exact ⟨n + 1, (Ug v n (by omega) (by omega) n (n + 1) 0 (by omega) (by omega) (by omega)).trans h⟩
 · cases h
theorem zA.calls (a0 : Int) (a1 : Int) (r : ByteArray) (w : World) (h : zA.f a0 a1 = some r) :
 Calls Tryz.prog 94 #[.int .u64 a0, .int .i64 a1] w fun e w' => e = .returned (.string r) ∧ Below w.heap.size w w' := by
 obtain ⟨k, hk⟩ := zA.ev a0 a1 _ h
 exact vH.calls k a0 a1 r w hk
def pG.j0 : Nat → Bool → Int → Int → Int → ByteArray → Option (ByteArray)
 | 0, _, _, _, _, _ => none
 | k + 1, Bu, vM, pO, pQ, pR => if Bu = true then (some (⟨#[]⟩ : ByteArray)) else ((mW.f (Go.bits .or .u64 (IntKind.u64.wrap ((IntKind.u64.wrap (vM)) * 8)) (IntKind.u64.wrap (pO)))).bind fun t103 => (if pO = 0 then ((mW.f pQ).bind fun t104 => (if t103.size + t104.size ≤ 9223372036854775807 then (some (t103 ++ t104)) else (none))) else (if pO = 2 then ((mW.f (IntKind.u64.wrap ((pR.size : Int)))).bind fun t105 => (if t103.size + t105.size ≤ 9223372036854775807 then (if (t103 ++ t105).size + pR.size ≤ 9223372036854775807 then (some ((t103 ++ t105) ++ pR)) else (none)) else (none))) else (if pO = 1 then ((zA.f pQ 8).bind fun t106 => (if t103.size + t106.size ≤ 9223372036854775807 then (some (t103 ++ t106)) else (none))) else (if pQ > 4294967295 then (some (⟨#[]⟩ : ByteArray)) else ((zA.f pQ 4).bind fun t107 => (if t103.size + t107.size ≤ 9223372036854775807 then (some (t103 ++ t107)) else (none))))))))
def pG.f (k : Nat) (aY : Int) (aT : Int) (nL : Int) (bC : ByteArray) : Option (ByteArray) := if aY < 0 then (pG.j0 k true aY aT nL bC) else (if aT < 0 then (pG.j0 k true aY aT nL bC) else ((DW.f (IntKind.u64.wrap (aY)) (IntKind.u64.wrap (aT))).bind fun t102 => (pG.j0 k (!t102) aY aT nL bC)))
def pG.T8 : Bool × List (List Nat × List Nat) := (true, [([], []), ([], []), ([1], [1]), ([2], [2]), ([3], [3]), ([4], [4]), ([0, 5], [0, 5]), ([], []), ([7], [7]), ([6, 8], [6, 8]), ([9, 5, 0, 1, 2, 3, 4, 5, 6, 7, 8, 9], [9])])
def pG.B8 : List Nat := [0, 0, 2, 6, 14, 30, 63, 0, 128, 511, 1023]
theorem pG.m_ : jU .any (opsOf Tryz.f74 8) = pG.T8 := by kernel_rfl
theorem pG.Y9 : uK pG.T8.2 pG.B8 = true := by kernel_rfl
theorem pG.calls (k : Nat) (aY : Int) (aT : Int) (nL : Int) (bC : ByteArray) (r : ByteArray) (w : World) (h : pG.f k aY aT nL bC = some r) :
 Calls Tryz.prog 74 #[.agg #[.int .i64 aY, .int .i64 aT, .int .u64 nL, .string bC]] w fun e w' => e = .returned (.string r) ∧ Below w.heap.size w w' := by
 have EB := Tryz.underlying95; have HB := aA (Below.refl w.heap.size w); have H : (if aY < 0 then (pG.j0 k true aY aT nL bC) else (if aT < 0 then (pG.j0 k true aY aT nL bC) else ((DW.f (IntKind.u64.wrap (aY)) (IntKind.u64.wrap (aT))).bind fun t102 => (pG.j0 k (!t102) aY aT nL bC)))) = some r := h; clear h; have BZ := aA H; clear H
 go_enter Tryz.func74, Tryz.ntmps74
 go_upto_region 1 with (first | ((with_reducible refine cK (N := 1) rfl ?_); refine dB (N := 1) (cs := #[.int .i64 aY, .int .i64 aT, .int .u64 nL, .string bC]) (t := 95) ?_; intro dG hg w3 aG hb; have aD := aA aG; have lV := bB HB hg; have lU := bB HB hg; replace HB := hbS HB hb; clear hb aG hg))
 (try simp only [Act.put, List.setIfInBounds_toArray, List.set_cons_zero, List.set_cons_succ])
 go_cut [21] (fun v21 wc => ∃ (kq : Nat) (ZO : Bool), v21 = .bool ZO ∧ aC (pG.j0 kq ZO aY aT nL bC = some r) ∧ aC (kq ≤ k) ∧ aC (wc.heap[dG]? = some (.cells #[.int .i64 aY, .int .i64 aT, .int .u64 nL, .string bC] 95 (0, 0))) ∧ aC (Below w.heap.size w wc))
 case first =>
  have H := BZ.out; clear BZ
  by_cases c4 : aY < 0
  ·
   rw [ip c4] at H; have fP := dT c4; clear c4
   (first | rw [fP] | (simp only [dC, iC]; rw [fP]) | skip)
   have H' := aA H; clear H; obtain ⟨aCY, aCZ, aC0, aC1⟩ := aN aD
   go_wp2
   go_meet
   case rel => exact ⟨_, (true), aZ, H', qX, ⟨fZ aD⟩, ⟨aJ HB⟩⟩
  ·
   rw [iN c4] at H; have fP := dF c4; clear c4
   (first | rw [fP] | (simp only [dC, iC]; rw [fP]) | skip)
   by_cases c6 : aT < 0
   ·
    rw [ip c6] at H; have kP := dT c6; clear c6; have H' := aA H; clear H; obtain ⟨UD, UE, jr, jv⟩ := aN aD
    go_wp2
    go_meet
    case rel => exact ⟨_, (true), aZ, H', qX, ⟨fZ aD⟩, ⟨aJ HB⟩⟩
   ·
    rw [iN c6] at H; have kP := dF c6; clear c6; replace H := bnd H; obtain ⟨t102, A8, H⟩ := H; have H' := aA H; clear H; obtain ⟨Lh, Li, Lj, Ll⟩ := aN aD
    go_wp2_with (first | (go_at_call 93; (with_reducible refine (DW.calls (IntKind.u64.wrap (aY)) (IntKind.u64.wrap (aT)) t102 _ A8.out).mono ?_); rintro e w' ⟨rfl, ⟨nd, rfl⟩⟩))
    go_meet
    case rel => exact ⟨_, (!t102), aZ, H', qX, ⟨fZ aD⟩, ⟨aJ HB⟩⟩
 case rest =>
  clear BZ; obtain ⟨kq, ZO, rfl, HA, RI, aD, HB⟩ := hcut
  cases kq with
  | zero => exact absurd HA.out (by simp [pG.j0])
  | succ M4 =>
   have H := HA.out; clear HA
   simp only [pG.j0] at H
   by_cases c10 : ZO = true
   ·
    subst c10; have H1 : (some (⟨#[]⟩ : ByteArray)) = some r := by rw [ip rfl] at H; exact H
    clear H; have H := H1; clear H1; obtain rfl := Option.some.inj H
    go_wp2
    go_ret
    exact ⟨eH, aJ HB⟩
   ·
    replace c10 := Bool.eq_false_iff.mpr c10; subst c10; have H1 : ((mW.f (Go.bits .or .u64 (IntKind.u64.wrap ((IntKind.u64.wrap (aY)) * 8)) (IntKind.u64.wrap (aT)))).bind fun t103 => (if aT = 0 then ((mW.f nL).bind fun t104 => (if t103.size + t104.size ≤ 9223372036854775807 then (some (t103 ++ t104)) else (none))) else (if aT = 2 then ((mW.f (IntKind.u64.wrap ((bC.size : Int)))).bind fun t105 => (if t103.size + t105.size ≤ 9223372036854775807 then (if (t103 ++ t105).size + bC.size ≤ 9223372036854775807 then (some ((t103 ++ t105) ++ bC)) else (none)) else (none))) else (if aT = 1 then ((zA.f nL 8).bind fun t106 => (if t103.size + t106.size ≤ 9223372036854775807 then (some (t103 ++ t106)) else (none))) else (if nL > 4294967295 then (some (⟨#[]⟩ : ByteArray)) else ((zA.f nL 4).bind fun t107 => (if t103.size + t107.size ≤ 9223372036854775807 then (some (t103 ++ t107)) else (none)))))))) = some r := by rw [iN (show ¬ (false = true) by decide)] at H; exact H
    clear H; have H := H1; clear H1; replace H := bnd H; obtain ⟨t103, yG, H⟩ := H
    by_cases c12 : aT = 0
    ·
     rw [ip c12] at H; obtain ⟨tH, OA⟩ := dH c12; clear c12; replace H := bnd H; obtain ⟨t104, VD, H⟩ := H; replace H := dU H; obtain ⟨c14, H⟩ := H; have yB := eT c14; have QH := dT c14; try have aDS := eq_false (Nat.not_lt.2 c14)
     try have aDT := aDS
     try simp only [ByteArray.size_append] at aDT
     obtain rfl := Option.some.inj H; obtain ⟨di, dm, dn, dw⟩ := aN aD
     go_wp2_with (first | ((with_reducible refine dJ (f := 72) rfl ?_); refine dV (some 30) rfl rfl Tryz.func72 (by kernel_rfl) rfl #[.int .u64 (Go.bits .or .u64 (IntKind.u64.wrap ((IntKind.u64.wrap (aY)) * 8)) (IntKind.u64.wrap (aT)))] rfl ?_; (with_reducible refine (mW.calls (Go.bits .or .u64 (IntKind.u64.wrap ((IntKind.u64.wrap (aY)) * 8)) (IntKind.u64.wrap (aT))) t103 _ yG.out).mono ?_); rintro e w16 ⟨rfl, hb⟩; refine ⟨_, rfl, ?_⟩; replace aD := aI aD hb; replace HB := hbS HB hb; (try clear hb); obtain ⟨dz, ek, eu, fe⟩ := aN aD) | ((with_reducible refine dJ (f := 72) rfl ?_); refine dV (some 38) rfl rfl Tryz.func72 (by kernel_rfl) rfl #[.int .u64 nL] rfl ?_; (with_reducible refine (mW.calls nL t104 _ VD.out).mono ?_); rintro e _t ⟨rfl, hb⟩; refine ⟨_, rfl, ?_⟩; replace aD := aI aD hb; replace HB := hbS HB hb; (try clear hb)))
     go_ret
     exact ⟨eH, aJ HB⟩
    ·
     rw [iN c12] at H; have tH := beq_eq_false_iff_ne.mpr c12; have OA := bne_iff_ne.mpr c12
     by_cases c19 : aT = 2
     ·
      rw [ip c19] at H; obtain ⟨LX, QL⟩ := dH c19; clear c19; replace H := bnd H; obtain ⟨t105, I6, H⟩ := H; replace H := dU H; obtain ⟨c21, H⟩ := H; have vV := eT c21; have QN := dT c21; try have aDU := eq_false (Nat.not_lt.2 c21)
      try have aDV := aDU
      try simp only [ByteArray.size_append] at aDV
      replace H := dU H; obtain ⟨mU, H⟩ := H; have LY := eT mU; have QO := dT mU; try have aDW := eq_false (Nat.not_lt.2 mU)
      try have aDX := aDW
      try simp only [ByteArray.size_append] at aDX
      obtain rfl := Option.some.inj H; obtain ⟨NP, NQ, NS, NT⟩ := aN aD
      try go_wp2_with (first | ((with_reducible refine dJ (f := 72) rfl ?_); refine dV (some 30) rfl rfl Tryz.func72 (by kernel_rfl) rfl #[.int .u64 (Go.bits .or .u64 (IntKind.u64.wrap ((IntKind.u64.wrap (aY)) * 8)) (IntKind.u64.wrap (aT)))] rfl ?_; (with_reducible refine (mW.calls (Go.bits .or .u64 (IntKind.u64.wrap ((IntKind.u64.wrap (aY)) * 8)) (IntKind.u64.wrap (aT))) t103 _ yG.out).mono ?_); rintro e yS ⟨rfl, hb⟩; refine ⟨_, rfl, ?_⟩; replace aD := aI aD hb; replace HB := hbS HB hb; (try clear hb); obtain ⟨aBe, aBf, aBg, aBh⟩ := aN aD; have aBS := eZ aD.out 3)); replace aD := aA (kU aD.out); replace HB := aA (iO HB.out)
      refine vQ (n := 11) (S := fun w' => w'.cell? ⟨dG, 0, none⟩ = some (.int .i64 aY) ∧ w'.cell? ⟨dG, 1, none⟩ = some (.int .i64 aT) ∧ w'.cell? ⟨dG, 2, none⟩ = some (.int .u64 nL) ∧ w'.cell? ⟨dG, 3, none⟩ = some (.string bC)) (ds := []) (bA 11 0) (by kernel_rfl) rfl rfl ⟨gK aD 0, gK aD 1, gK aD 2, gK aD 3⟩ (fun hHeld => ?_); refine G6 pG.m_ pG.Y9 (fun gP pX => ?_)
      generalize yS.drew = WU at aD HB hHeld ⊢
      refine mH (i := 0) (N := some 42) (bA 11 1) gP ?_
      refine mH (i := 1) (N := some 43) (bA 11 3) gP ?_
      refine mH (i := 7) (N := some 49) (bA 11 131) gP ?_
      refine JD (i := 2) (N := some 44) (bA 11 135) gP pX hHeld ?_
      refine mH (i := 3) (N := some 45) (bA 11 143) gP ?_
      refine mH (i := 4) (N := some 46) (bA 11 159) gP ?_
      refine JD (i := 8) (N := some 50) (bA 11 415) gP pX hHeld ?_
      refine sN (i := 5) (N := some 47) (bA 11 447) rfl rfl (NY gP.out (by kernel_rfl)) (by decide) (fun K hK => ?_)
      refine xO Tryz.func72 (by kernel_rfl) rfl #[.int .u64 (IntKind.u64.wrap ((bC.size : Int)))] (by rfl) rfl rfl ?_
      with_reducible refine (mW.calls (IntKind.u64.wrap ((bC.size : Int))) t105 _ I6.out).mono ?_
      rintro e sQ ⟨rfl, hb⟩
      refine ⟨_, rfl, ?_⟩
      replace aD := aI aD hb; replace HB := hbS HB hb; try clear hb
      refine hK.out _ _ ⟨gK aD 0, gK aD 1, gK aD 2, gK aD 3⟩ (fun hHeld => ?_)
      clear hK K
      refine xP 47 ?_
      refine mH (i := 6) (N := some 48) (bA 11 511) gP ?_
      refine mH (i := 9) (N := some 51) (bA 11 1023) gP ?_
      refine mH (i := 10) (N := some 2) (bA 11 2047) gP ?_
      refine FL (X3 gP.out (by kernel_rfl)) ?_
      try go_wp2
      go_ret
      exact ⟨eH, aJ HB⟩
     ·
      rw [iN c19] at H; have LX := beq_eq_false_iff_ne.mpr c19; have QL := bne_iff_ne.mpr c19
      by_cases c28 : aT = 1
      ·
       rw [ip c28] at H; obtain ⟨J3, J4⟩ := dH c28; clear c28; replace H := bnd H; obtain ⟨t106, A29, H⟩ := H; replace H := dU H; obtain ⟨nP, H⟩ := H; have QS := eT nP; have QT := dT nP; try have aDY := eq_false (Nat.not_lt.2 nP)
       try have aDZ := aDY
       try simp only [ByteArray.size_append] at aDZ
       obtain rfl := Option.some.inj H; obtain ⟨TE, TF, TG, TH⟩ := aN aD
       go_wp2_with (first | ((with_reducible refine dJ (f := 72) rfl ?_); refine dV (some 30) rfl rfl Tryz.func72 (by kernel_rfl) rfl #[.int .u64 (Go.bits .or .u64 (IntKind.u64.wrap ((IntKind.u64.wrap (aY)) * 8)) (IntKind.u64.wrap (aT)))] rfl ?_; (with_reducible refine (mW.calls (Go.bits .or .u64 (IntKind.u64.wrap ((IntKind.u64.wrap (aY)) * 8)) (IntKind.u64.wrap (aT))) t103 _ yG.out).mono ?_); rintro e w32 ⟨rfl, hb⟩; refine ⟨_, rfl, ?_⟩; replace aD := aI aD hb; replace HB := hbS HB hb; (try clear hb); obtain ⟨YF, YG, fo, fq⟩ := aN aD) | ((with_reducible refine dJ (f := 94) rfl ?_); refine dV (some 57) rfl rfl Tryz.func94 (by kernel_rfl) rfl #[.int .u64 nL, .int .i64 8] rfl ?_; (with_reducible refine (zA.calls nL 8 t106 _ A29.out).mono ?_); rintro e Bl ⟨rfl, hb⟩; refine ⟨_, rfl, ?_⟩; replace aD := aI aD hb; replace HB := hbS HB hb; (try clear hb)))
       go_ret
       exact ⟨eH, aJ HB⟩
      ·
       rw [iN c28] at H; have J3 := beq_eq_false_iff_ne.mpr c28; have J4 := bne_iff_ne.mpr c28
       by_cases oU : nL > 4294967295
       ·
        rw [ip oU] at H; have FJ := dT oU; clear oU; obtain rfl := Option.some.inj H; obtain ⟨aFH, aFI, aFJ, aFK⟩ := aN aD
        go_wp2_with (first | ((with_reducible refine dJ (f := 72) rfl ?_); refine dV (some 30) rfl rfl Tryz.func72 (by kernel_rfl) rfl #[.int .u64 (Go.bits .or .u64 (IntKind.u64.wrap ((IntKind.u64.wrap (aY)) * 8)) (IntKind.u64.wrap (aT)))] rfl ?_; (with_reducible refine (mW.calls (Go.bits .or .u64 (IntKind.u64.wrap ((IntKind.u64.wrap (aY)) * 8)) (IntKind.u64.wrap (aT))) t103 _ yG.out).mono ?_); rintro e w37 ⟨rfl, hb⟩; refine ⟨_, rfl, ?_⟩; replace aD := aI aD hb; replace HB := hbS HB hb; (try clear hb); obtain ⟨fu, fw, Ip, Iq⟩ := aN aD; have aCc := eZ aD.out 3))
        go_ret
        exact ⟨eH, aJ HB⟩
       ·
        rw [iN oU] at H; have FJ := dF oU; clear oU; replace H := bnd H; obtain ⟨t107, A39, H⟩ := H; replace H := dU H; obtain ⟨c40, H⟩ := H; have ZH := eT c40; have Mv := dT c40; try have aD5 := eq_false (Nat.not_lt.2 c40)
        try have aD6 := aD5
        try simp only [ByteArray.size_append] at aD6
        obtain rfl := Option.some.inj H; obtain ⟨aBC, aBD, aBE, aBF⟩ := aN aD
        go_wp2_with (first | ((with_reducible refine dJ (f := 72) rfl ?_); refine dV (some 30) rfl rfl Tryz.func72 (by kernel_rfl) rfl #[.int .u64 (Go.bits .or .u64 (IntKind.u64.wrap ((IntKind.u64.wrap (aY)) * 8)) (IntKind.u64.wrap (aT)))] rfl ?_; (with_reducible refine (mW.calls (Go.bits .or .u64 (IntKind.u64.wrap ((IntKind.u64.wrap (aY)) * 8)) (IntKind.u64.wrap (aT))) t103 _ yG.out).mono ?_); rintro e Sa ⟨rfl, hb⟩; refine ⟨_, rfl, ?_⟩; replace aD := aI aD hb; replace HB := hbS HB hb; (try clear hb); obtain ⟨gq, gu, gy, gz⟩ := aN aD) | ((with_reducible refine dJ (f := 94) rfl ?_); refine dV (some 65) rfl rfl Tryz.func94 (by kernel_rfl) rfl #[.int .u64 nL, .int .i64 4] rfl ?_; (with_reducible refine (zA.calls nL 4 t107 _ A39.out).mono ?_); rintro e Sb ⟨rfl, hb⟩; refine ⟨_, rfl, ?_⟩; replace aD := aI aD hb; replace HB := hbS HB hb; (try clear hb)))
        go_ret
        exact ⟨eH, aJ HB⟩
def yX.f (a0 a1 a2 : Int) (a3 : ByteArray) : Option ByteArray :=
 if -9223372036854775808 ≤ a0 ∧ a0 < 9223372036854775808 ∧ -9223372036854775808 ≤ a1 ∧ a1 < 9223372036854775808 ∧ 0 ≤ a2 ∧ a2 < 18446744073709551616 ∧ a3.size ≤ 140737488351232 then some (LK a0 a1 a2 a3) else none
theorem aDm (num ty : Int) (h0 : 1 ≤ num) (h1 : num ≤ 536870911) (h2 : 0 ≤ ty) (h3 : ty < 8) :
 Go.bits .or .u64 (IntKind.u64.wrap (IntKind.u64.wrap num * 8)) (IntKind.u64.wrap ty) = 8 * num + ty := by
 obtain ⟨n, rfl⟩ := Int.eq_ofNat_of_zero_le (show 0 ≤ num by omega)
 obtain ⟨t, rfl⟩ := Int.eq_ofNat_of_zero_le h2
 rw [uM (x := (n : Int)) (by omega) (by omega), uM (x := (t : Int)) (by omega) (by omega), uM (by omega) (by omega)]
 have e : ((n : Int) * 8) = ((2 ^ 3 * n : Nat) : Int) := by omega
 rw [e, u64_or_nat _ _ (by omega) (by omega), ← Nat.two_pow_add_eq_or_of_lt (by omega)]
 omega
theorem _G (a b : Int) (h0 : 0 ≤ a) (h1 : 0 ≤ b) : DW.f a b = some (decide (1 ≤ a ∧ a ≤ 536870911 ∧ (b = 0 ∨ b = 1 ∨ b = 2 ∨ b = 5))) := by
 unfold DW.f
 by_cases g1 : a ≥ 1
 · by_cases g2 : a ≤ 536870911
   · rw [ip g1, ip g2]
     by_cases g3 : b = 0
     · simp [g1, g2, g3]
     · by_cases g4 : b = 1
       · simp [g1, g2, g4]
       · by_cases g5 : b = 2
         · simp [g1, g2, g5]
         · simp [g1, g2, g3, g4, g5]
           rw [Bool.eq_iff_iff]; simp
   · rw [ip g1, iN g2]; simp [g2]
 · rw [iN g1]; simp; omega
theorem yX.ev (a0 a1 a2 : Int) (a3 : ByteArray) (r) (h : yX.f a0 a1 a2 a3 = some r) : ∃ k, pG.f k a0 a1 a2 a3 = some r := by
 unfold yX.f at h
 split at h
 · rename_i hr
   obtain ⟨p0, p1, p2, p3, p4, p5, p6⟩ := hr
   rw [← h]
   refine ⟨1, ?_⟩
   unfold pG.f LK
   by_cases hm : 1 ≤ a0 ∧ a0 ≤ 536870911 ∧ (a1 = 0 ∨ a1 = 1 ∨ a1 = 2 ∨ a1 = 5)
   · have hm1 := hm
     obtain ⟨m0, m1, m2⟩ := hm1
     rw [iN (by omega), iN (by omega), uM (x := a0) (by omega) (by omega), uM (x := a1) (by omega) (by omega), _G _ _ (by omega) (by omega), dT hm, Option.bind_some, ip hm]
     simp only [pG.j0]
     have ep : ∀ x : Int, 0 ≤ x → x < 18446744073709551616 → mW.f x = some (uT x.toNat) := fun x g0 g1 => ip ⟨g0, g1⟩
     have hs : ∀ x : Int, 0 ≤ x → x < 18446744073709551616 → (uT x.toNat).size ≤ 10 := fun x g0 g1 => by rw [ag]; exact XV _ (by omega)
     have hs1 := hs (8 * a0 + a1) (by omega) (by omega)
     rw [iN (by decide), aDm a0 a1 m0 m1 (by omega) (by omega), ep _ (by omega) (by omega), Option.bind_some]
     rcases m2 with rfl | rfl | rfl | rfl
     · have hs2 := hs a2 p4 p5
       rw [ip rfl, ip rfl, ep _ p4 p5, Option.bind_some, ip (by omega)]
     · rw [iN (by decide), iN (by decide), ip rfl, iN (by decide), iN (by decide), ip rfl]
       have el : zA.f a2 8 = some (xB a2.toNat 8) := ip ⟨p4, p5, by decide, by decide⟩
       rw [el, Option.bind_some, ip (by rw [_I]; omega)]
     · have hs2 := hs (a3.size : Int) (by omega) (by omega)
       rw [Int.toNat_natCast] at hs2
       rw [iN (by decide), ip rfl, iN (by decide), ip rfl, uM (by omega) (by omega), ep _ (by omega) (by omega), Option.bind_some, Int.toNat_natCast, ip (by omega), ip (by rw [ByteArray.size_append]; omega)]
     · rw [iN (show ¬ (5 : Int) = 0 by decide), iN (show ¬ (5 : Int) = 2 by decide), iN (show ¬ (5 : Int) = 1 by decide), iN (show ¬ (5 : Int) = 0 by decide), iN (show ¬ (5 : Int) = 2 by decide), iN (show ¬ (5 : Int) = 1 by decide)]
       by_cases hg : a2 > 4294967295
       · rw [ip hg, ip hg]
       · rw [iN hg, iN hg]
         have el : zA.f a2 4 = some (xB a2.toNat 4) := ip ⟨p4, p5, by decide, by decide⟩
         rw [el, Option.bind_some, ip (by rw [_I]; omega)]
   · rw [iN hm]
     by_cases n0 : a0 < 0
     · rw [ip n0]; rfl
     · by_cases n1 : a1 < 0
       · rw [iN n0, ip n1]; rfl
       · rw [iN n0, iN n1, uM (x := a0) (by omega) (by omega), uM (x := a1) (by omega) (by omega), _G _ _ (by omega) (by omega), dF hm]; rfl
 · cases h
theorem yX.calls (aY : Int) (aT : Int) (nL : Int) (bC : ByteArray) (r : ByteArray) (w : World) (h : yX.f aY aT nL bC = some r) :
 Calls Tryz.prog 74 #[.agg #[.int .i64 aY, .int .i64 aT, .int .u64 nL, .string bC]] w fun e w' => e = .returned (.string r) ∧ Below w.heap.size w w' := by
 obtain ⟨k, hk⟩ := yX.ev aY aT nL bC _ h
 exact pG.calls k aY aT nL bC r w hk
def VA (r : Fl × Nat × Nat) : Int × Int × Int × ByteArray × Int × Int := (r.1.1, r.1.2.1, r.1.2.2.1, r.1.2.2.2, r.2.1, r.2.2)
def GY.f (a0 : ByteArray) : Option (Int × Int × Int × ByteArray × Int × Int) := if a0.size ≤ 140737488351232 then some (VA (l6 a0)) else none
theorem Yp (t : Nat) (h : t < 18446744073709551616) : Go.bits .and .u64 (t : Int) 7 = ((t % 8 : Nat) : Int) := by
 have := u64_and_nat t 7 h (by decide)
 rw [show ((7 : Nat) : Int) = 7 from rfl] at this
 rw [this, show (7 : Nat) = 2 ^ 3 - 1 from rfl, Nat.and_two_pow_sub_one_eq_mod]
theorem Uz (k : Nat) (a0 : ByteArray) (n num : Nat) (ty : Nat) (hs : a0.size ≤ 140737488351232) (hn : n ≤ a0.size) (aIV : n ≤ 10) (hty : ty = 0 ∨ ty = 2) :
 rP.j0 (k + 1) a0 n 8 ty true num ty 0 ⟨#[]⟩ = some (VA (
  if (eD (a0.extract n a0.size)).2.2 ≠ 0 then ((0, 0, 0, ⟨#[]⟩), 0, (eD (a0.extract n a0.size)).2.2)
  else if ty = 0 then ((num, 0, (eD (a0.extract n a0.size)).1, ⟨#[]⟩), n + (eD (a0.extract n a0.size)).2.1, 0)
  else if a0.size - (n + (eD (a0.extract n a0.size)).2.1) < (eD (a0.extract n a0.size)).1 then ((0, 0, 0, ⟨#[]⟩), 0, 1)
  else ((num, 2, 0, a0.extract (n + (eD (a0.extract n a0.size)).2.1) (n + (eD (a0.extract n a0.size)).2.1 + (eD (a0.extract n a0.size)).1)), n + (eD (a0.extract n a0.size)).2.1 + (eD (a0.extract n a0.size)).1, 0))) := by
 have hsz := EN a0 n hn
 obtain ⟨⟨y, m, e⟩, hr⟩ : ∃ x, eD (a0.extract n a0.size) = x := ⟨_, rfl⟩
 simp only [rP.j0, lT.f, Option.bind_some, Int.toNat_natCast]
 rw [ip trivial, ip (by omega), ip (by omega)]
 simp only [hr]
 by_cases he : e = 0
 · subst he
   have g := G5 (a0.extract n a0.size) (by rw [hr])
   rw [hr, hsz] at g
   simp only at g
   have ew : wrap64 ((n : Int) + m) = ((n + m : Nat) : Int) := by rw [fC (by omega) (by omega)]; omega
   rw [show ∀ x y : Fl × Nat × Nat, (if (0 : Nat) ≠ 0 then x else y) = y from fun _ _ => iN (by simp), ip (by rfl), ew]
   rcases hty with rfl | rfl
   · rw [ip (by rfl), ip (by rfl)]; rfl
   · rw [iN (by decide), fC (x := (a0.size : Int) - ((n + m : Nat) : Int)) (by omega) (by omega), uM (x := (a0.size : Int) - ((n + m : Nat) : Int)) (by omega) (by omega),
      show ∀ x y : Fl × Nat × Nat, (if (2 : Nat) = 0 then x else y) = y from fun _ _ => iN (by decide)]
     by_cases hy : a0.size - (n + m) < y
     · rw [ip (by omega), ip hy]; rfl
     · have OX : wrap64 (((n + m : Nat) : Int) + wrap64 (y : Int)) = ((n + m + y : Nat) : Int) := by
        rw [fC (x := (y : Int)) (by omega) (by omega), fC (by omega) (by omega)]; omega
       rw [iN (by omega), iN hy, ip (by omega), OX, ip (by omega), ip (by omega)]; rfl
 · rw [iN (by omega), ip he]; rfl
theorem Wd (k : Nat) (a0 : ByteArray) (n num : Nat) (ty : Nat) (hs : a0.size ≤ 140737488351232) (hn : n ≤ a0.size) (hty : ty = 1 ∨ ty = 5) :
 rP.j0 (k + 1) a0 n 8 ty false num ty 0 ⟨#[]⟩ = some (VA (
  if a0.size - n < (if ty = 5 then 4 else 8) then ((0, 0, 0, ⟨#[]⟩), 0, 1)
  else ((num, (ty : Nat), (o8 (ns (a0.extract n (n + (if ty = 5 then 4 else 8)))) : Nat), ⟨#[]⟩), n + (if ty = 5 then 4 else 8), 0))) := by
 have ew : wrap64 ((a0.size : Int) - n) = ((a0.size - n : Nat) : Int) := by rw [fC (by omega) (by omega)]; omega
 simp only [rP.j0]
 rw [iN (by decide), ew]
 rcases hty with rfl | rfl
 · have OX : wrap64 ((n : Int) + 8) = ((n + 8 : Nat) : Int) := by rw [fC (by omega) (by omega)]; omega
   rw [iN (by decide), iN (show ¬ (1 = 5) by decide), OX]
   by_cases h : a0.size - n < 8
   · rw [ip (by omega), ip h]; rfl
   · have ef : y7.f (a0.extract n (n + 8)) = some ((o8 (ns (a0.extract n (n + 8))) : Nat) : Int) := ip (by rw [ByteArray.size_extract]; omega)
     rw [iN (by omega), iN h, ip (by omega), ip (by omega), ip (by omega), Int.toNat_natCast, Int.toNat_natCast, ef]; rfl
 · have OX : wrap64 ((n : Int) + 4) = ((n + 4 : Nat) : Int) := by rw [fC (by omega) (by omega)]; omega
   rw [ip (by decide), ip (show (5 = 5) by decide), OX]
   by_cases h : a0.size - n < 4
   · rw [ip (by omega), ip h]; rfl
   · have ef : y7.f (a0.extract n (n + 4)) = some ((o8 (ns (a0.extract n (n + 4))) : Nat) : Int) := ip (by rw [ByteArray.size_extract]; omega)
     rw [iN (by omega), iN h, ip (by omega), ip (by omega), ip (by omega), Int.toNat_natCast, Int.toNat_natCast, ef]; rfl
theorem GY.ev (a0 : ByteArray) (r) (h : GY.f a0 = some r) : ∃ k, rP.f k a0 = some r := by
 unfold GY.f at h
 split at h
 · rename_i hs
   rw [← h]
   refine ⟨1, ?_⟩
   unfold rP.f l6
   obtain ⟨⟨t, n, e⟩, hr⟩ : ∃ x, eD a0 = x := ⟨_, rfl⟩
   simp only [lT.f, Option.bind_some, hr]
   by_cases he : e = 0
   · subst he
     have g := G5 a0 (by rw [hr])
     rw [hr] at g
     simp only at g
     rw [ip (by rfl), Yp t g.2.2.2, show ((t : Int) / 8) = ((t / 8 : Nat) : Int) by omega, _G _ _ (by omega) (by omega), Option.bind_some, iN (show ¬ ((0 : Nat) ≠ 0) by simp),
      fC (x := ((t % 8 : Nat) : Int)) (by omega) (by omega), fC (x := ((t / 8 : Nat) : Int)) (by omega) (by omega)]
     by_cases hm : 1 ≤ t / 8 ∧ t / 8 ≤ 536870911 ∧ (t % 8 = 0 ∨ t % 8 = 1 ∨ t % 8 = 2 ∨ t % 8 = 5)
     · rw [ip (dT (by omega))]
       have hnn : ¬ ¬ (1 ≤ t / 8 ∧ t / 8 ≤ 536870911 ∧ (t % 8 = 0 ∨ t % 8 = 1 ∨ t % 8 = 2 ∨ t % 8 = 5)) := fun h => h hm
       rw [show ∀ x y : Fl × Nat × Nat, (if ¬ (1 ≤ t / 8 ∧ t / 8 ≤ 536870911 ∧ (t % 8 = 0 ∨ t % 8 = 1 ∨ t % 8 = 2 ∨ t % 8 = 5)) then x else y) = y from fun _ _ => iN hnn]
       by_cases h2 : t % 8 = 0 ∨ t % 8 = 2
       · have key := Uz 0 a0 n (t / 8) (t % 8) hs (by omega) (by omega) h2
         rw [show ∀ x y : Fl × Nat × Nat, (if t % 8 = 0 ∨ t % 8 = 2 then x else y) = x from fun _ _ => ip h2]
         rcases h2 with h2 | h2
         · rw [ip (by omega), show (((t % 8 : Nat) : Int) == 0) = true from beq_iff_eq.2 (by omega)]
           exact key
         · rw [iN (by omega), show (((t % 8 : Nat) : Int) == 2) = true from beq_iff_eq.2 (by omega)]
           exact key
       · have key := Wd 0 a0 n (t / 8) (t % 8) hs (by omega) (by omega)
         rw [show ∀ x y : Fl × Nat × Nat, (if t % 8 = 0 ∨ t % 8 = 2 then x else y) = y from fun _ _ => iN h2]
         rw [iN (by omega), show (((t % 8 : Nat) : Int) == 2) = false from beq_eq_false_iff_ne.2 (by omega)]
         exact key
     · rw [iN (by rw [decide_eq_true_iff]; omega), ip hm]; rfl
   · rw [iN (by omega), ip he]; rfl
 · cases h
theorem GY.calls (a0 : ByteArray) (r1 : Int) (r2 : Int) (r3 : Int) (r4 : ByteArray) (r5 : Int) (r6 : Int) (w : World) (h : GY.f a0 = some (r1, r2, r3, r4, r5, r6)) :
 Calls Tryz.prog 88 #[.string a0] w fun e w' => e = .returned (.tuple #[.agg #[.int .i64 r1, .int .i64 r2, .int .u64 r3, .string r4], .int .i64 r5, .int .i64 r6]) ∧ Below w.heap.size w w' := by
 obtain ⟨k, hk⟩ := GY.ev a0 _ h
 exact rP.calls k a0 r1 r2 r3 r4 r5 r6 w hk
def vD.l0 : Nat → ByteArray → List (dK) → Option ((List (dK)) × Int)
 | 0, _, _ => none
 | k + 1, x0, x4 => if x0.toList = ([] : List UInt8) then (some (x4, 0)) else ((GY.f x0).bind fun gY => (if gY.2.2.2.2.2 = 0 then (if x4.length < 3518437208883 then (if 0 ≤ gY.2.2.2.2.1 then (if gY.2.2.2.2.1 ≤ (x0.size : Int) then (vD.l0 k (x0.extract (gY.2.2.2.2.1 : Int).toNat x0.size) (x4 ++ [(⟨gY.1, gY.2.1, gY.2.2.1, gY.2.2.2.1⟩ : dK)])) else (none)) else (none)) else (none)) else (some (([] : List (dK)), gY.2.2.2.2.2))))
def vD.f (k : Nat) (a0 : ByteArray) : Option ((List (dK)) × Int) := if (a0.size : Int) > 1048576 then (some (([] : List (dK)), 2)) else (vD.l0 k a0 ([] : List (dK)))
theorem vD.calls (k : Nat) (a0 : ByteArray) (r1 : List (dK)) (r2 : Int) (w : World) (h : vD.f k a0 = some (r1, r2)) :
 Calls Tryz.prog 51 #[.string a0] w fun e w' => ∃ gW : Value, e = .returned (.tuple #[gW, .int .i64 r2]) ∧ Kd.R lN 95 w' w.heap.size (fun _ => True) gW r1 ∧ Below w.heap.size w w' := by
 have EB := Tryz.underlying95; have HB := aA (Below.refl w.heap.size w); have H : (if (a0.size : Int) > 1048576 then (some (([] : List (dK)), 2)) else (vD.l0 k a0 ([] : List (dK)))) = some (r1, r2) := h; clear h
 by_cases c2 : (a0.size : Int) > 1048576
 ·
  rw [ip c2] at H; have iZ := dT c2; have nZ : decide (1048576 < a0.size) = true := dT (by omega); clear c2
  simp only [Option.some.injEq, Prod.mk.injEq] at H
  obtain ⟨rfl, rfl⟩ := H
  go_enter Tryz.func51, Tryz.ntmps51
  go_wp2
  go_ret2
  exact ⟨_, eH, nC, aJ HB⟩
 ·
  rw [iN c2] at H; have iZ := dF c2; have nZ : decide (1048576 < a0.size) = false := dF (by omega); clear c2; have H' := aA H; clear H
  go_enter Tryz.func51, Tryz.ntmps51
  go_wp2
  go_loopg [0, 4] k (fun kq v0 v4 w' => ∃ (nN : ByteArray) (dN : List (dK)), v0 = .string nN ∧ aC (vD.l0 kq nN dN = some (r1, r2)) ∧ aC (kq ≤ k) ∧ aC (Kd.R lN 95 w' w.heap.size (fun _ => True) v4 dN) ∧ aC (Below w.heap.size w w'))
  case atStart => exact ⟨(a0), (([] : List (dK))), aZ, H', ⟨Nat.le_refl _⟩, ⟨nC⟩, ⟨aJ HB⟩⟩
  case round =>
   clear H'; try clear c2; try clear iZ; try clear nZ
   obtain ⟨nN, dN, rfl, HA, bD, iW, HB⟩ := hrel
   cases gk with
   | zero => exact absurd HA.out (by simp [vD.l0])
   | succ k1 =>
    have H := HA.out; clear HA
    simp only [vD.l0] at H
    by_cases c3 : nN.toList = ([] : List UInt8)
    ·
     rw [ip c3] at H; obtain ⟨gL, rW⟩ := dH c3; clear c3
     simp only [Option.some.injEq, Prod.mk.injEq] at H
     obtain ⟨rfl, rfl⟩ := H
     go_wp2
     go_ret2
     exact ⟨_, eH, dZ iW, aJ HB⟩
    ·
     rw [iN c3] at H; have gL := beq_eq_false_iff_ne.mpr c3; have rW := bne_iff_ne.mpr c3; replace H := Option.bind_eq_some_iff.mp H; obtain ⟨⟨t101, t102, t103, t104, t105, t106⟩, MH, H⟩ := H; replace H : (if t106 = 0 then (if dN.length < 3518437208883 then (if 0 ≤ t105 then (if t105 ≤ (nN.size : Int) then (vD.l0 k1 (nN.extract (t105 : Int).toNat nN.size) (dN ++ [(⟨t101, t102, t103, t104⟩ : dK)])) else (none)) else (none)) else (none)) else (some (([] : List (dK)), t106))) = some (r1, r2) := H; have A4 := aA MH; clear MH
     by_cases c5 : t106 = 0
     ·
      rw [ip c5] at H; obtain ⟨iH, lF⟩ := dH c5; clear c5; replace H := dU H; obtain ⟨c6, H⟩ := H; have U0 := aA c6; clear c6; obtain ⟨VB, FQ⟩ : ∃ y_ : List (dK), y_ = (dN ++ [(⟨t101, t102, t103, t104⟩ : dK)]) := ⟨_, rfl⟩; replace H : (if 0 ≤ t105 then (if t105 ≤ (nN.size : Int) then (vD.l0 k1 (nN.extract (t105 : Int).toNat nN.size) VB) else (none)) else (none)) = some (r1, r2) := by first | (rw [FQ]; with_reducible exact H) | (have fI := (Option.bind_some _ _).symm.trans H; rw [FQ]; with_reducible exact fI) | (have fI := (Option.bind_some _ _).symm.trans H; with_reducible exact fI) | with_reducible exact H | (rw [FQ]; exact H) | exact H
      have mh := aA FQ; clear FQ; replace H := dU H; obtain ⟨c7, H⟩ := H; have nA := eT c7; have zP := dT c7; clear c7; replace H := dU H; obtain ⟨c8, H⟩ := H; have mG := eT c8; have EA := dT c8; clear c8; have H' := aA H; clear H
      go_wp2_with (first | ((with_reducible refine dJ (f := 88) rfl ?_); refine dV (some 15) rfl rfl Tryz.func88 (by kernel_rfl) rfl #[.string nN] rfl ?_; (with_reducible refine (GY.calls nN t101 t102 t103 t104 t105 t106 _ A4.out).mono ?_); rintro e w9 ⟨rfl, hb⟩; refine ⟨_, rfl, ?_⟩; replace iW := aA (Kd.gU (dZ iW) hb); replace HB := hbS HB hb; (try clear hb); (try clear hk)) | ((with_reducible refine cK (N := 5) rfl ?_); refine dB (N := 5) (cs := #[.int .i64 0, .int .i64 0, .int .u64 0, .string ⟨#[]⟩]) (t := 95) ?_; intro FO hg O3 aG hb; replace iW := aA (Kd.gU (Kd.zB (dZ iW) FO (Nat.le_of_eq hg.symm)) hb); have zL := aA aG; have aDr := bB HB hg; have aDp := bB HB hg; replace HB := hbS HB hb; clear hb aG hg; obtain ⟨Ho, Hq, Hr, Ht⟩ := aN zL; have Iz := fz zL 0; have Ja := fz zL 1; have Jb := fz zL 2; have Jc := fz zL 3) | ((with_reducible refine qD (b := .append) (xs := #[.tmp 22, .tmp 24]) rfl ?_); at_builtin; refine Kd.qZ lN (w0 := w) w.heap.size rfl (.tmp 22) (.tmp 24) 96 95 (.agg #[(.int .i64 0), (.int .i64 0), (.int .u64 0), (.string ⟨#[]⟩)]) 40 rfl Tryz.underlying96 Lm rfl (by decide) (by omega) u4 dN (⟨t101, t102, t103, t104⟩ : dK) [.int .i64 t101, .int .i64 t102, .int .u64 t103, .string t104] (fun k_ => k_ ≠ FO) (fun _ => False) rfl (by first | (go_simp; done) | (go_simp; rfl)) ?aP (fun _ hk => hk.elim) ?aF ?aO ?aB ?aS ?aL ?_; (case aP => exact LG _ _ _ (⟨t101, t102, t103, t104⟩ : dK)); (case aB => exact (aJ HB)); (case aF => exact (fun k_ hk => Kd.UC (g := FO) (o := .cells #[.int .i64 t101, .int .i64 t102, .int .u64 t103, .string t104] 95 (0, 0)) (aU zL) k_ hk)); (case aO => exact (by (with_reducible repeat (first | apply Kd.kI | apply Kd.kD | apply Kd.jX)); exact Kd.eO (Kd.dE (p := ⟨FO, 3, none⟩) (Kd.dE (p := ⟨FO, 2, none⟩) (Kd.dE (p := ⟨FO, 1, none⟩) (Kd.dE (p := ⟨FO, 0, none⟩) (Kd.eO iW.out (fun k_ hk => (⟨hk, hk.2⟩ : _ ∧ k_ ≠ FO))) (fun _ hk => hk.2) (.int .i64 t101)) (fun _ hk => hk.2) (.int .i64 t102)) (fun _ hk => hk.2) (.int .u64 t103)) (fun _ hk => hk.2) (.string t104)) (fun _ hk => hk.1.2))); (case aS => exact (iI (aJ HB))); (case aL => have := U0.out; omega); intro v109 O4 ho hb hg hat; rw [← mh.out] at ho; replace zL := aA (GZ (g := FO) (o := .cells #[.int .i64 t101, .int .i64 t102, .int .u64 t103, .string t104] 95 (0, 0)) (aU zL) hg (Kd.TZ iW.out (fun _ hk => hk.2))); replace HB := aA hb; have ma := aA ho; clear iW; clear ho hb hg hat))
      go_roundg k1
      case measure => have := bD.out; omega
      case rel => exact ⟨(nN.extract (t105 : Int).toNat nN.size), (VB), aZ, H', iK bD, ⟨by (with_reducible repeat (first | apply Kd.kI | apply Kd.kD | apply Kd.jX)); exact Kd.eO ma.out (fun _ hk => trivial)⟩, ⟨aJ HB⟩⟩
     ·
      rw [iN c5] at H; have iH := beq_eq_false_iff_ne.mpr c5; have lF := bne_iff_ne.mpr c5
      simp only [Option.some.injEq, Prod.mk.injEq] at H
      obtain ⟨rfl, rfl⟩ := H
      go_wp2_with (first | ((with_reducible refine dJ (f := 88) rfl ?_); refine dV (some 15) rfl rfl Tryz.func88 (by kernel_rfl) rfl #[.string nN] rfl ?_; (with_reducible refine (GY.calls nN t101 t102 t103 t104 t105 t106 _ A4.out).mono ?_); rintro e JF ⟨rfl, hb⟩; refine ⟨_, rfl, ?_⟩; replace iW := aA (Kd.gU (dZ iW) hb); replace HB := hbS HB hb; (try clear hb)) | ((with_reducible refine cK (N := 5) rfl ?_); refine dB (N := 5) (cs := #[.int .i64 0, .int .i64 0, .int .u64 0, .string ⟨#[]⟩]) (t := 95) ?_; intro FO hg R6 aG hb; replace iW := aA (Kd.gU (Kd.zB (dZ iW) FO (Nat.le_of_eq hg.symm)) hb); have zL := aA aG; have aDr := bB HB hg; have aDp := bB HB hg; replace HB := hbS HB hb; clear hb aG hg; obtain ⟨di, dm, dn, dw⟩ := aN zL; have Jh := fz zL 0; have Ji := fz zL 1; have Jj := fz zL 2; have Jk := eZ zL.out 3))
      go_ret2
      exact ⟨_, eH, nC, aJ HB⟩
def wS.f (a0 : ByteArray) : Option (List (dK) × Int) := if a0.size ≤ 140737488351232 then some ((eX a0).1.map toP, ((eX a0).2 : Int)) else none
theorem Tm (d : Nat) : ∀ (k : Nat) (b : ByteArray) (acc : List (dK)), b.size ≤ d → d ≤ 1048576 → acc.length + d ≤ 1048576 → d < k →
 vD.l0 k b acc = some (if (lX d b).2 ≠ 0 then ([], ((lX d b).2 : Int)) else (acc ++ (lX d b).1.map toP, 0)) := by
 induction d with
 | zero =>
  intro k b acc hb hd hl hk
  obtain ⟨k, rfl⟩ : ∃ m, k = m + 1 := ⟨k - 1, by omega⟩
  simp only [vD.l0]
  rw [ip (toList_nil.2 (by omega))]
  simp [lX]
 | succ d ih =>
  intro k b acc hb hd hl hk
  obtain ⟨k, rfl⟩ : ∃ m, k = m + 1 := ⟨k - 1, by omega⟩
  simp only [vD.l0]
  by_cases h0 : b.size = 0
  · rw [ip (toList_nil.2 h0)]
    simp [lX, h0]
  · rw [iN (fun h => h0 (toList_nil.1 h))]
    have e1 : GY.f b = some (VA (l6 b)) := ip (by omega)
    simp only [e1, Option.bind_some, VA]
    rw [lX, iN h0]
    by_cases hc : (l6 b).2.2 = 0
    · have g := Gl b hc
      rw [ip (by omega), ip (by omega), ip (by omega), ip (by omega), Int.toNat_natCast]
      rw [ih k _ _ (by rw [EN _ _ g.2]; omega) (by omega) (by simp; omega) (by omega)]
      rw [iN (show ¬ ((l6 b).2.2 ≠ 0) by simp [hc])]
      by_cases hq : (lX d (b.extract (l6 b).2.1 b.size)).2 = 0
      · simp [hq, toP]
      · simp [hq]
    · rw [iN (by omega), ip hc]
      simp [hc]
theorem wS.ev (a0 : ByteArray) (r) (h : wS.f a0 = some r) : ∃ k, vD.f k a0 = some r := by
 unfold wS.f at h
 split at h
 · rename_i hs
   rw [← h]
   unfold vD.f eX
   by_cases hg : a0.size > 1048576
   · exact ⟨0, by rw [ip (by omega), ip hg]; rfl⟩
   · refine ⟨a0.size + 1, ?_⟩
     rw [iN (by omega), iN hg, Tm a0.size _ a0 [] (by omega) (by omega) (by simp; omega) (by omega)]
     have hnil : (lX a0.size a0).2 ≠ 0 → (lX a0.size a0).1 = [] := Cy _ _
     by_cases hq : (lX a0.size a0).2 = 0
     · simp [hq]
     · simp [hq, hnil hq]
 · cases h
theorem wS.calls (a0 : ByteArray) (r1 : List (dK)) (r2 : Int) (w : World) (h : wS.f a0 = some (r1, r2)) :
 Calls Tryz.prog 51 #[.string a0] w fun e w' => ∃ gW : Value, e = .returned (.tuple #[gW, .int .i64 r2]) ∧ Kd.R lN 95 w' w.heap.size (fun _ => True) gW r1 ∧ Below w.heap.size w w' := by
 obtain ⟨k, hk⟩ := wS.ev a0 _ h
 exact vD.calls k a0 r1 r2 w hk
def SS.f (l0 : List (dK)) (a1 : Int) : Option (Int × Int × Int × ByteArray × Bool) := (sV.f l0 a1).bind fun t102 => (if (t102.length : Int) = 0 then (some (0, 0, 0, (⟨#[]⟩ : ByteArray), false)) else (if 0 ≤ (wrap64 ((t102.length : Int) - 1)) then (if (wrap64 ((t102.length : Int) - 1)) < (t102.length : Int) then (some ((bY t102 (wrap64 ((t102.length : Int) - 1))).f0, (bY t102 (wrap64 ((t102.length : Int) - 1))).f1, (bY t102 (wrap64 ((t102.length : Int) - 1))).f2, (bY t102 (wrap64 ((t102.length : Int) - 1))).f3, true)) else (none)) else (none)))
theorem SS.calls (A0 : Option Addr) (c0 : Nat) (l0 : List (dK)) (a1 : Int) (r1 : Int) (r2 : Int) (r3 : Int) (r4 : ByteArray) (r5 : Bool) (w : World) (hr0 : Kd.C lN w A0 l0.length l0) (hc0 : l0.length ≤ c0) (h : SS.f l0 a1 = some (r1, r2, r3, r4, r5)) :
 Calls Tryz.prog 89 #[.slice A0 l0.length c0, .int .i64 a1] w fun e w' => e = .returned (.tuple #[.agg #[.int .i64 r1, .int .i64 r2, .int .u64 r3, .string r4], .bool r5]) ∧ Below w.heap.size w w' := by
 have EB := Tryz.underlying95; have fF := aA hr0; have oO := aA hc0; clear hr0 hc0; have HB := aA (Below.refl w.heap.size w); have H : ((sV.f l0 a1).bind fun t102 => (if (t102.length : Int) = 0 then (some (0, 0, 0, (⟨#[]⟩ : ByteArray), false)) else (if 0 ≤ (wrap64 ((t102.length : Int) - 1)) then (if (wrap64 ((t102.length : Int) - 1)) < (t102.length : Int) then (some ((bY t102 (wrap64 ((t102.length : Int) - 1))).f0, (bY t102 (wrap64 ((t102.length : Int) - 1))).f1, (bY t102 (wrap64 ((t102.length : Int) - 1))).f2, (bY t102 (wrap64 ((t102.length : Int) - 1))).f3, true)) else (none)) else (none)))) = some (r1, r2, r3, r4, r5) := h; clear h; replace H := bnd H; obtain ⟨t102, A3, H⟩ := H
 by_cases c4 : (t102.length : Int) = 0
 ·
  rw [ip c4] at H; obtain ⟨fP, oN⟩ := dH c4; clear c4
  simp only [Option.some.injEq, Prod.mk.injEq] at H
  obtain ⟨rfl, rfl, rfl, rfl, rfl⟩ := H
  go_enter Tryz.func89, Tryz.ntmps89
  go_wp2_with (first | ((with_reducible refine cK (N := 4) rfl ?_); refine dB (N := 4) (cs := #[.int .i64 0, .int .i64 0, .int .u64 0, .string ⟨#[]⟩]) (t := 95) ?_; intro dG hg w5 aG hb; have aD := aA aG; have lV := bB HB hg; have lU := bB HB hg; replace HB := hbS HB hb; clear hb aG hg) | ((with_reducible refine dJ (f := 81) rfl ?_); refine dV (some 9) rfl rfl Tryz.func81 (by kernel_rfl) rfl #[.slice A0 l0.length c0, .int .i64 a1] rfl ?_; (with_reducible refine (sV.calls _ _ l0 a1 t102 _ ?iU ?iV A3.out).mono ?_); (case iU => exact uY fF HB); (case iV => exact oO.out); rintro e w6 ⟨KD, rfl, ho0, hb⟩; refine ⟨_, rfl, ?_⟩; have lY := aA (Kd.nV (Kd.T9 ho0 (g := dG) (o := .cells #[.int .i64 0, .int .i64 0, .int .u64 0, .string ⟨#[]⟩] 95 (0, 0)) (fZ aD)) (iI (aJ HB))); replace aD := aI aD hb; replace HB := hbS HB hb; (try clear hb); (try clear ho0); obtain ⟨Ao7, co7, Ab⟩ := Kd.jF lY.out; subst Ab; obtain ⟨jw, jy, kg, kr⟩ := aN aD; have ky := fz aD 0; have kz := fz aD 1; have lg := fz aD 2; have lh := eZ aD.out 3))
  refine bodyPost_ret (eP rfl _ _ dG 95 #[.int .i64 0, .int .i64 0, .int .u64 0, .string ⟨#[]⟩] (0, 0) _ rfl (aU aD) Tryz.underlying95 rfl (by kernel_rfl)) rfl ?_
  exact ⟨eH, aJ HB⟩
 ·
  rw [iN c4] at H; have fP := beq_eq_false_iff_ne.mpr c4; have oN := bne_iff_ne.mpr c4; have Z8 : ¬ (t102 = []) := fun h_ => c4 (by rw [h_]; rfl); obtain ⟨zW, U5⟩ : ∃ j_ : Int, (wrap64 ((t102.length : Int) - 1)) = j_ := ⟨_, rfl⟩; replace H : (if 0 ≤ (zW) then (if (zW) < (t102.length : Int) then (some ((bY t102 (zW)).f0, (bY t102 (zW)).f1, (bY t102 (zW)).f2, (bY t102 (zW)).f3, true)) else (none)) else (none)) = some (r1, r2, r3, r4, r5) := by first | (rw [U5] at H; exact H) | (simp only [U5] at H ⊢; exact H)
  (try rw [U5] at A3)
  have aHN : (IntKind.i64.wrap ((t102.length : Int) - 1)) = zW := (dC _).trans U5; replace H := dU H; obtain ⟨c10, H⟩ := H; have qO := dT c10; clear c10; replace H := dU H; obtain ⟨c11, H⟩ := H; have nJ := dT c11; clear c11
  simp only [Option.some.injEq, Prod.mk.injEq] at H
  obtain ⟨rfl, rfl, rfl, rfl, rfl⟩ := H
  go_enter Tryz.func89, Tryz.ntmps89
  go_wp2_with (first | ((with_reducible refine cK (N := 4) rfl ?_); refine dB (N := 4) (cs := #[.int .i64 0, .int .i64 0, .int .u64 0, .string ⟨#[]⟩]) (t := 95) ?_; intro dG hg O4 aG hb; have aD := aA aG; have lV := bB HB hg; have lU := bB HB hg; replace HB := hbS HB hb; clear hb aG hg) | ((with_reducible refine dJ (f := 81) rfl ?_); refine dV (some 9) rfl rfl Tryz.func81 (by kernel_rfl) rfl #[.slice A0 l0.length c0, .int .i64 a1] rfl ?_; (with_reducible refine (sV.calls _ _ l0 a1 t102 _ ?iU ?iV A3.out).mono ?_); (case iU => exact uY fF HB); (case iV => exact oO.out); rintro e JF ⟨KD, rfl, ho0, hb⟩; refine ⟨_, rfl, ?_⟩; have lY := aA (Kd.nV (Kd.T9 ho0 (g := dG) (o := .cells #[.int .i64 0, .int .i64 0, .int .u64 0, .string ⟨#[]⟩] 95 (0, 0)) (fZ aD)) (iI (aJ HB))); replace aD := aI aD hb; replace HB := hbS HB hb; (try clear hb); (try clear ho0); obtain ⟨aEt, aEV, tu⟩ := Kd.jF lY.out; subst tu; have tT : 0 ≤ ((zW) : Int) := aK; have tV : (zW) < (t102.length : Int) := aK; obtain ⟨Y8, J9, YL, Kk, Kl, Km⟩ := E8 (Kd.jA lY.out).2.2 (zW) tT tV; cases J9; replace tT := eT tT; replace tV := eT tV; obtain ⟨di, dm, dn, dw⟩ := aN aD; have Jh := fz aD 0; have Ji := fz aD 1; have Jj := fz aD 2; have Jk := eZ aD.out 3))
  refine bodyPost_ret (eP rfl _ _ dG 95 #[.int .i64 ((bY t102 (zW)).f0), .int .i64 ((bY t102 (zW)).f1), .int .u64 ((bY t102 (zW)).f2), .string ((bY t102 (zW)).f3)] (0, 0) _ rfl (aU aD) Tryz.underlying95 rfl (by kernel_rfl)) rfl ?_
  exact ⟨by first | rfl | (simp [nG, nH] <;> rfl) | (simp only [← U5]; first | rfl | (simp [nG, nH] <;> rfl)) | (simp [*, nG, nH] <;> rfl), aJ HB⟩
end Go.Proofs.YtgmggompdidcoaaGreatDoor.X
