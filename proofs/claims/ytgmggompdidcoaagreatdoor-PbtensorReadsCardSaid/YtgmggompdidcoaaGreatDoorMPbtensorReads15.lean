import Derived.Test.YtgmggompdidcoaaGreatDoorMPbtensorReads14
namespace Go.Proofs.YtgmggompdidcoaaGreatDoor.X
open Go.RowKit Go.Proofs.YtgmggompdidcoaaGreatDoorW.aX Go.Proofs.YtgmggompdidcoaaGreatDoorW.bJ Go.Proofs.YtgmggompdidcoaaGreatDoorW.bK
attribute [local go_sem] bO bQ bS bU bM bN bP bR
set_option linter.unusedVariables false
set_option linter.unusedSimpArgs false
set_option maxHeartbeats 8000000
set_option maxRecDepth 100000
def yY.f (l0 : List Int) : Option (Int × Int) := some (kE l0)
theorem Yh (l : List Int) (hb : l.length ≤ 8) (hn : ∀ x ∈ l, 0 < x ∧ x ≤ 65536) (d : Nat) : ∀ (k i : Nat) (n : Int), l.length - i = d → i ≤ l.length → 2 * d + 2 ≤ k → 0 ≤ n → n ≤ 65536 →
 iT.l1 k l false n i = some (nX (l.drop i) n false) := by
 induction d with
 | zero =>
  intro k i n hd hi hk h0 h1
  obtain ⟨k, rfl⟩ : ∃ m, k = m + 2 := ⟨k - 2, by omega⟩
  rw [iT.l1, iN (by omega), iT.j2, iN (by simp), iN (by simp), List.drop_of_length_le (by omega), nX, iN (by simp), iN (by omega)]
 | succ d ih =>
  intro k i n hd hi hk h0 h1
  obtain ⟨k, rfl⟩ : ∃ m, k = m + 2 := ⟨k - 2, by omega⟩
  have hl : i < l.length := by omega
  have e0 : rd l (i : Int) = l[i] := by simp [rd, List.getD_eq_getElem?_getD, hl]
  have hp := hn l[i] (List.getElem_mem hl)
  have ew : wrap64 ((i : Int) + 1) = ((i + 1 : Nat) : Int) := by rw [fC (by omega) (by omega)]; omega
  have hm := Kq h0 (by omega : n ≤ 65537) (by omega : 0 ≤ l[i]) hp.2
  have hd' : ∀ x ∈ l.drop (i + 1), 0 < x ∧ x ≤ 65536 := fun x hx => hn x (List.mem_of_mem_drop hx)
  have wm : wrap64 (n * l[i]) = n * l[i] := fC (by omega) (by omega)
  rw [iT.l1, ip (by omega), iT.j2, ip (by rfl), ip (by omega), ip (by omega), e0, wm, ew, List.drop_eq_getElem_cons hl, nX]
  clear ew wm
  generalize n * l[i] = p at *
  have q1 : ¬ l[i] > 65536 := by omega
  have q2 : ¬ l[i] = 0 := by omega
  by_cases hg : p > 65536
  · have e : (if 65537 < p then 65537 else p) = 65537 := by split <;> omega
    rw [ip hg, iN q1, iN q2, e, Yi _ hd']
  · rw [iN hg, iN q1, iN q2, iN (by omega)]
    exact ih k (i + 1) p (by omega) (by omega) (by omega) (by omega) (by omega)
theorem Yg (l : List Int) (hb : l.length ≤ 8) (d : Nat) : ∀ (k i : Nat), l.length - i = d → i ≤ l.length → d + 2 * l.length + 4 ≤ k → (∀ x ∈ l.take i, 0 ≤ x) →
 iT.l0 k l ((l.take i).any fun x => decide (x > 65536)) ((l.take i).any fun x => x == 0) i = some (if (l.drop i).any (fun x => decide (x < 0)) then (0, 6) else nX l 1 false) := by
 induction d with
 | zero =>
  intro k i hd hi hk hn
  obtain ⟨k, rfl⟩ : ∃ m, k = m + 3 := ⟨k - 3, by omega⟩
  rw [iT.l0, iN (by omega), List.drop_of_length_le (by omega)]
  rw [List.take_of_length_le (by omega)] at hn ⊢
  show _ = some (nX l 1 false)
  by_cases hg : l.any (fun x => decide (x > 65536)) = true
  · rw [ip hg, Xf l 1 false (by obtain ⟨x, hx, e⟩ := List.any_eq_true.1 hg; exact ⟨x, hx, of_decide_eq_true e⟩)]
  · have hs : ∀ x ∈ l, x ≤ 65536 := fun x hx => Int.not_lt.1 (fun h => hg (List.any_eq_true.2 ⟨x, hx, dT h⟩))
    rw [iN hg]
    by_cases hz : l.any (fun x => x == 0) = true
    · rw [hz, Yj l 1 false hs (Or.inr (by obtain ⟨x, hx, e⟩ := List.any_eq_true.1 hz; exact ⟨x, hx, eq_of_beq e⟩))]
      rw [iT.l1]
      split
      · rw [iT.j2]; rfl
      · rw [iT.j2]; rfl
    · rw [Bool.not_eq_true] at hz
      rw [hz]
      refine Yh l hb (fun x hx => ?_) l.length (k + 2) 0 1 (by omega) (by omega) (by omega) (by omega) (by omega)
      have h1 := hs x hx
      have h2 := hn x hx
      have h3 : x ≠ 0 := by
       intro e
       rw [List.any_eq_false] at hz
       exact hz x hx (by rw [e]; rfl)
      omega
 | succ d ih =>
  intro k i hd hi hk hn
  obtain ⟨k, rfl⟩ : ∃ m, k = m + 1 := ⟨k - 1, by omega⟩
  have hl : i < l.length := by omega
  have e0 : rd l (i : Int) = l[i] := by simp [rd, List.getD_eq_getElem?_getD, hl]
  have ew : wrap64 ((i : Int) + 1) = ((i + 1 : Nat) : Int) := by rw [fC (by omega) (by omega)]; omega
  rw [iT.l0, ip (by omega), ip (by omega), e0, List.drop_eq_getElem_cons hl, ew]
  clear ew
  by_cases hg : l[i] < 0
  · rw [ip hg, List.any_cons, dT hg]
    rfl
  · rw [iN hg, List.any_cons, dF hg, Bool.false_or]
    have hstep : ∀ g z : Bool, (if g = true then (if z = true then (iT.l0 k l true true ((i + 1 : Nat) : Int)) else (iT.l0 k l true (l[i] == 0) ((i + 1 : Nat) : Int))) else (if z = true then (iT.l0 k l (decide (l[i] > 65536)) true ((i + 1 : Nat) : Int)) else (iT.l0 k l (decide (l[i] > 65536)) (l[i] == 0) ((i + 1 : Nat) : Int)))) = iT.l0 k l (g || decide (l[i] > 65536)) (z || l[i] == 0) ((i + 1 : Nat) : Int) := by
     intro g z
     cases g <;> cases z <;> rfl
    rw [hstep, ← Fv (fun x => decide (x > 65536)) l i hl, ← Fv (fun x => x == 0) l i hl]
    refine ih k (i + 1) (by omega) (by omega) (by omega) ?_
    intro x hx
    rw [List.take_succ_eq_append_getElem hl] at hx
    rcases List.mem_append.1 hx with hx | hx
    · exact hn x hx
    · rw [List.mem_singleton.1 hx]; omega
theorem yY.ev (l0 : List Int) (r) (h : yY.f l0 = some r) : ∃ k, iT.f k l0 = some r := by
 refine ⟨3 * l0.length + 4, ?_⟩
 rw [← h]
 unfold iT.f yY.f kE
 by_cases hl : l0.length > 8
 · rw [ip (by omega), ip hl]
 · rw [iN (by omega), iN hl]
   exact Yg l0 (by omega) l0.length _ 0 (by omega) (by omega) (by omega) (by simp)
theorem yY.calls (A0 : Option Addr) (c0 : Nat) (l0 : List Int) (r1 : Int) (r2 : Int) (w : World) (hr0 : Kd.C (Kd.int .i64) w A0 l0.length l0) (hc0 : l0.length ≤ c0) (h : yY.f l0 = some (r1, r2)) :
 Calls Tryz.prog 30 #[.slice A0 l0.length c0] w fun e w' => e = .returned (.tuple #[.int .i64 r1, .int .i64 r2]) ∧ fG w w' := by
 obtain ⟨k, hk⟩ := yY.ev l0 _ h
 exact iT.calls k A0 c0 l0 r1 r2 w hr0 hc0 hk
def uE.f (a0 : Int) : Option (Int × Bool) := if 0 ≤ a0 ∧ a0 < 4294967296 then some (iP a0.toNat) else none
theorem Nq (y : Nat) (h : y ≤ 16777216) : wrap64 (-(y : Int)) = -(y : Int) := fC (by omega) (by omega)
theorem Fg (y : Nat) (b : Bool) (h : y ≤ 16777216) : Ending.returned (.tuple #[.int .i64 (wrap64 (-(y : Int))), .bool b]) = Ending.returned (.tuple #[.int .i64 (kQ true y, b).1, .bool (kQ true y, b).2]) := by
 rw [Nq y h]; rfl
theorem aCX (y : Nat) (h : y ≤ 16777216) : wrap64 ((y : Int) / 2) = ((y / 2 : Nat) : Int) := by rw [fC (by omega) (by omega)]; omega
theorem Gi (M i : Nat) (h : M % 2 ^ i = 0) : M % 2 ^ (i + 1) = 2 ^ i * (M / 2 ^ i % 2) := by
 rw [Nat.pow_succ, Nat.mod_mul, h, Nat.zero_add]
theorem aDg (M i j : Nat) (hij : i ≤ j) (h : M % 2 ^ j = 0) : M % 2 ^ i = 0 := by
 obtain ⟨d, rfl⟩ : ∃ d, j = i + d := ⟨j - i, by omega⟩
 have h1 := Nat.dvd_of_mod_eq_zero h
 exact Nat.mod_eq_zero_of_dvd (Nat.dvd_trans (Nat.pow_dvd_pow 2 (by omega)) h1)
theorem Zy (v i : Nat) (h0 : v ≠ 0) (hi : v / 8388608 % 256 + i < 150) (hE : 127 ≤ v / 8388608 % 256 ∧ v / 8388608 % 256 ≤ 147) (hM : (v % 8388608 + 8388608) % 2 ^ i = 0) (ho : ¬ (v % 8388608 + 8388608) / 2 ^ i % 2 = 0) : iP v = (0, false) := by
 unfold iP
 rw [iN h0, iN (by omega), iN]
 intro h
 have h2 := aDg _ (i + 1) _ (by omega) h
 rw [Gi _ _ hM] at h2
 rcases Nat.mul_eq_zero.1 h2 with h3 | h3
 · have := Nat.two_pow_pos i; omega
 · exact ho h3
theorem Zx (v i : Nat) (h0 : v ≠ 0) (hi : v / 8388608 % 256 + i = 150) (hE : 127 ≤ v / 8388608 % 256 ∧ v / 8388608 % 256 ≤ 147) (hM : (v % 8388608 + 8388608) % 2 ^ i = 0) : iP v = (kQ (decide (v ≥ 2147483648)) ((v % 8388608 + 8388608) / 2 ^ i), decide ((v % 8388608 + 8388608) / 2 ^ i ≤ 1048576)) := by
 unfold iP
 rw [iN h0, iN (by omega), show 150 - v / 8388608 % 256 = i by omega, ip hM]
theorem Xc.calls (v : Nat) (hv : v < 4294967296) (w : World) :
 Calls Tryz.prog 67 #[.int .u32 (v : Int)] w fun e w' => e = .returned (.tuple #[.int .i64 (iP v).1, .bool (iP v).2]) ∧ fG w w' := by
 by_cases h0 : v = 0
 · subst h0
   have es : iP 0 = (0, true) := by unfold iP; rw [ip rfl]
   rw [es]
   go_enter Tryz.func67, Tryz.ntmps67
   go_wp2
   go_ret2
   exact ⟨rfl, fG.refl _⟩
 · have h0b : ((v : Int) == 0) = false := beq_eq_false_iff_ne.2 (by omega)
   by_cases h1 : v / 8388608 % 256 < 127
   · have es : iP v = (0, false) := by unfold iP; rw [iN h0, ip (Or.inl h1)]
     rw [es]
     have h1b : decide ((v : Int) / 8388608 % 256 < 127) = true := dT (by omega)
     clear es h0 h1
     go_enter Tryz.func67, Tryz.ntmps67
     go_wp2
     go_ret2
     exact ⟨rfl, fG.refl _⟩
   · have h1b : decide ((v : Int) / 8388608 % 256 < 127) = false := dF (by omega)
     by_cases h2 : v / 8388608 % 256 > 147
     · have es : iP v = (0, false) := by unfold iP; rw [iN h0, ip (Or.inr h2)]
       rw [es]
       have V_ : decide (147 < (v : Int) / 8388608 % 256) = true := dT (by omega)
       clear es h0 h1 h2
       go_enter Tryz.func67, Tryz.ntmps67
       go_wp2
       go_ret2
       exact ⟨rfl, fG.refl _⟩
     · have V_ : decide (147 < (v : Int) / 8388608 % 256) = false := dF (by omega)
       have hE : aC (127 ≤ v / 8388608 % 256 ∧ v / 8388608 % 256 ≤ 147) := ⟨⟨by omega, by omega⟩⟩
       have H0 := aC.mk h0
       have HV := aC.mk hv
       clear h0 h1 h2
       go_enter Tryz.func67, Tryz.ntmps67
       go_wp2
       clear h0b h1b V_
       go_loopg [4, 5] (150 - v / 8388608 % 256) (fun kq v4 v5 w' => ∃ i : Nat, v4 = .int .i64 ((v / 8388608 % 256 + i : Nat) : Int) ∧ v5 = .int .i64 (((v % 8388608 + 8388608) / 2 ^ i : Nat) : Int) ∧ aC (v / 8388608 % 256 + i + kq = 150) ∧ aC ((v % 8388608 + 8388608) % 2 ^ i = 0) ∧ aC (fG w w'))
       case atStart => exact ⟨0, by congr 1, by rw [Nat.pow_zero, Nat.div_one]; congr 1, ⟨by have := hE.out; omega⟩, ⟨by rw [Nat.pow_zero, Nat.mod_one]⟩, ⟨fG.refl _⟩⟩
       case round =>
        obtain ⟨i, rfl, rfl, HK, HM, HD⟩ := hrel
        have hy0 : (v % 8388608 + 8388608) / 2 ^ i ≤ 16777216 := Nat.le_trans (Nat.div_le_self _ _) (by omega)
        have Z4 := aC.mk (fun (hi : v / 8388608 % 256 + i < 150) => Zy v i H0.out hi hE.out HM.out)
        have Z0 := aC.mk (fun (hi : v / 8388608 % 256 + i = 150) => Zx v i H0.out hi hE.out HM.out)
        have Ql : aC ((v % 8388608 + 8388608) / 2 ^ i % 2 = 0 → (v % 8388608 + 8388608) % 2 ^ (i + 1) = 0) := ⟨fun h => by rw [Gi _ _ HM.out, h, Nat.mul_zero]⟩
        have Og : aC ((v % 8388608 + 8388608) / 2 ^ (i + 1) = (v % 8388608 + 8388608) / 2 ^ i / 2) := ⟨by rw [Nat.pow_succ, Nat.div_div_eq_div_mul]⟩
        generalize Rn : v / 8388608 % 256 + i = x at HK Z4 Z0 ⊢
        generalize hyy : (v % 8388608 + 8388608) / 2 ^ i = y at hy0 Z4 Z0 Ql Og ⊢
        have HX := aC.mk Rn
        have J_ := aC.mk hy0
        clear Rn hyy hy0
        by_cases hlt : x < 150
        · obtain ⟨kk, rfl⟩ : ∃ m, gk = m + 1 := ⟨gk - 1, by have := HK.out; omega⟩
          have hb : decide ((x : Int) < 150) = true := dT (by omega)
          by_cases ho : y % 2 = 0
          · have ho1 : ((y : Int) % 2 == 0) = true := beq_iff_eq.2 (by omega)
            have ho2 : ((y : Int) % 2 != 0) = false := bne_eq_false_iff_eq.2 (by omega)
            go_wp2_with (first | (fail))
            go_roundg kk
            case measure => have := HK.out; omega
            case rel => exact ⟨i + 1, by rw [← Nat.add_assoc, HX.out]; rfl, by rw [Og.out, aCX y J_.out], ⟨by have := HK.out; have := HX.out; omega⟩, ⟨Ql.out ho⟩, HD⟩
          · have ho1 : ((y : Int) % 2 == 0) = false := beq_eq_false_iff_ne.2 (by omega)
            have ho2 : ((y : Int) % 2 != 0) = true := bne_iff_ne.2 (by omega)
            go_wp2_with (first | (fail))
            go_ret2
            exact ⟨by rw [Z4.out hlt ho]; rfl, HD.out⟩
        · have hb : decide ((x : Int) < 150) = false := dF (by omega)
          have hx150 : x = 150 := by have := HK.out; omega
          have HW := aC.mk (Nq y J_.out)
          have He := aC.mk (Z0.out hx150)
          clear Z4 Z0 hx150
          by_cases hs : v ≥ 2147483648
          · have hs1 : decide (2147483648 ≤ (v : Int)) = true := dT (by omega)
            rw [dT hs] at He
            by_cases hk : y ≤ 1048576
            · have g1 := aC.mk (show decide (-1048576 ≤ wrap64 (-(y : Int))) = true by rw [HW.out]; exact dT (by omega))
              have g2 := aC.mk (show decide (wrap64 (-(y : Int)) ≤ 1048576) = true by rw [HW.out]; exact dT (by omega))
              rw [dT hk] at He
              clear hk hs hlt
              have g1 := g1.out
              have g2 := g2.out
              go_wp2_with (first | (fail))
              clear g1 g2
              go_ret2
              exact ⟨by rw [He.out]; exact Fg y true J_.out, HD.out⟩
            · have g1 := aC.mk (show decide (-1048576 ≤ wrap64 (-(y : Int))) = false by rw [HW.out]; exact dF (by omega))
              rw [dF hk] at He
              clear hk hs hlt
              have g1 := g1.out
              go_wp2_with (first | (fail))
              clear g1
              go_ret2
              exact ⟨by rw [He.out]; exact Fg y false J_.out, HD.out⟩
          · have hs1 : decide (2147483648 ≤ (v : Int)) = false := dF (by omega)
            rw [dF hs] at He
            have g1 : decide (-1048576 ≤ (y : Int)) = true := dT (by omega)
            have g2 : decide ((y : Int) ≤ 1048576) = decide (y ≤ 1048576) := by rw [decide_eq_decide]; omega
            clear hs hlt
            go_wp2_with (first | (fail))
            go_ret2
            exact ⟨by rw [He.out]; first | rfl | (rw [← g2]; rfl), HD.out⟩
theorem uE.calls (a0 : Int) (r1 : Int) (r2 : Bool) (w : World) (h : uE.f a0 = some (r1, r2)) :
 Calls Tryz.prog 67 #[.int .u32 a0] w fun e w' => e = .returned (.tuple #[.int .i64 r1, .bool r2]) ∧ fG w w' := by
 unfold uE.f at h
 split at h
 · rename_i hs
   have h := Option.some.inj h
   have := Xc.calls a0.toNat (by omega) w
   rw [h, show ((a0.toNat : Nat) : Int) = a0 by omega] at this
   exact this
 · cases h
def SE.f (a0 : ByteArray) : Option (Int) := if 0 < (a0.size : Int) then (if 1 < (a0.size : Int) then (if 2 < (a0.size : Int) then (if 3 < (a0.size : Int) then (some ((((((((bt a0 0) % 4294967296) + ((((bt a0 1) % 4294967296) * 256) % 4294967296)) % 4294967296) + ((((bt a0 2) % 4294967296) * 65536) % 4294967296)) % 4294967296) + ((((bt a0 3) % 4294967296) * 16777216) % 4294967296)) % 4294967296)) else (none)) else (none)) else (none)) else (none)
theorem SE.calls (a0 : ByteArray) (r : Int) (w : World) (h : SE.f a0 = some r) :
 Calls Tryz.prog 68 #[.string a0] w fun e w' => e = .returned (.int .u32 r) ∧ fG w w' := by
 have H : (if 0 < (a0.size : Int) then (if 1 < (a0.size : Int) then (if 2 < (a0.size : Int) then (if 3 < (a0.size : Int) then (some ((((((((bt a0 0) % 4294967296) + ((((bt a0 1) % 4294967296) * 256) % 4294967296)) % 4294967296) + ((((bt a0 2) % 4294967296) * 65536) % 4294967296)) % 4294967296) + ((((bt a0 3) % 4294967296) * 16777216) % 4294967296)) % 4294967296)) else (none)) else (none)) else (none)) else (none)) = some r := h; clear h
 by_cases c2 : 0 < (a0.size : Int)
 · rw [ip c2] at H
   have iZ := dT c2; have nZ : decide (0 < a0.size) = true := dT (by omega); clear c2
   by_cases c4 : 1 < (a0.size : Int)
   · rw [ip c4] at H
     have fP := dT c4; have oN : decide (1 < a0.size) = true := dT (by omega); clear c4
     by_cases c6 : 2 < (a0.size : Int)
     · rw [ip c6] at H
       have kP := dT c6; have wD : decide (2 < a0.size) = true := dT (by omega); clear c6
       by_cases c8 : 3 < (a0.size : Int)
       · rw [ip c8] at H
         have mG := dT c8; have EA : decide (3 < a0.size) = true := dT (by omega); clear c8; obtain rfl := Option.some.inj H; have p3 : 0 ≤ (0 : Int) := (by omega); have q3 : 0 < a0.size := (by have : (0 : Int) < (a0.size : Int) := aK; omega); have hx3 : ∀ h : 0 < a0.size, ((a0[0]'h).toNat : Int) = bt a0 0 := fE a0 0; clear p3; have qi3 : (0 < (a0.size : Int)) = True := eT (aK); replace q3 := eT q3; have p5 : 0 ≤ (1 : Int) := (by omega); have q5 : 1 < a0.size := (by have : (1 : Int) < (a0.size : Int) := aK; omega); have hx5 : ∀ h : 1 < a0.size, ((a0[1]'h).toNat : Int) = bt a0 1 := fE a0 1; clear p5; have qi5 : (1 < (a0.size : Int)) = True := eT (aK); replace q5 := eT q5; have p7 : 0 ≤ (2 : Int) := (by omega); have q7 : 2 < a0.size := (by have : (2 : Int) < (a0.size : Int) := aK; omega); have hx7 : ∀ h : 2 < a0.size, ((a0[2]'h).toNat : Int) = bt a0 2 := fE a0 2; clear p7; have Be : (2 < (a0.size : Int)) = True := eT (aK); replace q7 := eT q7; have p9 : 0 ≤ (3 : Int) := (by omega); have q9 : 3 < a0.size := (by have : (3 : Int) < (a0.size : Int) := aK; omega); have hx9 : ∀ h : 3 < a0.size, ((a0[3]'h).toNat : Int) = bt a0 3 := fE a0 3; clear p9; have qi9 : (3 < (a0.size : Int)) = True := eT (aK); replace q9 := eT q9
         go_enter Tryz.func68, Tryz.ntmps68
         go_wp2
         repeat (go_quiet (fail); try go_wp2)
         go_ret
         exact dW
       · rw [iN c8] at H; exact uD H
     · rw [iN c6] at H; exact uD H
   · rw [iN c4] at H; exact uD H
 · rw [iN c2] at H; exact uD H
def sU.f (a0 : ByteArray) : Option Int := if 4 ≤ a0.size then some (wd a0 : Int) else none
theorem sU.ev (a0 : ByteArray) (r) (h : sU.f a0 = some r) : ∃ k : Nat, SE.f a0 = some r := by
 refine ⟨0, ?_⟩
 unfold sU.f at h
 split at h
 · rename_i hs
   rw [← h]
   unfold SE.f
   have h0 := xA a0 0
   have h1 := xA a0 1
   have h2 := xA a0 2
   have h3 := xA a0 3
   rw [ip (by omega), ip (by omega), ip (by omega), ip (by omega), qg]
   exact congrArg some (by omega)
 · cases h
theorem sU.calls (a0 : ByteArray) (r : Int) (w : World) (h : sU.f a0 = some r) :
 Calls Tryz.prog 68 #[.string a0] w fun e w' => e = .returned (.int .u32 r) ∧ fG w w' := by
 obtain ⟨k, hk⟩ := sU.ev a0 _ h
 exact SE.calls a0 r w hk
def SC.f (a0 : ByteArray) : Option (Int × Int × Int) := if (a0.size : Int) < 8 then (some (0, 0, 1)) else (if (a0.size : Int) > 8 then (some (0, 0, 2)) else (if 0 ≤ 4 then (if 4 ≤ (a0.size : Int) then ((sU.f (a0.extract 0 4)).bind fun t102 => ((uE.f t102).bind fun o5 => ((sU.f (a0.extract 4 a0.size)).bind fun t105 => ((uE.f t105).bind fun zM => (if o5.2 = true then (if zM.2 = true then (some (o5.1, zM.1, 0)) else (some (0, 0, 17))) else (some (0, 0, 17))))))) else (none)) else (none)))
theorem SC.calls (a0 : ByteArray) (r1 : Int) (r2 : Int) (r3 : Int) (w : World) (h : SC.f a0 = some (r1, r2, r3)) :
 Calls Tryz.prog 33 #[.string a0] w fun e w' => e = .returned (.tuple #[.agg #[.int .i64 r1, .int .i64 r2], .int .i64 r3]) ∧ Below w.heap.size w w' := by
 have aFj := Tryz.underlying83; have HB := aA (Below.refl w.heap.size w); have H : (if (a0.size : Int) < 8 then (some (0, 0, 1)) else (if (a0.size : Int) > 8 then (some (0, 0, 2)) else (if 0 ≤ 4 then (if 4 ≤ (a0.size : Int) then ((sU.f (a0.extract 0 4)).bind fun t102 => ((uE.f t102).bind fun o5 => ((sU.f (a0.extract 4 a0.size)).bind fun t105 => ((uE.f t105).bind fun zM => (if o5.2 = true then (if zM.2 = true then (some (o5.1, zM.1, 0)) else (some (0, 0, 17))) else (some (0, 0, 17))))))) else (none)) else (none)))) = some (r1, r2, r3) := h; clear h
 by_cases c2 : (a0.size : Int) < 8
 ·
  rw [ip c2] at H; have iZ := dT c2; have nZ : decide (a0.size < 8) = true := dT (by omega); clear c2
  simp only [Option.some.injEq, Prod.mk.injEq] at H
  obtain ⟨rfl, rfl, rfl⟩ := H
  go_enter Tryz.func33, Tryz.ntmps33
  go_wp2_with (first | ((with_reducible refine cK (N := 2) rfl ?_); refine dB (N := 2) (cs := #[.int .i64 0, .int .i64 0]) (t := 83) ?_; intro dG hg w3 aG hb; have aD := aA aG; have lV := bB HB hg; have lU := bB HB hg; replace HB := hbS HB hb; clear hb aG hg; obtain ⟨aHc, aHd⟩ := yN aD; have aHe := fz aD 0; have aHf := eZ aD.out 1))
  refine bodyPost_ret (eP rfl _ _ dG 83 #[.int .i64 0, .int .i64 0] (0, 0) _ rfl (aU aD) Tryz.underlying83 rfl (by kernel_rfl)) rfl ?_
  exact ⟨eH, aJ HB⟩
 ·
  rw [iN c2] at H; have iZ := dF c2; have nZ : decide (a0.size < 8) = false := dF (by omega); clear c2
  by_cases c5 : (a0.size : Int) > 8
  ·
   rw [ip c5] at H; have iH := dT c5; have lF : decide (8 < a0.size) = true := dT (by omega); clear c5
   simp only [Option.some.injEq, Prod.mk.injEq] at H
   obtain ⟨rfl, rfl, rfl⟩ := H
   go_enter Tryz.func33, Tryz.ntmps33
   go_wp2_with (first | ((with_reducible refine cK (N := 2) rfl ?_); refine dB (N := 2) (cs := #[.int .i64 0, .int .i64 0]) (t := 83) ?_; intro dG hg w6 aG hb; have aD := aA aG; have lV := bB HB hg; have lU := bB HB hg; replace HB := hbS HB hb; clear hb aG hg; obtain ⟨UD, UE⟩ := yN aD; have ku := fz aD 0; have kv := eZ aD.out 1))
   refine bodyPost_ret (eP rfl _ _ dG 83 #[.int .i64 0, .int .i64 0] (0, 0) _ rfl (aU aD) Tryz.underlying83 rfl (by kernel_rfl)) rfl ?_
   exact ⟨eH, aJ HB⟩
  ·
   rw [iN c5] at H; have iH := dF c5; have lF : decide (8 < a0.size) = false := dF (by omega); clear c5; replace H := dU H; obtain ⟨c8, H⟩ := H; have mG := eT c8; have EA := dT c8; clear c8; replace H := dU H; obtain ⟨c9, H⟩ := H; have mO := eT c9; have xI := dT c9; clear c9; replace H := bnd H; obtain ⟨t102, sF, H⟩ := H; replace H := Option.bind_eq_some_iff.mp H; obtain ⟨⟨t103, t104⟩, Nw, H⟩ := H; replace H : ((sU.f (a0.extract 4 a0.size)).bind fun t105 => ((uE.f t105).bind fun zM => (if t104 = true then (if zM.2 = true then (some (t103, zM.1, 0)) else (some (0, 0, 17))) else (some (0, 0, 17))))) = some (r1, r2, r3) := H; have yG := aA Nw; clear Nw; have tH := eT (aK : 4 ≤ (a0.size : Int)); replace H := bnd H; obtain ⟨t105, VD, H⟩ := H; replace H := Option.bind_eq_some_iff.mp H; obtain ⟨⟨t106, t107⟩, Ny, H⟩ := H; replace H : (if t104 = true then (if t107 = true then (some (t103, t106, 0)) else (some (0, 0, 17))) else (some (0, 0, 17))) = some (r1, r2, r3) := H; have vg := aA Ny; clear Ny
   by_cases c15 : t104 = true
   ·
    subst c15; have H1 : (if t107 = true then (some (t103, t106, 0)) else (some (0, 0, 17))) = some (r1, r2, r3) := by rw [ip rfl] at H; exact H
    clear H; have H := H1; clear H1
    by_cases c16 : t107 = true
    ·
     subst c16; have H1 : (some (t103, t106, 0)) = some (r1, r2, r3) := by rw [ip rfl] at H; exact H
     clear H; have H := H1; clear H1
     simp only [Option.some.injEq, Prod.mk.injEq] at H
     obtain ⟨rfl, rfl, rfl⟩ := H
     go_enter Tryz.func33, Tryz.ntmps33
     go_wp2_with (first | ((with_reducible refine cK (N := 2) rfl ?_); refine dB (N := 2) (cs := #[.int .i64 0, .int .i64 0]) (t := 83) ?_; intro dG hg qI aG hb; have aD := aA aG; have lV := bB HB hg; have lU := bB HB hg; replace HB := hbS HB hb; clear hb aG hg) | ((with_reducible refine dJ (f := 68) rfl ?_); refine dV (some 19) rfl rfl Tryz.func68 (by kernel_rfl) rfl #[.string (a0.extract 0 4)] rfl ?_; (with_reducible refine (sU.calls (a0.extract 0 4) t102 _ sF.out).mono ?_); rintro e w' ⟨rfl, ⟨nd, rfl⟩⟩; refine ⟨_, rfl, ?_⟩; (try (rw [oW qI]; generalize dQ : World.drewN qI _ = qI; have bI : aC (qI.heap[dG]? = some (.cells #[.int .i64 0, .int .i64 0] 83 (0, 0))) := ⟨by rw [← dQ]; exact (fZ aD)⟩; have bV : aC (Below w.heap.size w qI) := ⟨by rw [← dQ]; exact (aJ HB)⟩; clear aD HB dQ; have aD := bI; have HB := bV; clear bI bV))) | ((with_reducible refine dJ (f := 67) rfl ?_); refine dV (some 20) rfl rfl Tryz.func67 (by kernel_rfl) rfl #[.int .u32 t102] rfl ?_; (with_reducible refine (uE.calls t102 t103 true _ yG.out).mono ?_); rintro e w' ⟨rfl, ⟨nd, rfl⟩⟩; refine ⟨_, rfl, ?_⟩; (try (rw [oW qI]; generalize dQ : World.drewN qI _ = qI; have bI : aC (qI.heap[dG]? = some (.cells #[.int .i64 0, .int .i64 0] 83 (0, 0))) := ⟨by rw [← dQ]; exact (fZ aD)⟩; have bV : aC (Below w.heap.size w qI) := ⟨by rw [← dQ]; exact (aJ HB)⟩; clear aD HB dQ; have aD := bI; have HB := bV; clear bI bV))) | ((with_reducible refine dJ (f := 68) rfl ?_); refine dV (some 26) rfl rfl Tryz.func68 (by kernel_rfl) rfl #[.string (a0.extract 4 a0.size)] rfl ?_; (with_reducible refine (sU.calls (a0.extract 4 a0.size) t105 _ VD.out).mono ?_); rintro e w' ⟨rfl, ⟨nd, rfl⟩⟩; refine ⟨_, rfl, ?_⟩; (try (rw [oW qI]; generalize dQ : World.drewN qI _ = qI; have bI : aC (qI.heap[dG]? = some (.cells #[.int .i64 0, .int .i64 0] 83 (0, 0))) := ⟨by rw [← dQ]; exact (fZ aD)⟩; have bV : aC (Below w.heap.size w qI) := ⟨by rw [← dQ]; exact (aJ HB)⟩; clear aD HB dQ; have aD := bI; have HB := bV; clear bI bV))) | ((with_reducible refine dJ (f := 67) rfl ?_); refine dV (some 27) rfl rfl Tryz.func67 (by kernel_rfl) rfl #[.int .u32 t105] rfl ?_; (with_reducible refine (uE.calls t105 t106 true _ vg.out).mono ?_); rintro e w' ⟨rfl, ⟨nd, rfl⟩⟩; refine ⟨_, rfl, ?_⟩; (try (rw [oW qI]; generalize dQ : World.drewN qI _ = qI; have bI : aC (qI.heap[dG]? = some (.cells #[.int .i64 0, .int .i64 0] 83 (0, 0))) := ⟨by rw [← dQ]; exact (fZ aD)⟩; have bV : aC (Below w.heap.size w qI) := ⟨by rw [← dQ]; exact (aJ HB)⟩; clear aD HB dQ; have aD := bI; have HB := bV; clear bI bV)); obtain ⟨aFx, aFy⟩ := yN aD; have aGk := fz aD 0; have aGl := eZ aD.out 1))
     refine bodyPost_ret (eP rfl _ _ dG 83 #[.int .i64 t103, .int .i64 t106] (0, 0) _ rfl (aU aD) Tryz.underlying83 rfl (by kernel_rfl)) rfl ?_
     exact ⟨eH, aJ HB⟩
    ·
     replace c16 := Bool.eq_false_iff.mpr c16; subst c16; have H1 : (some (0, 0, 17)) = some (r1, r2, r3) := by rw [iN (show ¬ (false = true) by decide)] at H; exact H
     clear H; have H := H1; clear H1
     simp only [Option.some.injEq, Prod.mk.injEq] at H
     obtain ⟨rfl, rfl, rfl⟩ := H
     go_enter Tryz.func33, Tryz.ntmps33
     go_wp2_with (first | ((with_reducible refine cK (N := 2) rfl ?_); refine dB (N := 2) (cs := #[.int .i64 0, .int .i64 0]) (t := 83) ?_; intro dG hg qY aG hb; have aD := aA aG; have lV := bB HB hg; have lU := bB HB hg; replace HB := hbS HB hb; clear hb aG hg) | ((with_reducible refine dJ (f := 68) rfl ?_); refine dV (some 19) rfl rfl Tryz.func68 (by kernel_rfl) rfl #[.string (a0.extract 0 4)] rfl ?_; (with_reducible refine (sU.calls (a0.extract 0 4) t102 _ sF.out).mono ?_); rintro e w' ⟨rfl, ⟨nd, rfl⟩⟩; refine ⟨_, rfl, ?_⟩; (try (rw [oW qY]; generalize dQ : World.drewN qY _ = qY; have bI : aC (qY.heap[dG]? = some (.cells #[.int .i64 0, .int .i64 0] 83 (0, 0))) := ⟨by rw [← dQ]; exact (fZ aD)⟩; have bV : aC (Below w.heap.size w qY) := ⟨by rw [← dQ]; exact (aJ HB)⟩; clear aD HB dQ; have aD := bI; have HB := bV; clear bI bV))) | ((with_reducible refine dJ (f := 67) rfl ?_); refine dV (some 20) rfl rfl Tryz.func67 (by kernel_rfl) rfl #[.int .u32 t102] rfl ?_; (with_reducible refine (uE.calls t102 t103 true _ yG.out).mono ?_); rintro e w' ⟨rfl, ⟨nd, rfl⟩⟩; refine ⟨_, rfl, ?_⟩; (try (rw [oW qY]; generalize dQ : World.drewN qY _ = qY; have bI : aC (qY.heap[dG]? = some (.cells #[.int .i64 0, .int .i64 0] 83 (0, 0))) := ⟨by rw [← dQ]; exact (fZ aD)⟩; have bV : aC (Below w.heap.size w qY) := ⟨by rw [← dQ]; exact (aJ HB)⟩; clear aD HB dQ; have aD := bI; have HB := bV; clear bI bV))) | ((with_reducible refine dJ (f := 68) rfl ?_); refine dV (some 26) rfl rfl Tryz.func68 (by kernel_rfl) rfl #[.string (a0.extract 4 a0.size)] rfl ?_; (with_reducible refine (sU.calls (a0.extract 4 a0.size) t105 _ VD.out).mono ?_); rintro e w' ⟨rfl, ⟨nd, rfl⟩⟩; refine ⟨_, rfl, ?_⟩; (try (rw [oW qY]; generalize dQ : World.drewN qY _ = qY; have bI : aC (qY.heap[dG]? = some (.cells #[.int .i64 0, .int .i64 0] 83 (0, 0))) := ⟨by rw [← dQ]; exact (fZ aD)⟩; have bV : aC (Below w.heap.size w qY) := ⟨by rw [← dQ]; exact (aJ HB)⟩; clear aD HB dQ; have aD := bI; have HB := bV; clear bI bV))) | ((with_reducible refine dJ (f := 67) rfl ?_); refine dV (some 27) rfl rfl Tryz.func67 (by kernel_rfl) rfl #[.int .u32 t105] rfl ?_; (with_reducible refine (uE.calls t105 t106 false _ vg.out).mono ?_); rintro e w' ⟨rfl, ⟨nd, rfl⟩⟩; refine ⟨_, rfl, ?_⟩; (try (rw [oW qY]; generalize dQ : World.drewN qY _ = qY; have bI : aC (qY.heap[dG]? = some (.cells #[.int .i64 0, .int .i64 0] 83 (0, 0))) := ⟨by rw [← dQ]; exact (fZ aD)⟩; have bV : aC (Below w.heap.size w qY) := ⟨by rw [← dQ]; exact (aJ HB)⟩; clear aD HB dQ; have aD := bI; have HB := bV; clear bI bV)); obtain ⟨EU, EW⟩ := yN aD; have EX := fz aD 0; have EY := eZ aD.out 1))
     refine bodyPost_ret (eP rfl _ _ dG 83 #[.int .i64 0, .int .i64 0] (0, 0) _ rfl (aU aD) Tryz.underlying83 rfl (by kernel_rfl)) rfl ?_
     exact ⟨eH, aJ HB⟩
   ·
    replace c15 := Bool.eq_false_iff.mpr c15; subst c15; have H1 : (some (0, 0, 17)) = some (r1, r2, r3) := by rw [iN (show ¬ (false = true) by decide)] at H; exact H
    clear H; have H := H1; clear H1
    simp only [Option.some.injEq, Prod.mk.injEq] at H
    obtain ⟨rfl, rfl, rfl⟩ := H
    go_enter Tryz.func33, Tryz.ntmps33
    go_wp2_with (first | ((with_reducible refine cK (N := 2) rfl ?_); refine dB (N := 2) (cs := #[.int .i64 0, .int .i64 0]) (t := 83) ?_; intro dG hg oG aG hb; have aD := aA aG; have lV := bB HB hg; have lU := bB HB hg; replace HB := hbS HB hb; clear hb aG hg) | ((with_reducible refine dJ (f := 68) rfl ?_); refine dV (some 19) rfl rfl Tryz.func68 (by kernel_rfl) rfl #[.string (a0.extract 0 4)] rfl ?_; (with_reducible refine (sU.calls (a0.extract 0 4) t102 _ sF.out).mono ?_); rintro e w' ⟨rfl, ⟨nd, rfl⟩⟩; refine ⟨_, rfl, ?_⟩; (try (rw [oW oG]; generalize dQ : World.drewN oG _ = oG; have bI : aC (oG.heap[dG]? = some (.cells #[.int .i64 0, .int .i64 0] 83 (0, 0))) := ⟨by rw [← dQ]; exact (fZ aD)⟩; have bV : aC (Below w.heap.size w oG) := ⟨by rw [← dQ]; exact (aJ HB)⟩; clear aD HB dQ; have aD := bI; have HB := bV; clear bI bV))) | ((with_reducible refine dJ (f := 67) rfl ?_); refine dV (some 20) rfl rfl Tryz.func67 (by kernel_rfl) rfl #[.int .u32 t102] rfl ?_; (with_reducible refine (uE.calls t102 t103 false _ yG.out).mono ?_); rintro e w' ⟨rfl, ⟨nd, rfl⟩⟩; refine ⟨_, rfl, ?_⟩; (try (rw [oW oG]; generalize dQ : World.drewN oG _ = oG; have bI : aC (oG.heap[dG]? = some (.cells #[.int .i64 0, .int .i64 0] 83 (0, 0))) := ⟨by rw [← dQ]; exact (fZ aD)⟩; have bV : aC (Below w.heap.size w oG) := ⟨by rw [← dQ]; exact (aJ HB)⟩; clear aD HB dQ; have aD := bI; have HB := bV; clear bI bV))) | ((with_reducible refine dJ (f := 68) rfl ?_); refine dV (some 26) rfl rfl Tryz.func68 (by kernel_rfl) rfl #[.string (a0.extract 4 a0.size)] rfl ?_; (with_reducible refine (sU.calls (a0.extract 4 a0.size) t105 _ VD.out).mono ?_); rintro e w' ⟨rfl, ⟨nd, rfl⟩⟩; refine ⟨_, rfl, ?_⟩; (try (rw [oW oG]; generalize dQ : World.drewN oG _ = oG; have bI : aC (oG.heap[dG]? = some (.cells #[.int .i64 0, .int .i64 0] 83 (0, 0))) := ⟨by rw [← dQ]; exact (fZ aD)⟩; have bV : aC (Below w.heap.size w oG) := ⟨by rw [← dQ]; exact (aJ HB)⟩; clear aD HB dQ; have aD := bI; have HB := bV; clear bI bV))) | ((with_reducible refine dJ (f := 67) rfl ?_); refine dV (some 27) rfl rfl Tryz.func67 (by kernel_rfl) rfl #[.int .u32 t105] rfl ?_; (with_reducible refine (uE.calls t105 t106 t107 _ vg.out).mono ?_); rintro e w' ⟨rfl, ⟨nd, rfl⟩⟩; refine ⟨_, rfl, ?_⟩; (try (rw [oW oG]; generalize dQ : World.drewN oG _ = oG; have bI : aC (oG.heap[dG]? = some (.cells #[.int .i64 0, .int .i64 0] 83 (0, 0))) := ⟨by rw [← dQ]; exact (fZ aD)⟩; have bV : aC (Below w.heap.size w oG) := ⟨by rw [← dQ]; exact (aJ HB)⟩; clear aD HB dQ; have aD := bI; have HB := bV; clear bI bV)); obtain ⟨Ic, Ie⟩ := yN aD; have aBP := fz aD 0; have aBQ := eZ aD.out 1))
    refine bodyPost_ret (eP rfl _ _ dG 83 #[.int .i64 0, .int .i64 0] (0, 0) _ rfl (aU aD) Tryz.underlying83 rfl (by kernel_rfl)) rfl ?_
    exact ⟨eH, aJ HB⟩
def DN.f (a0 : ByteArray) : Option (Int × Int × Int) := some (vY a0)
theorem DN.ev (a0 : ByteArray) (r) (h : DN.f a0 = some r) : ∃ k : Nat, SC.f a0 = some r := by
 refine ⟨0, ?_⟩
 rw [← h]
 unfold SC.f DN.f vY
 by_cases h1 : a0.size < 8
 · rw [ip (by omega), ip h1]
 · rw [iN (by omega), iN h1]
   by_cases h2 : a0.size > 8
   · rw [ip (by omega), ip h2]
   · rw [iN (by omega), iN h2, ip (by decide), ip (by omega)]
     have e1 : sU.f (a0.extract 0 4) = some (wd a0 : Int) := by
      rw [← Ym a0 (by omega)]
      exact ip (by rw [ByteArray.size_extract]; omega)
     have e2 : sU.f (a0.extract 4 a0.size) = some (wd (a0.extract 4 a0.size) : Int) := ip (by rw [ByteArray.size_extract]; omega)
     have e3 : uE.f (wd a0 : Int) = some (iP (wd a0)) := by
      unfold uE.f
      rw [ip (by have := ZM a0; omega), Int.toNat_natCast]
     have e4 : uE.f (wd (a0.extract 4 a0.size) : Int) = some (iP (wd (a0.extract 4 a0.size))) := by
      unfold uE.f
      rw [ip (by have := ZM (a0.extract 4 a0.size); omega), Int.toNat_natCast]
     rw [e1, Option.bind_some, e3, Option.bind_some, e2, Option.bind_some, e4, Option.bind_some]
     cases (iP (wd a0)).2 <;> cases (iP (wd (a0.extract 4 a0.size))).2 <;> rfl
theorem DN.calls (a0 : ByteArray) (r1 : Int) (r2 : Int) (r3 : Int) (w : World) (h : DN.f a0 = some (r1, r2, r3)) :
 Calls Tryz.prog 33 #[.string a0] w fun e w' => e = .returned (.tuple #[.agg #[.int .i64 r1, .int .i64 r2], .int .i64 r3]) ∧ Below w.heap.size w w' := by
 obtain ⟨k, hk⟩ := DN.ev a0 _ h
 exact SC.calls a0 r1 r2 r3 w hk
def y5.l0 : Nat → ByteArray → Int → Option (Bool)
 | 0, _, _ => none
 | k + 1, x0, x3 => if x3 < (x0.size : Int) then (if 0 ≤ x3 then (if (bt x0 x3) < 33 then (some false) else (if (bt x0 x3) > 126 then (some false) else (y5.l0 k x0 (wrap64 (x3 + 1))))) else (none)) else (if (x0.size : Int) ≥ 1 then (some (decide ((x0.size : Int) ≤ 64))) else (some false))
def y5.f (k : Nat) (a0 : ByteArray) : Option (Bool) := y5.l0 k a0 0
theorem y5.calls (k : Nat) (a0 : ByteArray) (r : Bool) (w : World) (h : y5.f k a0 = some r) :
 Calls Tryz.prog 28 #[.string a0] w fun e w' => e = .returned (.bool r) ∧ fG w w' := by
 have H : (y5.l0 k a0 0) = some r := h; clear h; have H' := aA H; clear H
 go_enter Tryz.func28, Tryz.ntmps28
 go_wp2
 go_loopg [3] k (fun kq v3 w' => ∃ (eG : Int), v3 = .int .i64 eG ∧ aC (y5.l0 kq a0 eG = some r) ∧ aC (kq ≤ k) ∧ fG w w')
 case atStart => exact ⟨(0), aZ, H', ⟨Nat.le_refl _⟩, dr⟩
 case round =>
  clear H'; obtain ⟨eG, rfl, HA, bD, ⟨m1, rfl⟩⟩ := hrel
  cases gk with
  | zero => exact absurd HA.out (by simp [y5.l0])
  | succ k1 =>
   have H := HA.out; clear HA
   simp only [y5.l0] at H
   by_cases c2 : eG < (a0.size : Int)
   · rw [ip c2] at H
     have iZ := dT c2; clear c2
     by_cases c3 : 0 ≤ eG
     · rw [ip c3] at H
       have gL := dT c3; clear c3
       by_cases c5 : (bt a0 eG) < 33
       · rw [ip c5] at H
         have iH := dT c5; clear c5; obtain rfl := Option.some.inj H; have p4 : 0 ≤ (eG : Int) := aK; have q4 : eG < (a0.size : Int) := aK; have hx4 := fE a0 eG; replace p4 := eT p4; replace q4 := eT q4
         go_wp2
         go_ret
         exact dW
       · rw [iN c5] at H
         have iH := dF c5; clear c5
         by_cases c7 : (bt a0 eG) > 126
         · rw [ip c7] at H
           have nA := dT c7; clear c7; obtain rfl := Option.some.inj H; have p4 : 0 ≤ (eG : Int) := aK; have q4 : eG < (a0.size : Int) := aK; have hx4 := fE a0 eG; replace p4 := eT p4; replace q4 := eT q4; have p6 : 0 ≤ (eG : Int) := aK; have q6 : eG < (a0.size : Int) := aK; have hx6 := fE a0 eG; replace p6 := eT p6; replace q6 := eT q6
           go_wp2
           go_ret
           exact dW
         · rw [iN c7] at H
           have nA := dF c7; clear c7; have H' := aA H; clear H; have p4 : 0 ≤ (eG : Int) := aK; have q4 : eG < (a0.size : Int) := aK; have hx4 := fE a0 eG; replace p4 := eT p4; replace q4 := eT q4; have p6 : 0 ≤ (eG : Int) := aK; have q6 : eG < (a0.size : Int) := aK; have hx6 := fE a0 eG; replace p6 := eT p6; replace q6 := eT q6
           go_wp2
           go_roundg k1
           case measure => have := bD.out; omega
           case rel => exact ⟨(wrap64 (eG + 1)), aZ, H', iK bD, dr⟩
     · rw [iN c3] at H; exact uD H
   · rw [iN c2] at H
     have iZ := dF c2; clear c2
     by_cases c8 : (a0.size : Int) ≥ 1
     · rw [ip c8] at H
       have mG := dT c8; have EA : decide (1 ≤ a0.size) = true := dT (by omega); clear c8; obtain rfl := Option.some.inj H
       go_wp2
       go_ret
       exact dW
     · rw [iN c8] at H
       have mG := dF c8; have EA : decide (1 ≤ a0.size) = false := dF (by omega); clear c8; obtain rfl := Option.some.inj H
       go_wp2
       go_ret
       exact dW
def xS.f (a0 : ByteArray) : Option Bool := if a0.size ≤ 140737488351232 then some (tK a0) else none
theorem Sv (s : ByteArray) (hs : s.size ≤ 140737488351232) (d : Nat) : ∀ (k i : Nat), s.size - i = d → i ≤ s.size → d < k →
 y5.l0 k s (i : Int) = some (((ns s).drop i).all (fun c => decide (33 ≤ c ∧ c ≤ 126)) && decide (1 ≤ s.size ∧ s.size ≤ 64)) := by
 induction d with
 | zero =>
  intro k i hd hi hk
  obtain ⟨k, rfl⟩ : ∃ m, k = m + 1 := ⟨k - 1, by omega⟩
  simp only [y5.l0]
  rw [iN (by omega), NK s i (by omega)]
  by_cases h0 : (s.size : Int) ≥ 1
  · rw [ip h0]
    simp only [List.all_nil, Bool.true_and]
    congr 1
    exact decide_eq_decide.2 ⟨fun h => ⟨by omega, by omega⟩, fun h => by omega⟩
  · rw [iN h0, show decide (1 ≤ s.size ∧ s.size ≤ 64) = false from dF (by omega)]; rfl
 | succ d ih =>
  intro k i hd hi hk
  obtain ⟨k, rfl⟩ : ∃ m, k = m + 1 := ⟨k - 1, by omega⟩
  have hlt : i < s.size := by omega
  have hb : bt s (i : Int) = ((s[i]'hlt).toNat : Int) := BA s i hlt
  simp only [y5.l0]
  rw [ip (by omega), ip (by omega), hb, LJ s i hlt, List.all_cons]
  by_cases h1 : ((s[i]'hlt).toNat : Int) < 33
  · rw [ip h1, show decide (33 ≤ (s[i]'hlt).toNat ∧ (s[i]'hlt).toNat ≤ 126) = false from dF (by omega)]; rfl
  · rw [iN h1]
    by_cases h2 : ((s[i]'hlt).toNat : Int) > 126
    · rw [ip h2, show decide (33 ≤ (s[i]'hlt).toNat ∧ (s[i]'hlt).toNat ≤ 126) = false from dF (by omega)]; rfl
    · rw [iN h2, show decide (33 ≤ (s[i]'hlt).toNat ∧ (s[i]'hlt).toNat ≤ 126) = true from dT (by omega), Bool.true_and, fC (by omega) (by omega)]
      exact ih k (i + 1) (by omega) (by omega) (by omega)
theorem xS.ev (a0 : ByteArray) (r) (h : xS.f a0 = some r) : ∃ k, y5.f k a0 = some r := by
 unfold xS.f at h
 split at h
 · rename_i hs
   have := Sv a0 hs a0.size (a0.size + 1) 0 (by omega) (by omega) (by omega)
   rw [List.drop_zero] at this
   exact ⟨a0.size + 1, this.trans h⟩
 · cases h
theorem xS.calls (a0 : ByteArray) (r : Bool) (w : World) (h : xS.f a0 = some r) :
 Calls Tryz.prog 28 #[.string a0] w fun e w' => e = .returned (.bool r) ∧ fG w w' := by
 obtain ⟨k, hk⟩ := xS.ev a0 _ h
 exact y5.calls k a0 r w hk
section
mutual
def mV.l0 : Nat → Int → Int → ByteArray → Int → List Int → ByteArray → Option (Int)
 | 0, _, _, _, _, _, _ => none
 | k + 1, x4, x6, vM, pO, pQ, pR => if x6 < x4 then (if pO = 9 then (if 0 ≤ x6 then (if x6 < (pR.size : Int) then (mV.j1 k x4 x6 (decide ((bt pR x6) > 1)) vM pO pQ pR) else (none)) else (none)) else (mV.j1 k x4 x6 false vM pO pQ pR)) else (some 0)
def mV.j1 : Nat → Int → Int → Bool → ByteArray → Int → List Int → ByteArray → Option (Int)
 | 0, _, _, _, _, _, _, _ => none
 | k + 1, x4, x6, x48, vM, pO, pQ, pR => if x48 = true then (some 17) else (if pO = 14 then (if 0 ≤ (wrap64 (8 * x6)) then (if (wrap64 (8 * x6)) ≤ (wrap64 ((wrap64 (8 * x6)) + 8)) then (if (wrap64 ((wrap64 (8 * x6)) + 8)) ≤ (pR.size : Int) then ((DN.f (pR.extract ((wrap64 (8 * x6)) : Int).toNat ((wrap64 ((wrap64 (8 * x6)) + 8)) : Int).toNat)).bind fun zM => (if zM.2.2 = 0 then (mV.l0 k x4 (wrap64 (x6 + 1)) vM pO pQ pR) else (some 17))) else (none)) else (none)) else (none)) else (mV.l0 k x4 (wrap64 (x6 + 1)) vM pO pQ pR))
end
def mV.f (k : Nat) (aY : ByteArray) (aT : Int) (aV : List Int) (bC : ByteArray) : Option (Int) := (xS.f aY).bind fun t102 => (if t102 = true then ((xR.f aT).bind fun t103 => (if t103 = 0 then (some 5) else ((yY.f aV).bind fun kW => (if kW.2 = 0 then (if (bC.size : Int) = (wrap64 (kW.1 * t103)) then (mV.l0 k kW.1 0 aY aT aV bC) else (some 19)) else (some kW.2))))) else (some 8))
theorem mV.calls (k : Nat) (aY : ByteArray) (aT : Int) (fM : Option Addr) (fO : Nat) (aV : List Int) (bC : ByteArray) (r : Int) (w : World) (rF : Kd.C (Kd.int .i64) w fM aV.length aV) (rE : aV.length ≤ fO) (h : mV.f k aY aT aV bC = some r) :
 Calls Tryz.prog 11 #[.agg #[.string aY, .int .i64 aT, .slice fM aV.length fO, .string bC]] w fun e w' => e = .returned (.int .i64 r) ∧ Below w.heap.size w w' := by
 have jY := Tryz.underlying38; have aFj := Tryz.underlying83; have tC := aA rF; have vS := aA rE; clear rF rE; have HB := aA (Below.refl w.heap.size w); have H : ((xS.f aY).bind fun t102 => (if t102 = true then ((xR.f aT).bind fun t103 => (if t103 = 0 then (some 5) else ((yY.f aV).bind fun kW => (if kW.2 = 0 then (if (bC.size : Int) = (wrap64 (kW.1 * t103)) then (mV.l0 k kW.1 0 aY aT aV bC) else (some 19)) else (some kW.2))))) else (some 8))) = some r := h; clear h; replace H := bnd H; obtain ⟨t102, A2, H⟩ := H
 by_cases c3 : t102 = true
 ·
  subst c3; have H1 : ((xR.f aT).bind fun t103 => (if t103 = 0 then (some 5) else ((yY.f aV).bind fun kW => (if kW.2 = 0 then (if (bC.size : Int) = (wrap64 (kW.1 * t103)) then (mV.l0 k kW.1 0 aY aT aV bC) else (some 19)) else (some kW.2))))) = some r := by rw [ip rfl] at H; exact H
  clear H; have H := H1; clear H1; replace H := bnd H; obtain ⟨t103, A4, H⟩ := H
  by_cases c5 : t103 = 0
  ·
   rw [ip c5] at H; obtain ⟨iH, lF⟩ := dH c5; clear c5; obtain rfl := Option.some.inj H
   go_enter Tryz.func11, Tryz.ntmps11
   go_wp2_with (first | ((with_reducible refine cK (N := 1) rfl ?_); refine dB (N := 1) (cs := #[.string aY, .int .i64 aT, .slice fM aV.length fO, .string bC]) (t := 38) ?_; intro dG hg w6 aG hb; have aD := aA aG; have lV := bB HB hg; have lU := bB HB hg; replace HB := hbS HB hb; clear hb aG hg; obtain ⟨UD, UE, jr, jv⟩ := aN aD; have ku := fz aD 0; have kv := fz aD 1; have aC6 := fz aD 2; have aC7 := fz aD 3) | ((with_reducible refine dJ (f := 28) rfl ?_); refine dV (some 11) rfl rfl Tryz.func28 (by kernel_rfl) rfl #[.string aY] rfl ?_; (with_reducible refine (xS.calls aY true _ A2.out).mono ?_); rintro e w' ⟨rfl, ⟨nd, rfl⟩⟩; refine ⟨_, rfl, ?_⟩) | ((with_reducible refine dJ (f := 29) rfl ?_); refine dV (some 15) rfl rfl Tryz.func29 (by kernel_rfl) rfl #[.int .i64 aT] rfl ?_; (with_reducible refine (xR.calls aT t103 _ A4.out).mono ?_); rintro e w' ⟨rfl, ⟨nd, rfl⟩⟩; refine ⟨_, rfl, ?_⟩))
   go_ret
   exact ⟨eH, aJ HB⟩
  ·
   rw [iN c5] at H; have iH := beq_eq_false_iff_ne.mpr c5; have lF := bne_iff_ne.mpr c5; replace H := Option.bind_eq_some_iff.mp H; obtain ⟨⟨t104, t105⟩, Pj, H⟩ := H; replace H : (if t105 = 0 then (if (bC.size : Int) = (wrap64 (t104 * t103)) then (mV.l0 k t104 0 aY aT aV bC) else (some 19)) else (some t105)) = some r := H; have A8 := aA Pj; clear Pj
   by_cases c9 : t105 = 0
   ·
    rw [ip c9] at H; obtain ⟨mO, xI⟩ := dH c9; clear c9
    by_cases c10 : (bC.size : Int) = (wrap64 (t104 * t103))
    ·
     rw [ip c10] at H; obtain ⟨qO, zN⟩ := dH c10; clear c10; have H' := aA H; clear H
     go_enter Tryz.func11, Tryz.ntmps11
     go_wp2_with (first | ((with_reducible refine cK (N := 1) rfl ?_); refine dB (N := 1) (cs := #[.string aY, .int .i64 aT, .slice fM aV.length fO, .string bC]) (t := 38) ?_; intro dG hg JE aG hb; have aD := aA aG; have lV := bB HB hg; have lU := bB HB hg; replace HB := hbS HB hb; clear hb aG hg; obtain ⟨S9, TA, TB, TC⟩ := aN aD; have TI := fz aD 0; have TJ := fz aD 1; have TL := fz aD 2; have TM := fz aD 3) | ((with_reducible refine dJ (f := 28) rfl ?_); refine dV (some 11) rfl rfl Tryz.func28 (by kernel_rfl) rfl #[.string aY] rfl ?_; (with_reducible refine (xS.calls aY true _ A2.out).mono ?_); rintro e w' ⟨rfl, ⟨nd, rfl⟩⟩; refine ⟨_, rfl, ?_⟩) | ((with_reducible refine dJ (f := 29) rfl ?_); refine dV (some 15) rfl rfl Tryz.func29 (by kernel_rfl) rfl #[.int .i64 aT] rfl ?_; (with_reducible refine (xR.calls aT t103 _ A4.out).mono ?_); rintro e w' ⟨rfl, ⟨nd, rfl⟩⟩; refine ⟨_, rfl, ?_⟩) | ((with_reducible refine dJ (f := 30) rfl ?_); refine dV (some 21) rfl rfl Tryz.func30 (by kernel_rfl) rfl #[.slice fM aV.length fO] rfl ?_; (with_reducible refine (yY.calls _ _ aV t104 t105 _ ?iU ?iV A8.out).mono ?_); (case iU => repeat (first | exact (Kd.gN tC.out (aJ HB)) | (with_reducible refine Kd.xY ?_ _) | (with_reducible refine Kd.ES ?_ _) | (with_reducible refine Kd.E5 ?_))); (case iV => exact vS.out); rintro e w' ⟨rfl, ⟨nd, rfl⟩⟩; refine ⟨_, rfl, ?_⟩))
     go_loopg [6] k (fun kq v6 w' => ∃ (bH : Int), v6 = .int .i64 bH ∧ aC (mV.l0 kq t104 bH aY aT aV bC = some r) ∧ aC (kq ≤ k) ∧ aC (w'.heap[dG]? = some (.cells #[.string aY, .int .i64 aT, (.slice fM aV.length fO), .string bC] 38 (0, 0))) ∧ aC (Below w.heap.size w w'))
     case atStart => exact ⟨(0), aZ, H', ⟨Nat.le_refl _⟩, ⟨fZ aD⟩, ⟨aJ HB⟩⟩
     case round =>
      clear H'; obtain ⟨bH, rfl, HA, bD, aD, HB⟩ := hrel
      cases gk with
      | zero => exact absurd HA.out (by simp [mV.l0])
      | succ k1 =>
       have H := HA.out; clear HA
       simp only [mV.l0] at H
       by_cases c13 : bH < t104
       ·
        rw [ip c13] at H; have vU := dT c13; clear c13; have OE := aA H; clear H
        go_upto_region 14 with (fail)
        go_cut [48] (fun v48 wc => ∃ (kq : Nat) (Y2 : Bool), v48 = .bool Y2 ∧ aC (mV.j1 kq t104 bH Y2 aY aT aV bC = some r) ∧ aC (kq ≤ k1) ∧ aC (wc.heap[dG]? = some (.cells #[.string aY, .int .i64 aT, (.slice fM aV.length fO), .string bC] 38 (0, 0))) ∧ aC (Below w.heap.size w wc))
        case first =>
         have H := OE.out; clear OE
         by_cases c15 : aT = 9
         ·
          rw [ip c15] at H; obtain ⟨qP, FD⟩ := dH c15; clear c15
          (first | rw [qP] | (simp only [dC, iC]; rw [qP]) | skip)
          replace H := dU H; obtain ⟨c16, H⟩ := H; have FE := dT c16; clear c16; replace H := dU H; obtain ⟨c17, H⟩ := H; have J2 := dT c17; clear c17; have H' := aA H; clear H; obtain ⟨YB, YC, YD, YE⟩ := aN aD; have YH := fz aD 0; have YI := fz aD 1; have YJ := fz aD 2; have YK := fz aD 3; have Rw : 0 ≤ (bH : Int) := aK; have Ry : bH < (bC.size : Int) := aK; have aI0 := fE bC bH; replace Rw := eT Rw; replace Ry := eT Ry
          go_wp2
          go_meet
          case rel => exact ⟨_, (decide ((bt bC bH) > 1)), aZ, H', ⟨by have := bD.out; first | omega | exact Nat.le_refl _⟩, ⟨fZ aD⟩, ⟨aJ HB⟩⟩
         ·
          rw [iN c15] at H; have qP := beq_eq_false_iff_ne.mpr c15; have FD := bne_iff_ne.mpr c15
          (first | rw [qP] | (simp only [dC, iC]; rw [qP]) | skip)
          have H' := aA H; clear H; obtain ⟨EU, EW, H8, IA⟩ := aN aD; have EX := fz aD 0; have EY := fz aD 1; have IB := fz aD 2; have IC := fz aD 3
          go_wp2
          go_meet
          case rel => exact ⟨_, (false), aZ, H', ⟨by have := bD.out; first | omega | exact Nat.le_refl _⟩, ⟨fZ aD⟩, ⟨aJ HB⟩⟩
        case rest =>
         clear OE; try clear c3; try clear c5; try clear iH; try clear lF; try clear c9; try clear mO; try clear xI; try clear c10; try clear qO; try clear zN; try clear c13; try clear vU; try clear S9; try clear TA; try clear TB; try clear TC; try clear TI; try clear TJ; try clear TL; try clear TM
         obtain ⟨kq, Y2, rfl, HA, FV, aD, HB⟩ := hcut
         cases kq with
         | zero => exact absurd HA.out (by simp [mV.j1])
         | succ xK =>
          have H := HA.out; clear HA
          simp only [mV.j1] at H
          by_cases c21 : Y2 = true
          ·
           subst c21; have H1 : (some 17) = some r := by rw [ip rfl] at H; exact H
           clear H; have H := H1; clear H1; obtain rfl := Option.some.inj H
           go_wp2
           go_ret
           exact ⟨eH, aJ HB⟩
          ·
           replace c21 := Bool.eq_false_iff.mpr c21; subst c21; have H1 : (if aT = 14 then (if 0 ≤ (wrap64 (8 * bH)) then (if (wrap64 (8 * bH)) ≤ (wrap64 ((wrap64 (8 * bH)) + 8)) then (if (wrap64 ((wrap64 (8 * bH)) + 8)) ≤ (bC.size : Int) then ((DN.f (bC.extract ((wrap64 (8 * bH)) : Int).toNat ((wrap64 ((wrap64 (8 * bH)) + 8)) : Int).toNat)).bind fun zM => (if zM.2.2 = 0 then (mV.l0 xK t104 (wrap64 (bH + 1)) aY aT aV bC) else (some 17))) else (none)) else (none)) else (none)) else (mV.l0 xK t104 (wrap64 (bH + 1)) aY aT aV bC)) = some r := by rw [iN (show ¬ (false = true) by decide)] at H; exact H
           clear H; have H := H1; clear H1
           by_cases mU : aT = 14
           ·
            rw [ip mU] at H; obtain ⟨LY, QO⟩ := dH mU; clear mU; obtain ⟨yE, QV⟩ : ∃ j_ : Int, (wrap64 (8 * bH)) = j_ := ⟨_, rfl⟩; replace H : (if 0 ≤ (yE) then (if (yE) ≤ (wrap64 ((yE) + 8)) then (if (wrap64 ((yE) + 8)) ≤ (bC.size : Int) then ((DN.f (bC.extract ((yE) : Int).toNat ((wrap64 ((yE) + 8)) : Int).toNat)).bind fun zM => (if zM.2.2 = 0 then (mV.l0 xK t104 (wrap64 (bH + 1)) aY aT aV bC) else (some 17))) else (none)) else (none)) else (none)) = some r := by first | (rw [QV] at H; exact H) | (simp only [QV] at H ⊢; exact H)
            have aHr : (IntKind.i64.wrap (8 * bH)) = yE := (dC _).trans QV; replace H := dU H; obtain ⟨c24, H⟩ := H; have FH := eT c24; have QP := dT c24; clear c24; replace H := dU H; obtain ⟨nD, H⟩ := H; have LZ := eT nD; have QQ := dT nD; replace H := dU H; obtain ⟨oQ, H⟩ := H; have FI := eT oQ; have ng := dT oQ; replace H := Option.bind_eq_some_iff.mp H; obtain ⟨⟨t106, t107, t108⟩, Oc, H⟩ := H; replace H : (if t108 = 0 then (mV.l0 xK t104 (wrap64 (bH + 1)) aY aT aV bC) else (some 17)) = some r := H; have Pf := aA Oc; clear Oc
            by_cases c28 : t108 = 0
            ·
             rw [ip c28] at H; obtain ⟨J3, J4⟩ := dH c28; clear c28; have H' := aA H; clear H; obtain ⟨aBm, aBn, aBo, aBp⟩ := aN aD; have aBX := fz aD 0; have aBY := fz aD 1; have aBZ := fz aD 2; have aB0 := fz aD 3
             go_wp2_with (first | ((with_reducible refine dJ (f := 33) rfl ?_); refine DZ (some 61) rfl rfl Tryz.func33 (by kernel_rfl) rfl #[.string (bC.extract ((yE) : Int).toNat ((wrap64 ((yE) + 8)) : Int).toNat)] rfl (by (try simp only [List.map_toArray, List.map_cons, List.map_nil]); first | done | (simp only [QV]; rfl) | rfl | (simp only [List.length_drop, List.length_take]; rfl)) ?_; (with_reducible refine (DN.calls (bC.extract ((yE) : Int).toNat ((wrap64 ((yE) + 8)) : Int).toNat) t106 t107 t108 _ Pf.out).mono ?_); rintro e sS ⟨rfl, hb⟩; refine ⟨_, rfl, ?_⟩; replace aD := aI aD hb; replace HB := hbS HB hb; (try clear hb)) | ((with_reducible refine cK (N := 7) rfl ?_); refine dB (N := 7) (cs := #[.int .i64 0, .int .i64 0]) (t := 83) ?_; intro aEf hg w31 aG hb; have N8 := aA aG; have aDs := bB HB hg; have aDq := bB HB hg; replace HB := hbS HB hb; have _3 := cO aD hg; have _4 := dD aD hg; replace aD := aI aD hb; clear hb aG hg; have Nh := _4.out; have Nj := _3.out; obtain ⟨YF, YG⟩ := yN N8; have Jw := fz N8 0; have Jy := eZ N8.out 1))
             go_roundg xK
             case measure => have := bD.out; have := FV.out; omega
             case rel => exact ⟨(wrap64 (bH + 1)), aZ, H', ⟨by have := bD.out; have := FV.out; omega⟩, ⟨aU aD⟩, ⟨aJ HB⟩⟩
            ·
             rw [iN c28] at H; have J3 := beq_eq_false_iff_ne.mpr c28; have J4 := bne_iff_ne.mpr c28; obtain rfl := Option.some.inj H; obtain ⟨aBu, aBv, aBw, aBx⟩ := aN aD; have aB7 := fz aD 0; have aB8 := fz aD 1; have aB9 := fz aD 2; have aB' := fz aD 3
             go_wp2_with (first | ((with_reducible refine dJ (f := 33) rfl ?_); refine DZ (some 61) rfl rfl Tryz.func33 (by kernel_rfl) rfl #[.string (bC.extract ((yE) : Int).toNat ((wrap64 ((yE) + 8)) : Int).toNat)] rfl (by (try simp only [List.map_toArray, List.map_cons, List.map_nil]); first | done | (simp only [QV]; rfl) | rfl | (simp only [List.length_drop, List.length_take]; rfl)) ?_; (with_reducible refine (DN.calls (bC.extract ((yE) : Int).toNat ((wrap64 ((yE) + 8)) : Int).toNat) t106 t107 t108 _ Pf.out).mono ?_); rintro e w35 ⟨rfl, hb⟩; refine ⟨_, rfl, ?_⟩; replace aD := aI aD hb; replace HB := hbS HB hb; (try clear hb)) | ((with_reducible refine cK (N := 7) rfl ?_); refine dB (N := 7) (cs := #[.int .i64 0, .int .i64 0]) (t := 83) ?_; intro aEf hg Rz aG hb; have N8 := aA aG; have aDs := bB HB hg; have aDq := bB HB hg; replace HB := hbS HB hb; have _3 := cO aD hg; have _4 := dD aD hg; replace aD := aI aD hb; clear hb aG hg; have aHU := _4.out; have aH4 := _3.out; obtain ⟨fu, fw⟩ := yN N8; have aCa := fz N8 0; have aCb := eZ N8.out 1))
             go_ret
             exact ⟨by first | rfl | (simp [nG, nH] <;> rfl) | (simp only [← QV]; first | rfl | (simp [nG, nH] <;> rfl)) | (simp [*, nG, nH] <;> rfl), aJ HB⟩
           ·
            rw [iN mU] at H; have LY := beq_eq_false_iff_ne.mpr mU; have QO := bne_iff_ne.mpr mU; have H' := aA H; clear H; obtain ⟨aBy, aBz, aBA, aBB⟩ := aN aD; have aCd := fz aD 0; have aCe := fz aD 1; have aCf := fz aD 2; have aCg := fz aD 3
            go_wp2
            go_roundg xK
            case measure => have := bD.out; have := FV.out; omega
            case rel => exact ⟨(wrap64 (bH + 1)), aZ, H', ⟨by have := bD.out; have := FV.out; omega⟩, ⟨fZ aD⟩, ⟨aJ HB⟩⟩
       ·
        rw [iN c13] at H; have vU := dF c13; clear c13; obtain rfl := Option.some.inj H
        go_wp2
        go_ret
        exact ⟨eH, aJ HB⟩
    ·
     rw [iN c10] at H; have qO := beq_eq_false_iff_ne.mpr c10; have zN := bne_iff_ne.mpr c10; obtain rfl := Option.some.inj H
     go_enter Tryz.func11, Tryz.ntmps11
     go_wp2_with (first | ((with_reducible refine cK (N := 1) rfl ?_); refine dB (N := 1) (cs := #[.string aY, .int .i64 aT, .slice fM aV.length fO, .string bC]) (t := 38) ?_; intro dG hg w40 aG hb; have aD := aA aG; have lV := bB HB hg; have lU := bB HB hg; replace HB := hbS HB hb; clear hb aG hg; obtain ⟨aBC, aBD, aBE, aBF⟩ := aN aD; have aGD := fz aD 0; have aGE := fz aD 1; have aGF := fz aD 2; have aGG := fz aD 3) | ((with_reducible refine dJ (f := 28) rfl ?_); refine dV (some 11) rfl rfl Tryz.func28 (by kernel_rfl) rfl #[.string aY] rfl ?_; (with_reducible refine (xS.calls aY true _ A2.out).mono ?_); rintro e w' ⟨rfl, ⟨nd, rfl⟩⟩; refine ⟨_, rfl, ?_⟩) | ((with_reducible refine dJ (f := 29) rfl ?_); refine dV (some 15) rfl rfl Tryz.func29 (by kernel_rfl) rfl #[.int .i64 aT] rfl ?_; (with_reducible refine (xR.calls aT t103 _ A4.out).mono ?_); rintro e w' ⟨rfl, ⟨nd, rfl⟩⟩; refine ⟨_, rfl, ?_⟩) | ((with_reducible refine dJ (f := 30) rfl ?_); refine dV (some 21) rfl rfl Tryz.func30 (by kernel_rfl) rfl #[.slice fM aV.length fO] rfl ?_; (with_reducible refine (yY.calls _ _ aV t104 t105 _ ?iU ?iV A8.out).mono ?_); (case iU => repeat (first | exact (Kd.gN tC.out (aJ HB)) | (with_reducible refine Kd.xY ?_ _) | (with_reducible refine Kd.ES ?_ _) | (with_reducible refine Kd.E5 ?_))); (case iV => exact vS.out); rintro e w' ⟨rfl, ⟨nd, rfl⟩⟩; refine ⟨_, rfl, ?_⟩))
     go_ret
     exact ⟨eH, aJ HB⟩
   ·
    rw [iN c9] at H; have mO := beq_eq_false_iff_ne.mpr c9; have xI := bne_iff_ne.mpr c9; obtain rfl := Option.some.inj H
    go_enter Tryz.func11, Tryz.ntmps11
    go_wp2_with (first | ((with_reducible refine cK (N := 1) rfl ?_); refine dB (N := 1) (cs := #[.string aY, .int .i64 aT, .slice fM aV.length fO, .string bC]) (t := 38) ?_; intro dG hg Sa aG hb; have aD := aA aG; have lV := bB HB hg; have lU := bB HB hg; replace HB := hbS HB hb; clear hb aG hg; obtain ⟨gq, gu, gy, gz⟩ := aN aD; have aCh := fz aD 0; have aCi := fz aD 1; have aCj := fz aD 2; have aCk := fz aD 3) | ((with_reducible refine dJ (f := 28) rfl ?_); refine dV (some 11) rfl rfl Tryz.func28 (by kernel_rfl) rfl #[.string aY] rfl ?_; (with_reducible refine (xS.calls aY true _ A2.out).mono ?_); rintro e w' ⟨rfl, ⟨nd, rfl⟩⟩; refine ⟨_, rfl, ?_⟩) | ((with_reducible refine dJ (f := 29) rfl ?_); refine dV (some 15) rfl rfl Tryz.func29 (by kernel_rfl) rfl #[.int .i64 aT] rfl ?_; (with_reducible refine (xR.calls aT t103 _ A4.out).mono ?_); rintro e w' ⟨rfl, ⟨nd, rfl⟩⟩; refine ⟨_, rfl, ?_⟩) | ((with_reducible refine dJ (f := 30) rfl ?_); refine dV (some 21) rfl rfl Tryz.func30 (by kernel_rfl) rfl #[.slice fM aV.length fO] rfl ?_; (with_reducible refine (yY.calls _ _ aV t104 t105 _ ?iU ?iV A8.out).mono ?_); (case iU => repeat (first | exact (Kd.gN tC.out (aJ HB)) | (with_reducible refine Kd.xY ?_ _) | (with_reducible refine Kd.ES ?_ _) | (with_reducible refine Kd.E5 ?_))); (case iV => exact vS.out); rintro e w' ⟨rfl, ⟨nd, rfl⟩⟩; refine ⟨_, rfl, ?_⟩))
    go_ret
    exact ⟨eH, aJ HB⟩
 ·
  replace c3 := Bool.eq_false_iff.mpr c3; subst c3; have H1 : (some 8) = some r := by rw [iN (show ¬ (false = true) by decide)] at H; exact H
  clear H; have H := H1; clear H1; obtain rfl := Option.some.inj H
  go_enter Tryz.func11, Tryz.ntmps11
  go_wp2_with (first | ((with_reducible refine cK (N := 1) rfl ?_); refine dB (N := 1) (cs := #[.string aY, .int .i64 aT, .slice fM aV.length fO, .string bC]) (t := 38) ?_; intro dG hg Sb aG hb; have aD := aA aG; have lV := bB HB hg; have lU := bB HB hg; replace HB := hbS HB hb; clear hb aG hg; obtain ⟨aBG, aBH, aBI, aBJ⟩ := aN aD; have aCl := fz aD 0; have aCm := fz aD 1; have aCn := fz aD 2; have aCo := fz aD 3) | ((with_reducible refine dJ (f := 28) rfl ?_); refine dV (some 11) rfl rfl Tryz.func28 (by kernel_rfl) rfl #[.string aY] rfl ?_; (with_reducible refine (xS.calls aY false _ A2.out).mono ?_); rintro e w' ⟨rfl, ⟨nd, rfl⟩⟩; refine ⟨_, rfl, ?_⟩))
  go_ret
  exact ⟨eH, aJ HB⟩
end
end Go.Proofs.YtgmggompdidcoaaGreatDoor.X
