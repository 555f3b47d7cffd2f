import Derived.Test.YtohddbiedabmhaaMPackReads0
import Derived.Test.YtohddbiedabmhaaMPackReads9
-- by xprint.py, a program of this session, over the kit's print.py
namespace Go.Proofs.Ytohddbiedabmhaa.X
open Go.RowKit Go.Proofs.YtohddbiedabmhaaW.PrintWords Go.Proofs.YtohddbiedabmhaaW.PrintLast Go.Proofs.YtohddbiedabmhaaW.PrintMore
attribute [local go_sem] max2_int min2_int max_two min_two max_three min_three max_four min_four   -- for this text's walks alone
set_option linter.unusedVariables false
set_option linter.unusedSimpArgs false

def agateref01_Read_s.f (a0 : ByteArray) : Option (Int × Int × Int) := some ((vRead a0).1, (vRead a0).2.1, (vRead a0).2.2)
theorem refread_step (v c i : Nat) (hv : v < 128 ^ i) (hi : i ≤ 9) (h9 : i = 9 → c ≤ 1) :
    IntKind.u64.wrap ((v : Int) + IntKind.u64.wrap (IntKind.u64.wrap (Int.tmod (c : Int) 128) * ((128 ^ i : Nat) : Int))) = ((v + c % 128 * 128 ^ i : Nat) : Int) := by
  have hp : v + c % 128 * 128 ^ i < 18446744073709551616 := by
    rcases Nat.lt_or_ge i 9 with h | h
    · have h1 : 128 ^ i ≤ 128 ^ 8 := Nat.pow_le_pow_right (by decide) (by omega)
      have h2 : c % 128 * 128 ^ i ≤ 127 * 128 ^ 8 := Nat.mul_le_mul (by omega) h1
      omega
    · obtain rfl : i = 9 := by omega
      have := h9 rfl
      have h2 : c % 128 * 128 ^ 9 ≤ 1 * 128 ^ 9 := Nat.mul_le_mul_right _ (by omega)
      omega
  have e : IntKind.u64.wrap (Int.tmod (c : Int) 128) * ((128 ^ i : Nat) : Int) = ((c % 128 * 128 ^ i : Nat) : Int) := by
    rw [Int.tmod_eq_emod_of_nonneg (by omega), u64_wrap, Int.natCast_mul]
    congr 1; omega
  rw [e, u64_wrap, u64_wrap]
  generalize c % 128 * 128 ^ i = x at *
  omega
theorem agateref01_Read_eval (s : ByteArray) (d : Nat) : ∀ (k i v : Nat), i ≤ 9 → 9 - i = d → i ≤ s.size → v < 128 ^ i → 2 * d + 2 ≤ k →
    agateref01_Read.l0 k s (v : Int) ((128 ^ i : Nat) : Int) (i : Int) = some (((readS ((ns s).drop i) i v).1 : Int), ((readS ((ns s).drop i) i v).2.1 : Int), ((readS ((ns s).drop i) i v).2.2 : Int)) := by
  induction d with
  | zero =>
    intro k i v hi hd hs hv hk
    obtain rfl : i = 9 := by omega
    obtain ⟨k, rfl⟩ : ∃ m, k = m + 2 := ⟨k - 2, by omega⟩
    simp only [agateref01_Read.l0]
    rw [if_pos (by omega)]
    by_cases h : s.size = 9
    · rw [if_pos (by omega), ns_drop_end _ _ (by omega)]; rfl
    · have hlt : 9 < s.size := by omega
      rw [if_neg (by omega), if_pos (by rfl), if_pos (by omega), if_pos (by omega), ns_drop s 9 hlt]
      have hb : bt s ((9 : Nat) : Int) = ((s[9]'hlt).toNat : Int) := bt_ns s 9 hlt
      simp only [agateref01_Read.j1]
      by_cases hc : 1 < (s[9]'hlt).toNat
      · rw [if_pos (decide_eq_true (by rw [hb]; omega)), readS, if_pos ⟨rfl, hc⟩]; rfl
      · rw [if_neg (by rw [decide_eq_true_iff, hb]; omega), if_pos (by omega), if_pos (by omega), if_pos (by rw [hb]; omega), readS_cons (by omega), if_pos (by omega), hb, refread_step v _ 9 hv (by omega) (by omega)]
        rw [Nat.mod_eq_of_lt (show (s[9]'hlt).toNat < 128 by omega), show wrap64 (((9 : Nat) : Int) + 1) = 10 from by unfold wrap64; decide]
        rfl
  | succ d ih =>
    intro k i v hi hd hs hv hk
    obtain ⟨k, rfl⟩ : ∃ m, k = m + 2 := ⟨k - 2, by omega⟩
    simp only [agateref01_Read.l0]
    rw [if_pos (by omega)]
    by_cases h : s.size = i
    · rw [if_pos (by omega), ns_drop_end _ _ (by omega)]; rfl
    · have hlt : i < s.size := by omega
      rw [if_neg (by omega), if_neg (by omega), ns_drop s i hlt]
      have hb : bt s (i : Int) = ((s[i]'hlt).toNat : Int) := bt_ns s i hlt
      simp only [agateref01_Read.j1]
      rw [if_neg (by decide), if_pos (by omega), if_pos (by omega), hb, refread_step v _ i hv (by omega) (by omega), readS_cons (by omega)]
      have ew : wrap64 ((i : Int) + 1) = ((i + 1 : Nat) : Int) := by unfold wrap64; omega
      rw [ew]
      by_cases hc : (s[i]'hlt).toNat < 128
      · rw [if_pos (by omega), if_pos hc, Nat.mod_eq_of_lt hc]; rfl
      · rw [if_neg (by omega), if_neg hc]
        have hu : IntKind.u64.wrap (((128 ^ i : Nat) : Int) * 128) = ((128 ^ (i + 1) : Nat) : Int) := by
          rw [u64_wrap, Nat.pow_succ]
          have h1 : 128 ^ i ≤ 128 ^ 8 := Nat.pow_le_pow_right (by decide) (by omega)
          generalize 128 ^ i = x at *
          omega
        rw [hu]
        refine ih k (i + 1) _ (by omega) (by omega) (by omega) ?_ (by omega)
        have h1 : (s[i]'hlt).toNat % 128 * 128 ^ i ≤ 127 * 128 ^ i := Nat.mul_le_mul_right _ (by omega)
        rw [Nat.pow_succ]; omega
theorem agateref01_Read_s.ev (a0 : ByteArray) (r) (h : agateref01_Read_s.f a0 = some r) : ∃ k, agateref01_Read.f k a0 = some r := by
  exact ⟨20, (agateref01_Read_eval a0 9 20 0 0 (by omega) (by omega) (by omega) (by decide) (by omega)).trans h⟩

set_option maxHeartbeats 1000000 in
theorem agateref01_Read_s.calls (a0 : ByteArray) (r1 : Int) (r2 : Int) (r3 : Int) (w : World) (h : agateref01_Read_s.f a0 = some (r1, r2, r3)) :
    Calls Try.prog 14 #[.string a0] w fun e w' => e = .returned (.tuple #[.int .u64 r1, .int .i64 r2, .int .i64 r3]) ∧ Drawn0 w w' := by
  obtain ⟨k, hk⟩ := agateref01_Read_s.ev a0 _ h
  exact agateref01_Read.calls k a0 r1 r2 r3 w hk

end Go.Proofs.Ytohddbiedabmhaa.X
-- by xprint.py, a program of this session, over the kit's print.py
namespace Go.Proofs.Ytohddbiedabmhaa.X
open Go.RowKit Go.Proofs.YtohddbiedabmhaaW.PrintWords Go.Proofs.YtohddbiedabmhaaW.PrintLast Go.Proofs.YtohddbiedabmhaaW.PrintMore
attribute [local go_sem] max2_int min2_int max_two min_two max_three min_three max_four min_four   -- for this text's walks alone
set_option linter.unusedVariables false
set_option linter.unusedSimpArgs false

/-! ### agateref03_Ints: function 37 -/
mutual
def agateref03_Ints.l0 : Nat → List (S50) → Int → List Int → Int → Option (List Int × Int)
  | 0, _, _, _, _ => none
  | k + 1, x0, x1, x6, x7 => if x7 < (x0.length : Int) then (if 0 ≤ x7 then (if ((rd_T50 x0 x7).f0) = x1 then (if ((rd_T50 x0 x7).f1) = 0 then (agateref03_Ints.j1 k x0 x1 x6 x7 false ((rd_T50 x0 x7).f0) ((rd_T50 x0 x7).f1) ((rd_T50 x0 x7).f2) ((rd_T50 x0 x7).f3)) else (agateref03_Ints.j1 k x0 x1 x6 x7 (((rd_T50 x0 x7).f1) != 2) ((rd_T50 x0 x7).f0) ((rd_T50 x0 x7).f1) ((rd_T50 x0 x7).f2) ((rd_T50 x0 x7).f3))) else (agateref03_Ints.l0 k x0 x1 x6 (wrap64 (x7 + 1)))) else (none)) else (some (x6, 0))
def agateref03_Ints.j1 : Nat → List (S50) → Int → List Int → Int → Bool → Int → Int → Int → ByteArray → Option (List Int × Int)
  | 0, _, _, _, _, _, _, _, _, _ => none
  | k + 1, x0, x1, x6, x7, x36, x103000, x103001, x103002, x103003 => if x36 = true then (some (([] : List Int), 3)) else (agateref03_Ints.l1 k x0 x1 x6 x7 x103003 0 x103000 x103001 x103002 x103003)
def agateref03_Ints.l1 : Nat → List (S50) → Int → List Int → Int → ByteArray → Int → Int → Int → Int → ByteArray → Option (List Int × Int)
  | 0, _, _, _, _, _, _, _, _, _, _ => none
  | k + 1, x0, x1, x6, x7, x9, x10, x103000, x103001, x103002, x103003 => if x103001 = 0 then (if x10 < 1 then (agateref03_Ints.j3 k x0 x1 x6 x7 x9 x10 true x103000 x103001 x103002 x103003) else (if x103001 = 2 then (agateref03_Ints.j3 k x0 x1 x6 x7 x9 x10 (decide ((x9.size : Int) > 0)) x103000 x103001 x103002 x103003) else (agateref03_Ints.j3 k x0 x1 x6 x7 x9 x10 false x103000 x103001 x103002 x103003))) else (if x103001 = 2 then (agateref03_Ints.j3 k x0 x1 x6 x7 x9 x10 (decide ((x9.size : Int) > 0)) x103000 x103001 x103002 x103003) else (agateref03_Ints.j3 k x0 x1 x6 x7 x9 x10 false x103000 x103001 x103002 x103003))
def agateref03_Ints.j3 : Nat → List (S50) → Int → List Int → Int → ByteArray → Int → Bool → Int → Int → Int → ByteArray → Option (List Int × Int)
  | 0, _, _, _, _, _, _, _, _, _, _, _ => none
  | k + 1, x0, x1, x6, x7, x9, x10, x55, x103000, x103001, x103002, x103003 => if x55 = true then (if x103001 = 2 then ((agateref01_Read_s.f x9).bind fun bt103 => (if bt103.2.2 = 0 then (if 0 ≤ bt103.2.1 then (if bt103.2.1 ≤ (x9.size : Int) then (if (x6.length : Int) = 65536 then (some (([] : List Int), 7)) else (if x6.length < 17592186044416 then (agateref03_Ints.l1 k x0 x1 (x6 ++ [wrap64 (bt103.1)]) x7 (x9.extract (bt103.2.1 : Int).toNat x9.size) (wrap64 (x10 + 1)) x103000 x103001 x103002 x103003) else (none))) else (none)) else (none)) else (some (([] : List Int), bt103.2.2)))) else (if (x6.length : Int) = 65536 then (some (([] : List Int), 7)) else (if x6.length < 17592186044416 then (agateref03_Ints.l1 k x0 x1 (x6 ++ [wrap64 (x103002)]) x7 x9 (wrap64 (x10 + 1)) x103000 x103001 x103002 x103003) else (none)))) else (agateref03_Ints.l0 k x0 x1 x6 (wrap64 (x7 + 1)))
end
def agateref03_Ints.f (k : Nat) (l0 : List (S50)) (a1 : Int) : Option (List Int × Int) := agateref03_Ints.l0 k l0 a1 ([] : List Int) 0
theorem agateref03_Ints.mono_l : ∀ k, (∀ y0 y1 y2 y3, LeO (agateref03_Ints.l0 k y0 y1 y2 y3) (agateref03_Ints.l0 (k + 1) y0 y1 y2 y3)) ∧ (∀ y0 y1 y2 y3 y4 y5 y6 y7 y8, LeO (agateref03_Ints.j1 k y0 y1 y2 y3 y4 y5 y6 y7 y8) (agateref03_Ints.j1 (k + 1) y0 y1 y2 y3 y4 y5 y6 y7 y8)) ∧ (∀ y0 y1 y2 y3 y4 y5 y6 y7 y8 y9, LeO (agateref03_Ints.l1 k y0 y1 y2 y3 y4 y5 y6 y7 y8 y9) (agateref03_Ints.l1 (k + 1) y0 y1 y2 y3 y4 y5 y6 y7 y8 y9)) ∧ (∀ y0 y1 y2 y3 y4 y5 y6 y7 y8 y9 y10, LeO (agateref03_Ints.j3 k y0 y1 y2 y3 y4 y5 y6 y7 y8 y9 y10) (agateref03_Ints.j3 (k + 1) y0 y1 y2 y3 y4 y5 y6 y7 y8 y9 y10))
  | 0 => ⟨fun _ _ _ _ r h => by simp [agateref03_Ints.l0] at h, fun _ _ _ _ _ _ _ _ _ r h => by simp [agateref03_Ints.j1] at h, fun _ _ _ _ _ _ _ _ _ _ r h => by simp [agateref03_Ints.l1] at h, fun _ _ _ _ _ _ _ _ _ _ _ r h => by simp [agateref03_Ints.j3] at h⟩
  | k + 1 => by
    obtain ⟨ih0, ih1, ih2, ih3⟩ := agateref03_Ints.mono_l k
    refine ⟨?_, ?_, ?_, ?_⟩
    · intro y0 y1 y2 y3
      unfold agateref03_Ints.l0
      repeat' first
      | (with_reducible exact ih0 _ _ _ _)
      | (with_reducible exact ih1 _ _ _ _ _ _ _ _ _)
      | (with_reducible exact ih2 _ _ _ _ _ _ _ _ _ _)
      | (with_reducible exact ih3 _ _ _ _ _ _ _ _ _ _ _)
      | (with_reducible exact LeO.refl _)
      | (with_reducible exact LeO.none _)
      | (with_reducible refine LeO.ite ?_ ?_)
      | (with_reducible refine LeO.bind ?_ (fun _ => ?_))
      | exact ih0 _ _ _ _
      | exact ih1 _ _ _ _ _ _ _ _ _
      | exact ih2 _ _ _ _ _ _ _ _ _ _
      | exact ih3 _ _ _ _ _ _ _ _ _ _ _
      | exact LeO.none _
      | refine LeO.ite ?_ ?_
      | refine LeO.bind ?_ (fun _ => ?_)
    · intro y0 y1 y2 y3 y4 y5 y6 y7 y8
      unfold agateref03_Ints.j1
      repeat' first
      | (with_reducible exact ih0 _ _ _ _)
      | (with_reducible exact ih1 _ _ _ _ _ _ _ _ _)
      | (with_reducible exact ih2 _ _ _ _ _ _ _ _ _ _)
      | (with_reducible exact ih3 _ _ _ _ _ _ _ _ _ _ _)
      | (with_reducible exact LeO.refl _)
      | (with_reducible exact LeO.none _)
      | (with_reducible refine LeO.ite ?_ ?_)
      | (with_reducible refine LeO.bind ?_ (fun _ => ?_))
      | exact ih0 _ _ _ _
      | exact ih1 _ _ _ _ _ _ _ _ _
      | exact ih2 _ _ _ _ _ _ _ _ _ _
      | exact ih3 _ _ _ _ _ _ _ _ _ _ _
      | exact LeO.none _
      | refine LeO.ite ?_ ?_
      | refine LeO.bind ?_ (fun _ => ?_)
    · intro y0 y1 y2 y3 y4 y5 y6 y7 y8 y9
      unfold agateref03_Ints.l1
      repeat' first
      | (with_reducible exact ih0 _ _ _ _)
      | (with_reducible exact ih1 _ _ _ _ _ _ _ _ _)
      | (with_reducible exact ih2 _ _ _ _ _ _ _ _ _ _)
      | (with_reducible exact ih3 _ _ _ _ _ _ _ _ _ _ _)
      | (with_reducible exact LeO.refl _)
      | (with_reducible exact LeO.none _)
      | (with_reducible refine LeO.ite ?_ ?_)
      | (with_reducible refine LeO.bind ?_ (fun _ => ?_))
      | exact ih0 _ _ _ _
      | exact ih1 _ _ _ _ _ _ _ _ _
      | exact ih2 _ _ _ _ _ _ _ _ _ _
      | exact ih3 _ _ _ _ _ _ _ _ _ _ _
      | exact LeO.none _
      | refine LeO.ite ?_ ?_
      | refine LeO.bind ?_ (fun _ => ?_)
    · intro y0 y1 y2 y3 y4 y5 y6 y7 y8 y9 y10
      unfold agateref03_Ints.j3
      repeat' first
      | (with_reducible exact ih0 _ _ _ _)
      | (with_reducible exact ih1 _ _ _ _ _ _ _ _ _)
      | (with_reducible exact ih2 _ _ _ _ _ _ _ _ _ _)
      | (with_reducible exact ih3 _ _ _ _ _ _ _ _ _ _ _)
      | (with_reducible exact LeO.refl _)
      | (with_reducible exact LeO.none _)
      | (with_reducible refine LeO.ite ?_ ?_)
      | (with_reducible refine LeO.bind ?_ (fun _ => ?_))
      | exact ih0 _ _ _ _
      | exact ih1 _ _ _ _ _ _ _ _ _
      | exact ih2 _ _ _ _ _ _ _ _ _ _
      | exact ih3 _ _ _ _ _ _ _ _ _ _ _
      | exact LeO.none _
      | refine LeO.ite ?_ ?_
      | refine LeO.bind ?_ (fun _ => ?_)
theorem agateref03_Ints.mono : ∀ a0 a1 k, LeO (agateref03_Ints.f k a0 a1) (agateref03_Ints.f (k + 1) a0 a1) := by
  intro a0 a1 k
  obtain ⟨ih0, ih1, ih2, ih3⟩ := agateref03_Ints.mono_l k
  unfold agateref03_Ints.f
  repeat' first
      | (with_reducible exact ih0 _ _ _ _)
      | (with_reducible exact ih1 _ _ _ _ _ _ _ _ _)
      | (with_reducible exact ih2 _ _ _ _ _ _ _ _ _ _)
      | (with_reducible exact ih3 _ _ _ _ _ _ _ _ _ _ _)
      | (with_reducible exact LeO.refl _)
      | (with_reducible exact LeO.none _)
      | (with_reducible refine LeO.ite ?_ ?_)
      | (with_reducible refine LeO.bind ?_ (fun _ => ?_))
      | exact ih0 _ _ _ _
      | exact ih1 _ _ _ _ _ _ _ _ _
      | exact ih2 _ _ _ _ _ _ _ _ _ _
      | exact ih3 _ _ _ _ _ _ _ _ _ _ _
      | exact LeO.none _
      | refine LeO.ite ?_ ?_
      | refine LeO.bind ?_ (fun _ => ?_)
set_option maxHeartbeats 8000000 in
set_option maxRecDepth 100000 in
theorem agateref03_Ints.calls (k : Nat) (A0 : Option Addr) (c0 : Nat) (l0 : List (S50)) (a1 : Int) (r1 : List Int) (r2 : Int) (w : World) (hr0 : Kd.C k50 w A0 l0.length l0) (hc0 : l0.length ≤ c0) (h : agateref03_Ints.f k l0 a1 = some (r1, r2)) :
    Calls Try.prog 37 #[.slice A0 l0.length c0, .int .i64 a1] w fun e w' => ∃ v0_ : Value, e = .returned (.tuple #[v0_, .int .i64 r2]) ∧ Kd.R (Kd.int .i64) 2 w' w.heap.size (fun _ => True) v0_ r1 ∧ Below w.heap.size w w' := by
  have hu50 := Try.underlying50
  have HR0 := Aside0.mk hr0
  have HC0 := Aside0.mk hc0
  clear hr0 hc0
  have HB := Aside0.mk (Below.refl w.heap.size w)
  have H : (agateref03_Ints.l0 k l0 a1 ([] : List Int) 0) = some (r1, r2) := h
  clear h
  have H' := Aside0.mk H
  clear H
  go_enter Try.func37, Try.ntmps37
  go_wp2
  go_loopg [6, 7] k (fun kq v6 v7 w' => ∃ (x6_1 : List Int) (x7_1 : Int), v7 = .int .i64 x7_1 ∧ Aside0 (agateref03_Ints.l0 kq l0 a1 x6_1 x7_1 = some (r1, r2)) ∧ Aside0 (kq ≤ k) ∧ Aside0 (Kd.R (Kd.int .i64) 2 w' w.heap.size (fun _ => True) v6 x6_1) ∧ Aside0 (Below w.heap.size w w'))
  case atStart => exact ⟨(([] : List Int)), (0), (by first | rfl | (simp; done) | (simp [*]; done)), H', ⟨Nat.le_refl _⟩, ⟨by first | exact Kd.R_nil _ _ _ _ _ | exact Kd.N_nil _ _ _ _ _ | exact Kd.V_nil _ _ _ _ _ | exact Kd.Q_nil _ _ _ _ _ | exact Kd.S_nil _ _ _ _ _⟩, ⟨by repeat (first | (with_reducible first | exact HB.out | apply below_alloc | apply pw_below_drewN | apply below_drew1) | exact HB.out)⟩⟩
  case round =>
    clear H'
    try clear p2
    obtain ⟨x6_1, x7_1, rfl, HA, HK1, HO_6, HB⟩ := hrel
    cases gk with
    | zero => exact absurd HA.out (by simp [agateref03_Ints.l0])
    | succ k1 =>
      have H := HA.out
      clear HA
      simp only [agateref03_Ints.l0] at H
      by_cases c3 : x7_1 < (l0.length : Int)
      · rw [if_pos c3] at H
        have c3b0 : decide (x7_1 < (l0.length : Int)) = true := decide_eq_true c3
        clear c3
        by_cases c4 : 0 ≤ x7_1
        · rw [if_pos c4] at H
          have c4b0 : decide (0 ≤ x7_1) = true := decide_eq_true c4
          clear c4
          by_cases c5 : ((rd_T50 l0 x7_1).f0) = a1
          · rw [if_pos c5] at H
            have c5b0 : (((rd_T50 l0 x7_1).f0) == a1) = true := beq_iff_eq.mpr c5
            have c5b1 : (((rd_T50 l0 x7_1).f0) != a1) = false := bne_eq_false_iff_eq.mpr c5
            clear c5
            have HC6 := Aside0.mk H
            clear H
            have p101 : 0 ≤ (x7_1 : Int) := of_decide_eq_true (by first | (with_reducible assumption) | assumption)
            have q101 : x7_1 < (l0.length : Int) := of_decide_eq_true (by first | (with_reducible assumption) | assumption)
            obtain ⟨ad101, e101, hx101_0, hx101_1, hx101_2, hx101_3⟩ := at_T50 HR0.out x7_1 p101 q101
            cases e101
            replace hx101_0 := (HB.out.cell (World.block_lt_of_cell? w _ hx101_0)).trans hx101_0
            replace hx101_1 := (HB.out.cell (World.block_lt_of_cell? w _ hx101_1)).trans hx101_1
            replace hx101_2 := (HB.out.cell (World.block_lt_of_cell? w _ hx101_2)).trans hx101_2
            replace hx101_3 := (HB.out.cell (World.block_lt_of_cell? w _ hx101_3)).trans hx101_3
            replace p101 := eq_true p101
            replace q101 := eq_true q101
            go_upto_region 7 with (first | ((with_reducible refine gate_dst (N := 8) rfl ?_); (try (refine gate_guard (by rfl) ?_; dsimp only)); refine box_event ?hg (N := 8) ?hd (cs := #[.int .i64 0, .int .i64 0, .int .u64 0, .string (⟨#[]⟩ : ByteArray)]) (t := 50) ?hr ?_; (case hd => rfl); (case hg => rfl); (case hr => first | (go_simp; done) | (go_simp; rfl)); intro gb102 hg w7 hbox hb; have n0_ := Aside0.mk (Kd.R_below (by (with_reducible repeat (first | apply Kd.R_alloc | apply Kd.R_drewN | apply Kd.R_drew)); exact HO_6.out) hb); have n1_ := Aside0.mk (below_step (by repeat (first | (with_reducible first | exact HB.out | apply below_alloc | apply pw_below_drewN | apply below_drew1) | exact HB.out)) hb); have n2_ := Aside0.mk (hbox); have n3_ := Aside0.mk ((by rw [hg]; exact (below_size (by repeat (first | (with_reducible first | exact HB.out | apply below_alloc | apply pw_below_drewN | apply below_drew1) | exact HB.out))) : w.heap.size ≤ gb102)); have n4_ := Aside0.mk ((by rw [hg]; exact (below_size (by repeat (first | (with_reducible first | exact HB.out | apply below_alloc | apply pw_below_drewN | apply below_drew1) | exact HB.out))) : w.heap.size ≤ gb102)); clear HO_6; clear HB; have HO_6 := n0_; have HB := n1_; have BK102 := n2_; have GW102 := n3_; have GE102 := n4_; clear n0_ n1_ n2_ n3_ n4_; clear hb hbox hg; have hcz8_0 : w7.cell? ⟨gb102, 0, none⟩ = some (.int .i64 0) := (blk_cell BK102.out 0).trans rfl; have hcz8_1 : w7.cell? ⟨gb102, 1, none⟩ = some (.int .i64 0) := (blk_cell BK102.out 1).trans rfl; have hcz8_2 : w7.cell? ⟨gb102, 2, none⟩ = some (.int .u64 0) := (blk_cell BK102.out 2).trans rfl; have hcz8_3 : w7.cell? ⟨gb102, 3, none⟩ = some (.string (⟨#[]⟩ : ByteArray)) := (blk_cell BK102.out 3).trans rfl; have hfz8_0 := blk_frozen BK102.out 0; have hfz8_1 := blk_frozen BK102.out 1; have hfz8_2 := blk_frozen BK102.out 2; have hfz8_3 := blk_frozen BK102.out 3))
            (try simp only [Act.put, List.setIfInBounds_toArray, List.set_cons_zero, List.set_cons_succ])
            go_cut [36] (fun v36 wc => ∃ (kq : Nat) (x36_5 : Bool), v36 = .bool x36_5 ∧ Aside0 (agateref03_Ints.j1 kq l0 a1 x6_1 x7_1 x36_5 ((rd_T50 l0 x7_1).f0) ((rd_T50 l0 x7_1).f1) ((rd_T50 l0 x7_1).f2) ((rd_T50 l0 x7_1).f3) = some (r1, r2)) ∧ Aside0 (kq ≤ k1) ∧ Aside0 (Kd.R (Kd.int .i64) 2 wc w.heap.size (fun _ => True) u6 x6_1) ∧ Aside0 (wc.heap[gb102]? = some (.cells #[.int .i64 ((rd_T50 l0 x7_1).f0), .int .i64 ((rd_T50 l0 x7_1).f1), .int .u64 ((rd_T50 l0 x7_1).f2), .string ((rd_T50 l0 x7_1).f3)] 50 (0, 0))) ∧ Aside0 (Below w.heap.size w wc))
            case first =>
              have H := HC6.out
              clear HC6
              by_cases c9 : ((rd_T50 l0 x7_1).f1) = 0
              · rw [if_pos c9] at H
                have c9b0 : (((rd_T50 l0 x7_1).f1) == 0) = true := beq_iff_eq.mpr c9
                have c9b1 : (((rd_T50 l0 x7_1).f1) != 0) = false := bne_eq_false_iff_eq.mpr c9
                clear c9
                (first | rw [c9b0] | (simp only [i64_w, i32_w]; rw [c9b0]) | skip)
                have H' := Aside0.mk H
                clear H
                have hcz10_0 : w7.cell? ⟨gb102, 0, none⟩ = some (.int .i64 0) := (blk_cell BK102.out 0).trans rfl
                have hcz10_1 : w7.cell? ⟨gb102, 1, none⟩ = some (.int .i64 0) := (blk_cell BK102.out 1).trans rfl
                have hcz10_2 : w7.cell? ⟨gb102, 2, none⟩ = some (.int .u64 0) := (blk_cell BK102.out 2).trans rfl
                have hcz10_3 : w7.cell? ⟨gb102, 3, none⟩ = some (.string (⟨#[]⟩ : ByteArray)) := (blk_cell BK102.out 3).trans rfl
                have hfz10_0 := blk_frozen BK102.out 0
                have hfz10_1 := blk_frozen BK102.out 1
                have hfz10_2 := blk_frozen BK102.out 2
                have hfz10_3 := blk_frozen BK102.out 3
                go_wp2
                go_meet
                case rel => exact ⟨_, (false), (by first | rfl | (simp; done) | (simp [*]; done)), H', ⟨by have := HK1.out; first | omega | exact Nat.le_refl _⟩, ⟨by (with_reducible repeat (first | apply Kd.R_alloc | apply Kd.R_drewN | apply Kd.R_drew)); exact Kd.R_mono (Kd.R_far (p := ⟨gb102, 3, none⟩) (Kd.R_far (p := ⟨gb102, 2, none⟩) (Kd.R_far (p := ⟨gb102, 1, none⟩) (Kd.R_far (p := ⟨gb102, 0, none⟩) (Kd.R_types HO_6.out BK102.out (by decide)) (fun _ hk => hk.2) (.int .i64 ((rd_T50 l0 x7_1).f0))) (fun _ hk => hk.2) (.int .i64 ((rd_T50 l0 x7_1).f1))) (fun _ hk => hk.2) (.int .u64 ((rd_T50 l0 x7_1).f2))) (fun _ hk => hk.2) (.string ((rd_T50 l0 x7_1).f3))) (fun _ hk => trivial)⟩, ⟨by (with_reducible repeat (first | refine blk_drewN ?_ _ | refine blk_drew ?_ | refine blk_alloc ?_ _)); refine blk_put (cs := #[.int .i64 ((rd_T50 l0 x7_1).f0), .int .i64 ((rd_T50 l0 x7_1).f1), .int .u64 ((rd_T50 l0 x7_1).f2), .string (⟨#[]⟩ : ByteArray)]) ?_ 3 _ rfl; (with_reducible repeat (first | refine blk_drewN ?_ _ | refine blk_drew ?_ | refine blk_alloc ?_ _)); refine blk_put (cs := #[.int .i64 ((rd_T50 l0 x7_1).f0), .int .i64 ((rd_T50 l0 x7_1).f1), .int .u64 0, .string (⟨#[]⟩ : ByteArray)]) ?_ 2 _ rfl; (with_reducible repeat (first | refine blk_drewN ?_ _ | refine blk_drew ?_ | refine blk_alloc ?_ _)); refine blk_put (cs := #[.int .i64 ((rd_T50 l0 x7_1).f0), .int .i64 0, .int .u64 0, .string (⟨#[]⟩ : ByteArray)]) ?_ 1 _ rfl; (with_reducible repeat (first | refine blk_drewN ?_ _ | refine blk_drew ?_ | refine blk_alloc ?_ _)); refine blk_put (cs := #[.int .i64 0, .int .i64 0, .int .u64 0, .string (⟨#[]⟩ : ByteArray)]) ?_ 0 _ rfl; (with_reducible repeat (first | refine blk_drewN ?_ _ | refine blk_drew ?_ | refine blk_alloc ?_ _)); exact BK102.out⟩, ⟨by repeat (first | (with_reducible first | exact HB.out | apply below_alloc | apply pw_below_drewN | apply below_drew1 | refine below_set ?_ GE102.out) | exact HB.out)⟩⟩
              · rw [if_neg c9] at H
                have c9b0 : (((rd_T50 l0 x7_1).f1) == 0) = false := beq_eq_false_iff_ne.mpr c9
                have c9b1 : (((rd_T50 l0 x7_1).f1) != 0) = true := bne_iff_ne.mpr c9
                (first | rw [c9b0] | (simp only [i64_w, i32_w]; rw [c9b0]) | skip)
                have H' := Aside0.mk H
                clear H
                have hcz11_0 : w7.cell? ⟨gb102, 0, none⟩ = some (.int .i64 0) := (blk_cell BK102.out 0).trans rfl
                have hcz11_1 : w7.cell? ⟨gb102, 1, none⟩ = some (.int .i64 0) := (blk_cell BK102.out 1).trans rfl
                have hcz11_2 : w7.cell? ⟨gb102, 2, none⟩ = some (.int .u64 0) := (blk_cell BK102.out 2).trans rfl
                have hcz11_3 : w7.cell? ⟨gb102, 3, none⟩ = some (.string (⟨#[]⟩ : ByteArray)) := (blk_cell BK102.out 3).trans rfl
                have hfz11_0 := blk_frozen BK102.out 0
                have hfz11_1 := blk_frozen BK102.out 1
                have hfz11_2 := blk_frozen BK102.out 2
                have hfz11_3 := blk_frozen BK102.out 3
                go_wp2
                go_meet
                case rel => exact ⟨_, ((((rd_T50 l0 x7_1).f1) != 2)), (by first | rfl | (simp; done) | (simp [*]; done)), H', ⟨by have := HK1.out; first | omega | exact Nat.le_refl _⟩, ⟨by (with_reducible repeat (first | apply Kd.R_alloc | apply Kd.R_drewN | apply Kd.R_drew)); exact Kd.R_mono (Kd.R_far (p := ⟨gb102, 3, none⟩) (Kd.R_far (p := ⟨gb102, 2, none⟩) (Kd.R_far (p := ⟨gb102, 1, none⟩) (Kd.R_far (p := ⟨gb102, 0, none⟩) (Kd.R_types HO_6.out BK102.out (by decide)) (fun _ hk => hk.2) (.int .i64 ((rd_T50 l0 x7_1).f0))) (fun _ hk => hk.2) (.int .i64 ((rd_T50 l0 x7_1).f1))) (fun _ hk => hk.2) (.int .u64 ((rd_T50 l0 x7_1).f2))) (fun _ hk => hk.2) (.string ((rd_T50 l0 x7_1).f3))) (fun _ hk => trivial)⟩, ⟨by (with_reducible repeat (first | refine blk_drewN ?_ _ | refine blk_drew ?_ | refine blk_alloc ?_ _)); refine blk_put (cs := #[.int .i64 ((rd_T50 l0 x7_1).f0), .int .i64 ((rd_T50 l0 x7_1).f1), .int .u64 ((rd_T50 l0 x7_1).f2), .string (⟨#[]⟩ : ByteArray)]) ?_ 3 _ rfl; (with_reducible repeat (first | refine blk_drewN ?_ _ | refine blk_drew ?_ | refine blk_alloc ?_ _)); refine blk_put (cs := #[.int .i64 ((rd_T50 l0 x7_1).f0), .int .i64 ((rd_T50 l0 x7_1).f1), .int .u64 0, .string (⟨#[]⟩ : ByteArray)]) ?_ 2 _ rfl; (with_reducible repeat (first | refine blk_drewN ?_ _ | refine blk_drew ?_ | refine blk_alloc ?_ _)); refine blk_put (cs := #[.int .i64 ((rd_T50 l0 x7_1).f0), .int .i64 0, .int .u64 0, .string (⟨#[]⟩ : ByteArray)]) ?_ 1 _ rfl; (with_reducible repeat (first | refine blk_drewN ?_ _ | refine blk_drew ?_ | refine blk_alloc ?_ _)); refine blk_put (cs := #[.int .i64 0, .int .i64 0, .int .u64 0, .string (⟨#[]⟩ : ByteArray)]) ?_ 0 _ rfl; (with_reducible repeat (first | refine blk_drewN ?_ _ | refine blk_drew ?_ | refine blk_alloc ?_ _)); exact BK102.out⟩, ⟨by repeat (first | (with_reducible first | exact HB.out | apply below_alloc | apply pw_below_drewN | apply below_drew1 | refine below_set ?_ GE102.out) | exact HB.out)⟩⟩
            case rest =>
              clear HC6
              try clear p1
              try clear q1
              try clear hx1
              try clear p2
              try clear c3
              try clear c3b0
              try clear c4
              try clear c4b0
              try clear c5
              try clear c5b0
              try clear c5b1
              try clear c9
              try clear c9b0
              try clear c9b1
              try clear p10
              try clear q10
              try clear hx10
              try clear hcz10_0
              try clear hcz10_1
              try clear hcz10_2
              try clear hcz10_3
              try clear hcz11_0
              try clear hcz11_1
              try clear hcz11_2
              try clear hcz11_3
              try clear hcz8_0
              try clear hcz8_1
              try clear hcz8_2
              try clear hcz8_3
              try clear hfz10_0
              try clear hfz10_1
              try clear hfz10_2
              try clear hfz10_3
              try clear hfz11_0
              try clear hfz11_1
              try clear hfz11_2
              try clear hfz11_3
              try clear hfz8_0
              try clear hfz8_1
              try clear hfz8_2
              try clear hfz8_3
              try clear hx101_0
              try clear hx101_1
              try clear hx101_2
              try clear hx101_3
              try clear p101
              try clear p2
              try clear q101
              obtain ⟨kq, x36_5, rfl, HA, HJ5, HO_6, BK102, HB⟩ := hcut
              cases kq with
              | zero => exact absurd HA.out (by simp [agateref03_Ints.j1])
              | succ kj5 =>
                have H := HA.out
                clear HA
                simp only [agateref03_Ints.j1] at H
                by_cases c12 : x36_5 = true
                · subst c12
                  have H1 : (some (([] : List Int), 3)) = some (r1, r2) := by rw [if_pos rfl] at H; exact H
                  clear H
                  have H := H1
                  clear H1
                  simp only [Option.some.injEq, Prod.mk.injEq] at H
                  obtain ⟨rfl, rfl⟩ := H
                  go_wp2
                  go_ret2
                  exact ⟨_, by first | rfl | (simp [errW_none, errW_some] <;> rfl) | (simp [*, errW_none, errW_some] <;> rfl), by first | exact Kd.R_nil _ _ _ _ _ | exact Kd.N_nil _ _ _ _ _ | exact Kd.V_nil _ _ _ _ _ | exact Kd.Q_nil _ _ _ _ _ | exact Kd.S_nil _ _ _ _ _, by repeat (first | (with_reducible first | exact HB.out | apply below_alloc | apply pw_below_drewN | apply below_drew1 | refine below_set ?_ GE102.out) | exact HB.out)⟩
                · replace c12 := Bool.eq_false_iff.mpr c12
                  subst c12
                  have H1 : (agateref03_Ints.l1 kj5 l0 a1 x6_1 x7_1 ((rd_T50 l0 x7_1).f3) 0 ((rd_T50 l0 x7_1).f0) ((rd_T50 l0 x7_1).f1) ((rd_T50 l0 x7_1).f2) ((rd_T50 l0 x7_1).f3)) = some (r1, r2) := by rw [if_neg (show ¬ (false = true) by decide)] at H; exact H
                  clear H
                  have H := H1
                  clear H1
                  have H' := Aside0.mk H
                  clear H
                  have hcz13_0 : wc.cell? ⟨gb102, 0, none⟩ = some (.int .i64 ((rd_T50 l0 x7_1).f0)) := (blk_cell BK102.out 0).trans rfl
                  have hcz13_1 : wc.cell? ⟨gb102, 1, none⟩ = some (.int .i64 ((rd_T50 l0 x7_1).f1)) := (blk_cell BK102.out 1).trans rfl
                  have hcz13_2 : wc.cell? ⟨gb102, 2, none⟩ = some (.int .u64 ((rd_T50 l0 x7_1).f2)) := (blk_cell BK102.out 2).trans rfl
                  have hcz13_3 : wc.cell? ⟨gb102, 3, none⟩ = some (.string ((rd_T50 l0 x7_1).f3)) := (blk_cell BK102.out 3).trans rfl
                  have hfz13_0 := blk_frozen BK102.out 0
                  have hfz13_1 := blk_frozen BK102.out 1
                  have hfz13_2 := blk_frozen BK102.out 2
                  have hfz13_3 := blk_frozen BK102.out 3
                  go_wp2
                  go_loopg [6, 9, 10] kj5 (fun kq v6 v9 v10 w' => ∃ (x6_3 : List Int) (x9_3 : ByteArray) (x10_3 : Int), v9 = .string x9_3 ∧ v10 = .int .i64 x10_3 ∧ Aside0 (agateref03_Ints.l1 kq l0 a1 x6_3 x7_1 x9_3 x10_3 ((rd_T50 l0 x7_1).f0) ((rd_T50 l0 x7_1).f1) ((rd_T50 l0 x7_1).f2) ((rd_T50 l0 x7_1).f3) = some (r1, r2)) ∧ Aside0 (kq ≤ kj5) ∧ Aside0 (Kd.R (Kd.int .i64) 2 w' w.heap.size (fun _ => True) v6 x6_3) ∧ Aside0 (w'.heap[gb102]? = some (.cells #[.int .i64 ((rd_T50 l0 x7_1).f0), .int .i64 ((rd_T50 l0 x7_1).f1), .int .u64 ((rd_T50 l0 x7_1).f2), .string ((rd_T50 l0 x7_1).f3)] 50 (0, 0))) ∧ Aside0 (Below w.heap.size w w'))
                  case atStart => exact ⟨(x6_1), (((rd_T50 l0 x7_1).f3)), (0), (by first | rfl | (simp; done) | (simp [*]; done)), (by first | rfl | (simp; done) | (simp [*]; done)), H', ⟨Nat.le_refl _⟩, ⟨by (with_reducible repeat (first | apply Kd.R_alloc | apply Kd.R_drewN | apply Kd.R_drew)); exact HO_6.out⟩, ⟨by (with_reducible repeat (first | refine blk_drewN ?_ _ | refine blk_drew ?_ | refine blk_alloc ?_ _)); exact BK102.out⟩, ⟨by repeat (first | (with_reducible first | exact HB.out | apply below_alloc | apply pw_below_drewN | apply below_drew1 | refine below_set ?_ GE102.out) | exact HB.out)⟩⟩
                  case round =>
                    clear H'
                    try clear c1
                    try clear p1
                    try clear q1
                    try clear hx1
                    try clear p2
                    try clear c3
                    try clear c3b0
                    try clear c4
                    try clear c4b0
                    try clear c5
                    try clear c5b0
                    try clear c5b1
                    try clear c9
                    try clear c9b0
                    try clear c9b1
                    try clear p10
                    try clear q10
                    try clear hx10
                    try clear c12
                    try clear hcz10_0
                    try clear hcz10_1
                    try clear hcz10_2
                    try clear hcz10_3
                    try clear hcz11_0
                    try clear hcz11_1
                    try clear hcz11_2
                    try clear hcz11_3
                    try clear hcz13_0
                    try clear hcz13_1
                    try clear hcz13_2
                    try clear hcz13_3
                    try clear hcz8_0
                    try clear hcz8_1
                    try clear hcz8_2
                    try clear hcz8_3
                    try clear hfz10_0
                    try clear hfz10_1
                    try clear hfz10_2
                    try clear hfz10_3
                    try clear hfz11_0
                    try clear hfz11_1
                    try clear hfz11_2
                    try clear hfz11_3
                    try clear hfz13_0
                    try clear hfz13_1
                    try clear hfz13_2
                    try clear hfz13_3
                    try clear hfz8_0
                    try clear hfz8_1
                    try clear hfz8_2
                    try clear hfz8_3
                    try clear hx101_0
                    try clear hx101_1
                    try clear hx101_2
                    try clear hx101_3
                    try clear p1
                    try clear p10
                    try clear p101
                    try clear p2
                    try clear q1
                    try clear q10
                    try clear q101
                    obtain ⟨x6_3, x9_3, x10_3, rfl, rfl, HA, HK3, HO_6, BK102, HB⟩ := hrel
                    cases gk with
                    | zero => exact absurd HA.out (by simp [agateref03_Ints.l1])
                    | succ k3 =>
                      have H := HA.out
                      clear HA
                      simp only [agateref03_Ints.l1] at H
                      have HC14 := Aside0.mk H
                      clear H
                      go_upto_region 11 with (fail)
                      go_cut [55] (fun v55 wc => ∃ (kq : Nat) (x55_13 : Bool), v55 = .bool x55_13 ∧ Aside0 (agateref03_Ints.j3 kq l0 a1 x6_3 x7_1 x9_3 x10_3 x55_13 ((rd_T50 l0 x7_1).f0) ((rd_T50 l0 x7_1).f1) ((rd_T50 l0 x7_1).f2) ((rd_T50 l0 x7_1).f3) = some (r1, r2)) ∧ Aside0 (kq ≤ k3) ∧ Aside0 (Kd.R (Kd.int .i64) 2 wc w.heap.size (fun _ => True) u6 x6_3) ∧ Aside0 (wc.heap[gb102]? = some (.cells #[.int .i64 ((rd_T50 l0 x7_1).f0), .int .i64 ((rd_T50 l0 x7_1).f1), .int .u64 ((rd_T50 l0 x7_1).f2), .string ((rd_T50 l0 x7_1).f3)] 50 (0, 0))) ∧ Aside0 (Below w.heap.size w wc))
                      case first =>
                        have H := HC14.out
                        clear HC14
                        by_cases c15 : ((rd_T50 l0 x7_1).f1) = 0
                        · rw [if_pos c15] at H
                          have c15b0 : (((rd_T50 l0 x7_1).f1) == 0) = true := beq_iff_eq.mpr c15
                          have c15b1 : (((rd_T50 l0 x7_1).f1) != 0) = false := bne_eq_false_iff_eq.mpr c15
                          clear c15
                          (first | rw [c15b0] | (simp only [i64_w, i32_w]; rw [c15b0]) | skip)
                          by_cases c16 : x10_3 < 1
                          · rw [if_pos c16] at H
                            have c16b0 : decide (x10_3 < 1) = true := decide_eq_true c16
                            clear c16
                            have H' := Aside0.mk H
                            clear H
                            have hcz17_0 : wr.cell? ⟨gb102, 0, none⟩ = some (.int .i64 ((rd_T50 l0 x7_1).f0)) := (blk_cell BK102.out 0).trans rfl
                            have hcz17_1 : wr.cell? ⟨gb102, 1, none⟩ = some (.int .i64 ((rd_T50 l0 x7_1).f1)) := (blk_cell BK102.out 1).trans rfl
                            have hcz17_2 : wr.cell? ⟨gb102, 2, none⟩ = some (.int .u64 ((rd_T50 l0 x7_1).f2)) := (blk_cell BK102.out 2).trans rfl
                            have hcz17_3 : wr.cell? ⟨gb102, 3, none⟩ = some (.string ((rd_T50 l0 x7_1).f3)) := (blk_cell BK102.out 3).trans rfl
                            have hfz17_0 := blk_frozen BK102.out 0
                            have hfz17_1 := blk_frozen BK102.out 1
                            have hfz17_2 := blk_frozen BK102.out 2
                            have hfz17_3 := blk_frozen BK102.out 3
                            go_wp2
                            go_meet
                            case rel => exact ⟨_, (true), (by first | rfl | (simp; done) | (simp [*]; done)), H', ⟨by have := HK1.out; have := HJ5.out; have := HK3.out; first | omega | exact Nat.le_refl _⟩, ⟨by (with_reducible repeat (first | apply Kd.R_alloc | apply Kd.R_drewN | apply Kd.R_drew)); exact HO_6.out⟩, ⟨by (with_reducible repeat (first | refine blk_drewN ?_ _ | refine blk_drew ?_ | refine blk_alloc ?_ _)); exact BK102.out⟩, ⟨by repeat (first | (with_reducible first | exact HB.out | apply below_alloc | apply pw_below_drewN | apply below_drew1 | refine below_set ?_ GE102.out) | exact HB.out)⟩⟩
                          · rw [if_neg c16] at H
                            have c16b0 : decide (x10_3 < 1) = false := decide_eq_false c16
                            clear c16
                            by_cases c18 : ((rd_T50 l0 x7_1).f1) = 2
                            · rw [if_pos c18] at H
                              have c18b0 : (((rd_T50 l0 x7_1).f1) == 2) = true := beq_iff_eq.mpr c18
                              have c18b1 : (((rd_T50 l0 x7_1).f1) != 2) = false := bne_eq_false_iff_eq.mpr c18
                              clear c18
                              have H' := Aside0.mk H
                              clear H
                              have hcz19_0 : wr.cell? ⟨gb102, 0, none⟩ = some (.int .i64 ((rd_T50 l0 x7_1).f0)) := (blk_cell BK102.out 0).trans rfl
                              have hcz19_1 : wr.cell? ⟨gb102, 1, none⟩ = some (.int .i64 ((rd_T50 l0 x7_1).f1)) := (blk_cell BK102.out 1).trans rfl
                              have hcz19_2 : wr.cell? ⟨gb102, 2, none⟩ = some (.int .u64 ((rd_T50 l0 x7_1).f2)) := (blk_cell BK102.out 2).trans rfl
                              have hcz19_3 : wr.cell? ⟨gb102, 3, none⟩ = some (.string ((rd_T50 l0 x7_1).f3)) := (blk_cell BK102.out 3).trans rfl
                              have hfz19_0 := blk_frozen BK102.out 0
                              have hfz19_1 := blk_frozen BK102.out 1
                              have hfz19_2 := blk_frozen BK102.out 2
                              have hfz19_3 := blk_frozen BK102.out 3
                              go_wp2
                              go_meet
                              case rel => exact ⟨_, (decide ((x9_3.size : Int) > 0)), (by first | rfl | (simp; done) | (simp [*]; done)), H', ⟨by have := HK1.out; have := HJ5.out; have := HK3.out; first | omega | exact Nat.le_refl _⟩, ⟨by (with_reducible repeat (first | apply Kd.R_alloc | apply Kd.R_drewN | apply Kd.R_drew)); exact HO_6.out⟩, ⟨by (with_reducible repeat (first | refine blk_drewN ?_ _ | refine blk_drew ?_ | refine blk_alloc ?_ _)); exact BK102.out⟩, ⟨by repeat (first | (with_reducible first | exact HB.out | apply below_alloc | apply pw_below_drewN | apply below_drew1 | refine below_set ?_ GE102.out) | exact HB.out)⟩⟩
                            · rw [if_neg c18] at H
                              have c18b0 : (((rd_T50 l0 x7_1).f1) == 2) = false := beq_eq_false_iff_ne.mpr c18
                              have c18b1 : (((rd_T50 l0 x7_1).f1) != 2) = true := bne_iff_ne.mpr c18
                              have H' := Aside0.mk H
                              clear H
                              have hcz20_0 : wr.cell? ⟨gb102, 0, none⟩ = some (.int .i64 ((rd_T50 l0 x7_1).f0)) := (blk_cell BK102.out 0).trans rfl
                              have hcz20_1 : wr.cell? ⟨gb102, 1, none⟩ = some (.int .i64 ((rd_T50 l0 x7_1).f1)) := (blk_cell BK102.out 1).trans rfl
                              have hcz20_2 : wr.cell? ⟨gb102, 2, none⟩ = some (.int .u64 ((rd_T50 l0 x7_1).f2)) := (blk_cell BK102.out 2).trans rfl
                              have hcz20_3 : wr.cell? ⟨gb102, 3, none⟩ = some (.string ((rd_T50 l0 x7_1).f3)) := (blk_cell BK102.out 3).trans rfl
                              have hfz20_0 := blk_frozen BK102.out 0
                              have hfz20_1 := blk_frozen BK102.out 1
                              have hfz20_2 := blk_frozen BK102.out 2
                              have hfz20_3 := blk_frozen BK102.out 3
                              go_wp2
                              go_meet
                              case rel => exact ⟨_, (false), (by first | rfl | (simp; done) | (simp [*]; done)), H', ⟨by have := HK1.out; have := HJ5.out; have := HK3.out; first | omega | exact Nat.le_refl _⟩, ⟨by (with_reducible repeat (first | apply Kd.R_alloc | apply Kd.R_drewN | apply Kd.R_drew)); exact HO_6.out⟩, ⟨by (with_reducible repeat (first | refine blk_drewN ?_ _ | refine blk_drew ?_ | refine blk_alloc ?_ _)); exact BK102.out⟩, ⟨by repeat (first | (with_reducible first | exact HB.out | apply below_alloc | apply pw_below_drewN | apply below_drew1 | refine below_set ?_ GE102.out) | exact HB.out)⟩⟩
                        · rw [if_neg c15] at H
                          have c15b0 : (((rd_T50 l0 x7_1).f1) == 0) = false := beq_eq_false_iff_ne.mpr c15
                          have c15b1 : (((rd_T50 l0 x7_1).f1) != 0) = true := bne_iff_ne.mpr c15
                          (first | rw [c15b0] | (simp only [i64_w, i32_w]; rw [c15b0]) | skip)
                          by_cases c21 : ((rd_T50 l0 x7_1).f1) = 2
                          · rw [if_pos c21] at H
                            have c21b0 : (((rd_T50 l0 x7_1).f1) == 2) = true := beq_iff_eq.mpr c21
                            have c21b1 : (((rd_T50 l0 x7_1).f1) != 2) = false := bne_eq_false_iff_eq.mpr c21
                            clear c21
                            have H' := Aside0.mk H
                            clear H
                            have hcz22_0 : wr.cell? ⟨gb102, 0, none⟩ = some (.int .i64 ((rd_T50 l0 x7_1).f0)) := (blk_cell BK102.out 0).trans rfl
                            have hcz22_1 : wr.cell? ⟨gb102, 1, none⟩ = some (.int .i64 ((rd_T50 l0 x7_1).f1)) := (blk_cell BK102.out 1).trans rfl
                            have hcz22_2 : wr.cell? ⟨gb102, 2, none⟩ = some (.int .u64 ((rd_T50 l0 x7_1).f2)) := (blk_cell BK102.out 2).trans rfl
                            have hcz22_3 : wr.cell? ⟨gb102, 3, none⟩ = some (.string ((rd_T50 l0 x7_1).f3)) := (blk_cell BK102.out 3).trans rfl
                            have hfz22_0 := blk_frozen BK102.out 0
                            have hfz22_1 := blk_frozen BK102.out 1
                            have hfz22_2 := blk_frozen BK102.out 2
                            have hfz22_3 := blk_frozen BK102.out 3
                            go_wp2
                            go_meet
                            case rel => exact ⟨_, (decide ((x9_3.size : Int) > 0)), (by first | rfl | (simp; done) | (simp [*]; done)), H', ⟨by have := HK1.out; have := HJ5.out; have := HK3.out; first | omega | exact Nat.le_refl _⟩, ⟨by (with_reducible repeat (first | apply Kd.R_alloc | apply Kd.R_drewN | apply Kd.R_drew)); exact HO_6.out⟩, ⟨by (with_reducible repeat (first | refine blk_drewN ?_ _ | refine blk_drew ?_ | refine blk_alloc ?_ _)); exact BK102.out⟩, ⟨by repeat (first | (with_reducible first | exact HB.out | apply below_alloc | apply pw_below_drewN | apply below_drew1 | refine below_set ?_ GE102.out) | exact HB.out)⟩⟩
                          · rw [if_neg c21] at H
                            have c21b0 : (((rd_T50 l0 x7_1).f1) == 2) = false := beq_eq_false_iff_ne.mpr c21
                            have c21b1 : (((rd_T50 l0 x7_1).f1) != 2) = true := bne_iff_ne.mpr c21
                            have H' := Aside0.mk H
                            clear H
                            have hcz23_0 : wr.cell? ⟨gb102, 0, none⟩ = some (.int .i64 ((rd_T50 l0 x7_1).f0)) := (blk_cell BK102.out 0).trans rfl
                            have hcz23_1 : wr.cell? ⟨gb102, 1, none⟩ = some (.int .i64 ((rd_T50 l0 x7_1).f1)) := (blk_cell BK102.out 1).trans rfl
                            have hcz23_2 : wr.cell? ⟨gb102, 2, none⟩ = some (.int .u64 ((rd_T50 l0 x7_1).f2)) := (blk_cell BK102.out 2).trans rfl
                            have hcz23_3 : wr.cell? ⟨gb102, 3, none⟩ = some (.string ((rd_T50 l0 x7_1).f3)) := (blk_cell BK102.out 3).trans rfl
                            have hfz23_0 := blk_frozen BK102.out 0
                            have hfz23_1 := blk_frozen BK102.out 1
                            have hfz23_2 := blk_frozen BK102.out 2
                            have hfz23_3 := blk_frozen BK102.out 3
                            go_wp2
                            go_meet
                            case rel => exact ⟨_, (false), (by first | rfl | (simp; done) | (simp [*]; done)), H', ⟨by have := HK1.out; have := HJ5.out; have := HK3.out; first | omega | exact Nat.le_refl _⟩, ⟨by (with_reducible repeat (first | apply Kd.R_alloc | apply Kd.R_drewN | apply Kd.R_drew)); exact HO_6.out⟩, ⟨by (with_reducible repeat (first | refine blk_drewN ?_ _ | refine blk_drew ?_ | refine blk_alloc ?_ _)); exact BK102.out⟩, ⟨by repeat (first | (with_reducible first | exact HB.out | apply below_alloc | apply pw_below_drewN | apply below_drew1 | refine below_set ?_ GE102.out) | exact HB.out)⟩⟩
                      case rest =>
                        clear HC14
                        try clear c1
                        try clear p1
                        try clear q1
                        try clear hx1
                        try clear c2
                        try clear p2
                        try clear c3
                        try clear c3b0
                        try clear c4
                        try clear c4b0
                        try clear c5
                        try clear c5b0
                        try clear c5b1
                        try clear c9
                        try clear c9b0
                        try clear c9b1
                        try clear p10
                        try clear q10
                        try clear hx10
                        try clear c12
                        try clear c15
                        try clear c15b0
                        try clear c15b1
                        try clear c16
                        try clear c16b0
                        try clear c18
                        try clear c18b0
                        try clear c18b1
                        try clear c21
                        try clear c21b0
                        try clear c21b1
                        try clear hcz10_0
                        try clear hcz10_1
                        try clear hcz10_2
                        try clear hcz10_3
                        try clear hcz11_0
                        try clear hcz11_1
                        try clear hcz11_2
                        try clear hcz11_3
                        try clear hcz13_0
                        try clear hcz13_1
                        try clear hcz13_2
                        try clear hcz13_3
                        try clear hcz17_0
                        try clear hcz17_1
                        try clear hcz17_2
                        try clear hcz17_3
                        try clear hcz19_0
                        try clear hcz19_1
                        try clear hcz19_2
                        try clear hcz19_3
                        try clear hcz20_0
                        try clear hcz20_1
                        try clear hcz20_2
                        try clear hcz20_3
                        try clear hcz22_0
                        try clear hcz22_1
                        try clear hcz22_2
                        try clear hcz22_3
                        try clear hcz23_0
                        try clear hcz23_1
                        try clear hcz23_2
                        try clear hcz23_3
                        try clear hcz8_0
                        try clear hcz8_1
                        try clear hcz8_2
                        try clear hcz8_3
                        try clear hfz10_0
                        try clear hfz10_1
                        try clear hfz10_2
                        try clear hfz10_3
                        try clear hfz11_0
                        try clear hfz11_1
                        try clear hfz11_2
                        try clear hfz11_3
                        try clear hfz13_0
                        try clear hfz13_1
                        try clear hfz13_2
                        try clear hfz13_3
                        try clear hfz17_0
                        try clear hfz17_1
                        try clear hfz17_2
                        try clear hfz17_3
                        try clear hfz19_0
                        try clear hfz19_1
                        try clear hfz19_2
                        try clear hfz19_3
                        try clear hfz20_0
                        try clear hfz20_1
                        try clear hfz20_2
                        try clear hfz20_3
                        try clear hfz22_0
                        try clear hfz22_1
                        try clear hfz22_2
                        try clear hfz22_3
                        try clear hfz23_0
                        try clear hfz23_1
                        try clear hfz23_2
                        try clear hfz23_3
                        try clear hfz8_0
                        try clear hfz8_1
                        try clear hfz8_2
                        try clear hfz8_3
                        try clear hx101_0
                        try clear hx101_1
                        try clear hx101_2
                        try clear hx101_3
                        try clear p1
                        try clear p10
                        try clear p101
                        try clear p2
                        try clear q1
                        try clear q10
                        try clear q101
                        obtain ⟨kq, x55_13, rfl, HA, HJ13, HO_6, BK102, HB⟩ := hcut
                        cases kq with
                        | zero => exact absurd HA.out (by simp [agateref03_Ints.j3])
                        | succ kj13 =>
                          have H := HA.out
                          clear HA
                          simp only [agateref03_Ints.j3] at H
                          by_cases c24 : x55_13 = true
                          · subst c24
                            have H1 : (if ((rd_T50 l0 x7_1).f1) = 2 then ((agateref01_Read_s.f x9_3).bind fun bt103 => (if bt103.2.2 = 0 then (if 0 ≤ bt103.2.1 then (if bt103.2.1 ≤ (x9_3.size : Int) then (if (x6_3.length : Int) = 65536 then (some (([] : List Int), 7)) else (if x6_3.length < 17592186044416 then (agateref03_Ints.l1 kj13 l0 a1 (x6_3 ++ [wrap64 (bt103.1)]) x7_1 (x9_3.extract (bt103.2.1 : Int).toNat x9_3.size) (wrap64 (x10_3 + 1)) ((rd_T50 l0 x7_1).f0) ((rd_T50 l0 x7_1).f1) ((rd_T50 l0 x7_1).f2) ((rd_T50 l0 x7_1).f3)) else (none))) else (none)) else (none)) else (some (([] : List Int), bt103.2.2)))) else (if (x6_3.length : Int) = 65536 then (some (([] : List Int), 7)) else (if x6_3.length < 17592186044416 then (agateref03_Ints.l1 kj13 l0 a1 (x6_3 ++ [wrap64 (((rd_T50 l0 x7_1).f2))]) x7_1 x9_3 (wrap64 (x10_3 + 1)) ((rd_T50 l0 x7_1).f0) ((rd_T50 l0 x7_1).f1) ((rd_T50 l0 x7_1).f2) ((rd_T50 l0 x7_1).f3)) else (none)))) = some (r1, r2) := by rw [if_pos rfl] at H; exact H
                            clear H
                            have H := H1
                            clear H1
                            by_cases c25 : ((rd_T50 l0 x7_1).f1) = 2
                            · rw [if_pos c25] at H
                              have c25b0 : (((rd_T50 l0 x7_1).f1) == 2) = true := beq_iff_eq.mpr c25
                              have c25b1 : (((rd_T50 l0 x7_1).f1) != 2) = false := bne_eq_false_iff_eq.mpr c25
                              clear c25
                              replace H := Option.bind_eq_some_iff.mp H
                              obtain ⟨⟨t103, t104, t105⟩, A260, H⟩ := H
                              replace H : (if t105 = 0 then (if 0 ≤ t104 then (if t104 ≤ (x9_3.size : Int) then (if (x6_3.length : Int) = 65536 then (some (([] : List Int), 7)) else (if x6_3.length < 17592186044416 then (agateref03_Ints.l1 kj13 l0 a1 (x6_3 ++ [wrap64 (t103)]) x7_1 (x9_3.extract (t104 : Int).toNat x9_3.size) (wrap64 (x10_3 + 1)) ((rd_T50 l0 x7_1).f0) ((rd_T50 l0 x7_1).f1) ((rd_T50 l0 x7_1).f2) ((rd_T50 l0 x7_1).f3)) else (none))) else (none)) else (none)) else (some (([] : List Int), t105))) = some (r1, r2) := H
                              have A26 := Aside0.mk A260
                              clear A260
                              by_cases c27 : t105 = 0
                              · rw [if_pos c27] at H
                                have c27b0 : (t105 == 0) = true := beq_iff_eq.mpr c27
                                have c27b1 : (t105 != 0) = false := bne_eq_false_iff_eq.mpr c27
                                clear c27
                                by_cases c28 : 0 ≤ t104
                                · rw [if_pos c28] at H
                                  have c28b0 := eq_true c28
                                  have c28b1 : decide (0 ≤ t104) = true := decide_eq_true c28
                                  clear c28
                                  by_cases c29 : t104 ≤ (x9_3.size : Int)
                                  · rw [if_pos c29] at H
                                    have c29b0 := eq_true c29
                                    have c29b1 : decide (t104 ≤ (x9_3.size : Int)) = true := decide_eq_true c29
                                    clear c29
                                    by_cases c30 : (x6_3.length : Int) = 65536
                                    · rw [if_pos c30] at H
                                      have c30b0 : ((x6_3.length : Int) == 65536) = true := beq_iff_eq.mpr c30
                                      have c30b1 : ((x6_3.length : Int) != 65536) = false := bne_eq_false_iff_eq.mpr c30
                                      clear c30
                                      simp only [Option.some.injEq, Prod.mk.injEq] at H
                                      obtain ⟨rfl, rfl⟩ := H
                                      have hcz31_0 : wc.cell? ⟨gb102, 0, none⟩ = some (.int .i64 ((rd_T50 l0 x7_1).f0)) := (blk_cell BK102.out 0).trans rfl
                                      have hcz31_1 : wc.cell? ⟨gb102, 1, none⟩ = some (.int .i64 ((rd_T50 l0 x7_1).f1)) := (blk_cell BK102.out 1).trans rfl
                                      have hcz31_2 : wc.cell? ⟨gb102, 2, none⟩ = some (.int .u64 ((rd_T50 l0 x7_1).f2)) := (blk_cell BK102.out 2).trans rfl
                                      have hcz31_3 : wc.cell? ⟨gb102, 3, none⟩ = some (.string ((rd_T50 l0 x7_1).f3)) := (blk_cell BK102.out 3).trans rfl
                                      have hfz31_0 := blk_frozen BK102.out 0
                                      have hfz31_1 := blk_frozen BK102.out 1
                                      have hfz31_2 := blk_frozen BK102.out 2
                                      have hfz31_3 := blk_frozen BK102.out 3
                                      go_wp2_with (first | ((with_reducible refine gate_callee (f := 14) rfl ?_); refine goesL_ (some 65) rfl rfl Try.func14 (by kernel_rfl) rfl #[.string x9_3] rfl (by (try simp only [List.map_toArray, List.map_cons, List.map_nil]); first | done | rfl | (simp only [List.length_drop, List.length_take]; rfl)) ?_; (with_reducible refine (agateref01_Read_s.calls x9_3 t103 t104 t105 _ A26.out).mono ?_); rintro e w' ⟨rfl, ⟨nd, rfl⟩⟩; refine ⟨_, rfl, ?_⟩; obtain ⟨Ao32, co32, eo32⟩ := Kd.R_slice HO_6.out; subst eo32))
                                      go_ret2
                                      exact ⟨_, by first | rfl | (simp [errW_none, errW_some] <;> rfl) | (simp [*, errW_none, errW_some] <;> rfl), by first | exact Kd.R_nil _ _ _ _ _ | exact Kd.N_nil _ _ _ _ _ | exact Kd.V_nil _ _ _ _ _ | exact Kd.Q_nil _ _ _ _ _ | exact Kd.S_nil _ _ _ _ _, by repeat (first | (with_reducible first | exact HB.out | apply below_alloc | apply pw_below_drewN | apply below_drew1 | refine below_set ?_ GE102.out) | exact HB.out)⟩
                                    · rw [if_neg c30] at H
                                      have c30b0 : ((x6_3.length : Int) == 65536) = false := beq_eq_false_iff_ne.mpr c30
                                      have c30b1 : ((x6_3.length : Int) != 65536) = true := bne_iff_ne.mpr c30
                                      by_cases c33 : x6_3.length < 17592186044416
                                      · rw [if_pos c33] at H
                                        have LMc33 := Aside0.mk c33
                                        clear c33
                                        obtain ⟨y106, hy106⟩ : ∃ y_ : List Int, y_ = (x6_3 ++ [wrap64 (t103)]) := ⟨_, rfl⟩
                                        replace H : (agateref03_Ints.l1 kj13 l0 a1 y106 x7_1 (x9_3.extract (t104 : Int).toNat x9_3.size) (wrap64 (x10_3 + 1)) ((rd_T50 l0 x7_1).f0) ((rd_T50 l0 x7_1).f1) ((rd_T50 l0 x7_1).f2) ((rd_T50 l0 x7_1).f3)) = some (r1, r2) := by first | (rw [hy106]; with_reducible exact H) | (have H2_ := (Option.bind_some _ _).symm.trans H; rw [hy106]; with_reducible exact H2_) | (have H2_ := (Option.bind_some _ _).symm.trans H; with_reducible exact H2_) | with_reducible exact H | (rw [hy106]; exact H) | exact H
                                        have Ny106 := Aside0.mk hy106
                                        clear hy106
                                        have H' := Aside0.mk H
                                        clear H
                                        have hcz34_0 : wc.cell? ⟨gb102, 0, none⟩ = some (.int .i64 ((rd_T50 l0 x7_1).f0)) := (blk_cell BK102.out 0).trans rfl
                                        have hcz34_1 : wc.cell? ⟨gb102, 1, none⟩ = some (.int .i64 ((rd_T50 l0 x7_1).f1)) := (blk_cell BK102.out 1).trans rfl
                                        have hcz34_2 : wc.cell? ⟨gb102, 2, none⟩ = some (.int .u64 ((rd_T50 l0 x7_1).f2)) := (blk_cell BK102.out 2).trans rfl
                                        have hcz34_3 : wc.cell? ⟨gb102, 3, none⟩ = some (.string ((rd_T50 l0 x7_1).f3)) := (blk_cell BK102.out 3).trans rfl
                                        have hfz34_0 := blk_frozen BK102.out 0
                                        have hfz34_1 := blk_frozen BK102.out 1
                                        have hfz34_2 := blk_frozen BK102.out 2
                                        have hfz34_3 := blk_frozen BK102.out 3
                                        go_wp2_with (first | ((with_reducible refine gate_callee (f := 14) rfl ?_); refine goesL_ (some 65) rfl rfl Try.func14 (by kernel_rfl) rfl #[.string x9_3] rfl (by (try simp only [List.map_toArray, List.map_cons, List.map_nil]); first | done | rfl | (simp only [List.length_drop, List.length_take]; rfl)) ?_; (with_reducible refine (agateref01_Read_s.calls x9_3 t103 t104 t105 _ A26.out).mono ?_); rintro e w' ⟨rfl, ⟨nd, rfl⟩⟩; refine ⟨_, rfl, ?_⟩; obtain ⟨Ao35, co35, eo35⟩ := Kd.R_slice HO_6.out; subst eo35) | ((with_reducible refine gate_builtin (b := .append) (xs := #[.tmp 79, .tmp 82]) rfl ?_); (try (refine gate_guard (by rfl) ?_; dsimp only)); at_builtin; refine Kd.R_append (Kd.int .i64) (w0 := w) w.heap.size rfl (.tmp 79) (.tmp 82) 58 2 (.int .i64 0) 8 rfl Try.underlying58 info2 rfl (by decide) (by omega) (.slice Ao35 x6_3.length co35) x6_3 (wrap64 (t103)) [.int .i64 (wrap64 (t103))] (fun _ => True) (fun _ => False) rfl rfl ?aP (fun _ hk => hk.elim) ?aF ?aO ?aB ?aS ?aL ?_; (case aP => exact rfl); (case aB => exact (by repeat (first | (with_reducible first | exact HB.out | apply below_alloc | apply pw_below_drewN | apply below_drew1 | refine below_set ?_ GE102.out) | exact HB.out))); (case aF => exact (fun _ _ => trivial)); (case aO => exact (by (with_reducible repeat (first | apply Kd.R_alloc | apply Kd.R_drewN | apply Kd.R_drew)); exact HO_6.out)); (case aS => exact (below_size (by repeat (first | (with_reducible first | exact HB.out | apply below_alloc | apply pw_below_drewN | apply below_drew1 | refine below_set ?_ GE102.out) | exact HB.out)))); (case aL => have := LMc33.out; omega); intro v107 w36 ho hb hg hat; rw [← Ny106.out] at ho; have n0_ := Aside0.mk (blk_grown (g := gb102) (o := .cells #[.int .i64 ((rd_T50 l0 x7_1).f0), .int .i64 ((rd_T50 l0 x7_1).f1), .int .u64 ((rd_T50 l0 x7_1).f2), .string ((rd_T50 l0 x7_1).f3)] 50 (0, 0)) (by (with_reducible repeat (first | refine blk_drewN ?_ _ | refine blk_drew ?_ | refine blk_alloc ?_ _)); exact BK102.out) hg (Kd.R_ne HO_6.out BK102.out (by decide))); have n1_ := Aside0.mk (hb); have n2_ := Aside0.mk (ho); clear BK102; clear HB; clear HO_6; have BK102 := n0_; have HB := n1_; have HO108 := n2_; clear n0_ n1_ n2_; clear ho hb hg hat))
                                        go_roundg kj13
                                        case measure => have := HK1.out; have := HJ5.out; have := HK3.out; have := HJ13.out; omega
                                        case rel => exact ⟨(y106), (x9_3.extract (t104 : Int).toNat x9_3.size), (wrap64 (x10_3 + 1)), (by first | rfl | (simp; done) | (simp [*]; done)), (by first | rfl | (simp; done) | (simp [*]; done)), H', ⟨by have := HK1.out; have := HJ5.out; have := HK3.out; have := HJ13.out; omega⟩, ⟨by (with_reducible repeat (first | apply Kd.R_alloc | apply Kd.R_drewN | apply Kd.R_drew)); exact HO108.out⟩, ⟨by (with_reducible repeat (first | refine blk_drewN ?_ _ | refine blk_drew ?_ | refine blk_alloc ?_ _)); exact BK102.out⟩, ⟨by repeat (first | (with_reducible first | exact HB.out | apply below_alloc | apply pw_below_drewN | apply below_drew1 | refine below_set ?_ GE102.out) | exact HB.out)⟩⟩
                                      · rw [if_neg c33] at H
                                        exact absurd H (by simp)
                                  · rw [if_neg c29] at H
                                    exact absurd H (by simp)
                                · rw [if_neg c28] at H
                                  exact absurd H (by simp)
                              · rw [if_neg c27] at H
                                have c27b0 : (t105 == 0) = false := beq_eq_false_iff_ne.mpr c27
                                have c27b1 : (t105 != 0) = true := bne_iff_ne.mpr c27
                                simp only [Option.some.injEq, Prod.mk.injEq] at H
                                obtain ⟨rfl, rfl⟩ := H
                                have hcz37_0 : wc.cell? ⟨gb102, 0, none⟩ = some (.int .i64 ((rd_T50 l0 x7_1).f0)) := (blk_cell BK102.out 0).trans rfl
                                have hcz37_1 : wc.cell? ⟨gb102, 1, none⟩ = some (.int .i64 ((rd_T50 l0 x7_1).f1)) := (blk_cell BK102.out 1).trans rfl
                                have hcz37_2 : wc.cell? ⟨gb102, 2, none⟩ = some (.int .u64 ((rd_T50 l0 x7_1).f2)) := (blk_cell BK102.out 2).trans rfl
                                have hcz37_3 : wc.cell? ⟨gb102, 3, none⟩ = some (.string ((rd_T50 l0 x7_1).f3)) := (blk_cell BK102.out 3).trans rfl
                                have hfz37_0 := blk_frozen BK102.out 0
                                have hfz37_1 := blk_frozen BK102.out 1
                                have hfz37_2 := blk_frozen BK102.out 2
                                have hfz37_3 := blk_frozen BK102.out 3
                                go_wp2_with (first | ((with_reducible refine gate_callee (f := 14) rfl ?_); refine goesL_ (some 65) rfl rfl Try.func14 (by kernel_rfl) rfl #[.string x9_3] rfl (by (try simp only [List.map_toArray, List.map_cons, List.map_nil]); first | done | rfl | (simp only [List.length_drop, List.length_take]; rfl)) ?_; (with_reducible refine (agateref01_Read_s.calls x9_3 t103 t104 t105 _ A26.out).mono ?_); rintro e w' ⟨rfl, ⟨nd, rfl⟩⟩; refine ⟨_, rfl, ?_⟩))
                                go_ret2
                                exact ⟨_, by first | rfl | (simp [errW_none, errW_some] <;> rfl) | (simp [*, errW_none, errW_some] <;> rfl), by first | exact Kd.R_nil _ _ _ _ _ | exact Kd.N_nil _ _ _ _ _ | exact Kd.V_nil _ _ _ _ _ | exact Kd.Q_nil _ _ _ _ _ | exact Kd.S_nil _ _ _ _ _, by repeat (first | (with_reducible first | exact HB.out | apply below_alloc | apply pw_below_drewN | apply below_drew1 | refine below_set ?_ GE102.out) | exact HB.out)⟩
                            · rw [if_neg c25] at H
                              have c25b0 : (((rd_T50 l0 x7_1).f1) == 2) = false := beq_eq_false_iff_ne.mpr c25
                              have c25b1 : (((rd_T50 l0 x7_1).f1) != 2) = true := bne_iff_ne.mpr c25
                              by_cases c38 : (x6_3.length : Int) = 65536
                              · rw [if_pos c38] at H
                                have c38b0 : ((x6_3.length : Int) == 65536) = true := beq_iff_eq.mpr c38
                                have c38b1 : ((x6_3.length : Int) != 65536) = false := bne_eq_false_iff_eq.mpr c38
                                clear c38
                                simp only [Option.some.injEq, Prod.mk.injEq] at H
                                obtain ⟨rfl, rfl⟩ := H
                                have hcz39_0 : wc.cell? ⟨gb102, 0, none⟩ = some (.int .i64 ((rd_T50 l0 x7_1).f0)) := (blk_cell BK102.out 0).trans rfl
                                have hcz39_1 : wc.cell? ⟨gb102, 1, none⟩ = some (.int .i64 ((rd_T50 l0 x7_1).f1)) := (blk_cell BK102.out 1).trans rfl
                                have hcz39_2 : wc.cell? ⟨gb102, 2, none⟩ = some (.int .u64 ((rd_T50 l0 x7_1).f2)) := (blk_cell BK102.out 2).trans rfl
                                have hcz39_3 : wc.cell? ⟨gb102, 3, none⟩ = some (.string ((rd_T50 l0 x7_1).f3)) := (blk_cell BK102.out 3).trans rfl
                                have hfz39_0 := blk_frozen BK102.out 0
                                have hfz39_1 := blk_frozen BK102.out 1
                                have hfz39_2 := blk_frozen BK102.out 2
                                have hfz39_3 := blk_frozen BK102.out 3
                                obtain ⟨Ao40, co40, eo40⟩ := Kd.R_slice HO_6.out
                                subst eo40
                                go_wp2
                                go_ret2
                                exact ⟨_, by first | rfl | (simp [errW_none, errW_some] <;> rfl) | (simp [*, errW_none, errW_some] <;> rfl), by first | exact Kd.R_nil _ _ _ _ _ | exact Kd.N_nil _ _ _ _ _ | exact Kd.V_nil _ _ _ _ _ | exact Kd.Q_nil _ _ _ _ _ | exact Kd.S_nil _ _ _ _ _, by repeat (first | (with_reducible first | exact HB.out | apply below_alloc | apply pw_below_drewN | apply below_drew1 | refine below_set ?_ GE102.out) | exact HB.out)⟩
                              · rw [if_neg c38] at H
                                have c38b0 : ((x6_3.length : Int) == 65536) = false := beq_eq_false_iff_ne.mpr c38
                                have c38b1 : ((x6_3.length : Int) != 65536) = true := bne_iff_ne.mpr c38
                                by_cases c41 : x6_3.length < 17592186044416
                                · rw [if_pos c41] at H
                                  have LMc41 := Aside0.mk c41
                                  clear c41
                                  obtain ⟨y109, hy109⟩ : ∃ y_ : List Int, y_ = (x6_3 ++ [wrap64 (((rd_T50 l0 x7_1).f2))]) := ⟨_, rfl⟩
                                  replace H : (agateref03_Ints.l1 kj13 l0 a1 y109 x7_1 x9_3 (wrap64 (x10_3 + 1)) ((rd_T50 l0 x7_1).f0) ((rd_T50 l0 x7_1).f1) ((rd_T50 l0 x7_1).f2) ((rd_T50 l0 x7_1).f3)) = some (r1, r2) := by first | (rw [hy109]; with_reducible exact H) | (have H2_ := (Option.bind_some _ _).symm.trans H; rw [hy109]; with_reducible exact H2_) | (have H2_ := (Option.bind_some _ _).symm.trans H; with_reducible exact H2_) | with_reducible exact H | (rw [hy109]; exact H) | exact H
                                  have Ny109 := Aside0.mk hy109
                                  clear hy109
                                  have H' := Aside0.mk H
                                  clear H
                                  have hcz42_0 : wc.cell? ⟨gb102, 0, none⟩ = some (.int .i64 ((rd_T50 l0 x7_1).f0)) := (blk_cell BK102.out 0).trans rfl
                                  have hcz42_1 : wc.cell? ⟨gb102, 1, none⟩ = some (.int .i64 ((rd_T50 l0 x7_1).f1)) := (blk_cell BK102.out 1).trans rfl
                                  have hcz42_2 : wc.cell? ⟨gb102, 2, none⟩ = some (.int .u64 ((rd_T50 l0 x7_1).f2)) := (blk_cell BK102.out 2).trans rfl
                                  have hcz42_3 : wc.cell? ⟨gb102, 3, none⟩ = some (.string ((rd_T50 l0 x7_1).f3)) := (blk_cell BK102.out 3).trans rfl
                                  have hfz42_0 := blk_frozen BK102.out 0
                                  have hfz42_1 := blk_frozen BK102.out 1
                                  have hfz42_2 := blk_frozen BK102.out 2
                                  have hfz42_3 := blk_frozen BK102.out 3
                                  obtain ⟨Ao43, co43, eo43⟩ := Kd.R_slice HO_6.out
                                  subst eo43
                                  go_wp2_with (first | ((with_reducible refine gate_builtin (b := .append) (xs := #[.tmp 79, .tmp 82]) rfl ?_); (try (refine gate_guard (by rfl) ?_; dsimp only)); at_builtin; refine Kd.R_append (Kd.int .i64) (w0 := w) w.heap.size rfl (.tmp 79) (.tmp 82) 58 2 (.int .i64 0) 8 rfl Try.underlying58 info2 rfl (by decide) (by omega) (.slice Ao43 x6_3.length co43) x6_3 (wrap64 (((rd_T50 l0 x7_1).f2))) [.int .i64 (wrap64 (((rd_T50 l0 x7_1).f2)))] (fun _ => True) (fun _ => False) rfl rfl ?aP (fun _ hk => hk.elim) ?aF ?aO ?aB ?aS ?aL ?_; (case aP => exact rfl); (case aB => exact (by repeat (first | (with_reducible first | exact HB.out | apply below_alloc | apply pw_below_drewN | apply below_drew1 | refine below_set ?_ GE102.out) | exact HB.out))); (case aF => exact (fun _ _ => trivial)); (case aO => exact (by (with_reducible repeat (first | apply Kd.R_alloc | apply Kd.R_drewN | apply Kd.R_drew)); exact HO_6.out)); (case aS => exact (below_size (by repeat (first | (with_reducible first | exact HB.out | apply below_alloc | apply pw_below_drewN | apply below_drew1 | refine below_set ?_ GE102.out) | exact HB.out)))); (case aL => have := LMc41.out; omega); intro v110 w44 ho hb hg hat; rw [← Ny109.out] at ho; have n0_ := Aside0.mk (blk_grown (g := gb102) (o := .cells #[.int .i64 ((rd_T50 l0 x7_1).f0), .int .i64 ((rd_T50 l0 x7_1).f1), .int .u64 ((rd_T50 l0 x7_1).f2), .string ((rd_T50 l0 x7_1).f3)] 50 (0, 0)) (by (with_reducible repeat (first | refine blk_drewN ?_ _ | refine blk_drew ?_ | refine blk_alloc ?_ _)); exact BK102.out) hg (Kd.R_ne HO_6.out BK102.out (by decide))); have n1_ := Aside0.mk (hb); have n2_ := Aside0.mk (ho); clear BK102; clear HB; clear HO_6; have BK102 := n0_; have HB := n1_; have HO111 := n2_; clear n0_ n1_ n2_; clear ho hb hg hat))
                                  go_roundg kj13
                                  case measure => have := HK1.out; have := HJ5.out; have := HK3.out; have := HJ13.out; omega
                                  case rel => exact ⟨(y109), (x9_3), (wrap64 (x10_3 + 1)), (by first | rfl | (simp; done) | (simp [*]; done)), (by first | rfl | (simp; done) | (simp [*]; done)), H', ⟨by have := HK1.out; have := HJ5.out; have := HK3.out; have := HJ13.out; omega⟩, ⟨by (with_reducible repeat (first | apply Kd.R_alloc | apply Kd.R_drewN | apply Kd.R_drew)); exact HO111.out⟩, ⟨by (with_reducible repeat (first | refine blk_drewN ?_ _ | refine blk_drew ?_ | refine blk_alloc ?_ _)); exact BK102.out⟩, ⟨by repeat (first | (with_reducible first | exact HB.out | apply below_alloc | apply pw_below_drewN | apply below_drew1 | refine below_set ?_ GE102.out) | exact HB.out)⟩⟩
                                · rw [if_neg c41] at H
                                  exact absurd H (by simp)
                          · replace c24 := Bool.eq_false_iff.mpr c24
                            subst c24
                            have H1 : (agateref03_Ints.l0 kj13 l0 a1 x6_3 (wrap64 (x7_1 + 1))) = some (r1, r2) := by rw [if_neg (show ¬ (false = true) by decide)] at H; exact H
                            clear H
                            have H := H1
                            clear H1
                            have H' := Aside0.mk H
                            clear H
                            go_wp2
                            go_roundg kj13
                            case measure => have := HK1.out; have := HJ5.out; have := HK3.out; have := HJ13.out; omega
                            case rel => exact ⟨(x6_3), (wrap64 (x7_1 + 1)), (by first | rfl | (simp; done) | (simp [*]; done)), H', ⟨by have := HK1.out; have := HJ5.out; have := HK3.out; have := HJ13.out; omega⟩, ⟨by (with_reducible repeat (first | apply Kd.R_alloc | apply Kd.R_drewN | apply Kd.R_drew)); exact HO_6.out⟩, ⟨by repeat (first | (with_reducible first | exact HB.out | apply below_alloc | apply pw_below_drewN | apply below_drew1 | refine below_set ?_ GE102.out) | exact HB.out)⟩⟩
          · rw [if_neg c5] at H
            have c5b0 : (((rd_T50 l0 x7_1).f0) == a1) = false := beq_eq_false_iff_ne.mpr c5
            have c5b1 : (((rd_T50 l0 x7_1).f0) != a1) = true := bne_iff_ne.mpr c5
            have H' := Aside0.mk H
            clear H
            have p101 : 0 ≤ (x7_1 : Int) := of_decide_eq_true (by first | (with_reducible assumption) | assumption)
            have q101 : x7_1 < (l0.length : Int) := of_decide_eq_true (by first | (with_reducible assumption) | assumption)
            obtain ⟨ad101, e101, hx101_0, hx101_1, hx101_2, hx101_3⟩ := at_T50 HR0.out x7_1 p101 q101
            cases e101
            replace hx101_0 := (HB.out.cell (World.block_lt_of_cell? w _ hx101_0)).trans hx101_0
            replace hx101_1 := (HB.out.cell (World.block_lt_of_cell? w _ hx101_1)).trans hx101_1
            replace hx101_2 := (HB.out.cell (World.block_lt_of_cell? w _ hx101_2)).trans hx101_2
            replace hx101_3 := (HB.out.cell (World.block_lt_of_cell? w _ hx101_3)).trans hx101_3
            replace p101 := eq_true p101
            replace q101 := eq_true q101
            go_wp2_with (first | ((with_reducible refine gate_dst (N := 8) rfl ?_); (try (refine gate_guard (by rfl) ?_; dsimp only)); refine box_event ?hg (N := 8) ?hd (cs := #[.int .i64 0, .int .i64 0, .int .u64 0, .string (⟨#[]⟩ : ByteArray)]) (t := 50) ?hr ?_; (case hd => rfl); (case hg => rfl); (case hr => first | (go_simp; done) | (go_simp; rfl)); intro gb102 hg w45 hbox hb; have n0_ := Aside0.mk (Kd.R_below (by (with_reducible repeat (first | apply Kd.R_alloc | apply Kd.R_drewN | apply Kd.R_drew)); exact HO_6.out) hb); have n1_ := Aside0.mk (below_step (by repeat (first | (with_reducible first | exact HB.out | apply below_alloc | apply pw_below_drewN | apply below_drew1) | exact HB.out)) hb); have n2_ := Aside0.mk (hbox); have n3_ := Aside0.mk ((by rw [hg]; exact (below_size (by repeat (first | (with_reducible first | exact HB.out | apply below_alloc | apply pw_below_drewN | apply below_drew1) | exact HB.out))) : w.heap.size ≤ gb102)); have n4_ := Aside0.mk ((by rw [hg]; exact (below_size (by repeat (first | (with_reducible first | exact HB.out | apply below_alloc | apply pw_below_drewN | apply below_drew1) | exact HB.out))) : w.heap.size ≤ gb102)); clear HO_6; clear HB; have HO_6 := n0_; have HB := n1_; have BK102 := n2_; have GW102 := n3_; have GE102 := n4_; clear n0_ n1_ n2_ n3_ n4_; clear hb hbox hg; have hcz46_0 : w45.cell? ⟨gb102, 0, none⟩ = some (.int .i64 0) := (blk_cell BK102.out 0).trans rfl; have hcz46_1 : w45.cell? ⟨gb102, 1, none⟩ = some (.int .i64 0) := (blk_cell BK102.out 1).trans rfl; have hcz46_2 : w45.cell? ⟨gb102, 2, none⟩ = some (.int .u64 0) := (blk_cell BK102.out 2).trans rfl; have hcz46_3 : w45.cell? ⟨gb102, 3, none⟩ = some (.string (⟨#[]⟩ : ByteArray)) := (blk_cell BK102.out 3).trans rfl; have hfz46_0 := blk_frozen BK102.out 0; have hfz46_1 := blk_frozen BK102.out 1; have hfz46_2 := blk_frozen BK102.out 2; have hfz46_3 := blk_frozen BK102.out 3))
            go_roundg k1
            case measure => have := HK1.out; omega
            case rel => exact ⟨(x6_1), (wrap64 (x7_1 + 1)), (by first | rfl | (simp; done) | (simp [*]; done)), H', ⟨by have := HK1.out; omega⟩, ⟨by (with_reducible repeat (first | apply Kd.R_alloc | apply Kd.R_drewN | apply Kd.R_drew)); exact Kd.R_mono (Kd.R_far (p := ⟨gb102, 3, none⟩) (Kd.R_far (p := ⟨gb102, 2, none⟩) (Kd.R_far (p := ⟨gb102, 1, none⟩) (Kd.R_far (p := ⟨gb102, 0, none⟩) (Kd.R_types HO_6.out BK102.out (by decide)) (fun _ hk => hk.2) (.int .i64 ((rd_T50 l0 x7_1).f0))) (fun _ hk => hk.2) (.int .i64 ((rd_T50 l0 x7_1).f1))) (fun _ hk => hk.2) (.int .u64 ((rd_T50 l0 x7_1).f2))) (fun _ hk => hk.2) (.string ((rd_T50 l0 x7_1).f3))) (fun _ hk => trivial)⟩, ⟨by repeat (first | (with_reducible first | exact HB.out | apply below_alloc | apply pw_below_drewN | apply below_drew1 | refine below_set ?_ GE102.out) | exact HB.out)⟩⟩
        · rw [if_neg c4] at H
          exact absurd H (by simp)
      · rw [if_neg c3] at H
        have c3b0 : decide (x7_1 < (l0.length : Int)) = false := decide_eq_false c3
        clear c3
        simp only [Option.some.injEq, Prod.mk.injEq] at H
        obtain ⟨rfl, rfl⟩ := H
        go_wp2
        go_ret2
        exact ⟨_, by first | rfl | (simp [errW_none, errW_some] <;> rfl) | (simp [*, errW_none, errW_some] <;> rfl), by (with_reducible repeat (first | apply Kd.R_alloc | apply Kd.R_drewN | apply Kd.R_drew)); exact HO_6.out, by repeat (first | (with_reducible first | exact HB.out | apply below_alloc | apply pw_below_drewN | apply below_drew1) | exact HB.out)⟩

end Go.Proofs.Ytohddbiedabmhaa.X
