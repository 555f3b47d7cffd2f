import Derived.Test.YtohddbiedabmhaaMPackFull0
-- by xprint.py, a program of this session, over the kit's print.py
namespace Go.Proofs.Ytohddbiedabmhaa.X
open Go.RowKit Go.Proofs.YtohddbiedabmhaaW.PrintWords Go.Proofs.YtohddbiedabmhaaW.PrintLast Go.Proofs.YtohddbiedabmhaaW.PrintMore
attribute [local go_sem] max2_int min2_int max_two min_two max_three min_three max_four min_four   -- for this text's walks alone
set_option linter.unusedVariables false
set_option linter.unusedSimpArgs false

/-! ### wire_fixed: function 50 -/
def wire_fixed.l0 : Nat → ByteArray → Int → Int → Int → Option (Int)
  | 0, _, _, _, _ => none
  | k + 1, x0, x3, x6, x7 => if x7 < x6 then (if 0 ≤ x7 then (if x7 < (x0.size : Int) then (if 0 ≤ (wrap64 (8 * x7)) then (wire_fixed.l0 k x0 (Go.bits .or .u64 x3 (shl .u64 (IntKind.u64.wrap (bt x0 x7)) (wrap64 (8 * x7)))) x6 (wrap64 (x7 + 1))) else (none)) else (none)) else (none)) else (some x3)
def wire_fixed.f (k : Nat) (a0 : ByteArray) : Option (Int) := wire_fixed.l0 k a0 0 (a0.size : Int) 0
theorem wire_fixed.mono_l : ∀ k, (∀ y0 y1 y2 y3, LeO (wire_fixed.l0 k y0 y1 y2 y3) (wire_fixed.l0 (k + 1) y0 y1 y2 y3))
  | 0 => fun _ _ _ _ r h => by simp [wire_fixed.l0] at h
  | k + 1 => by
    have ih0 := wire_fixed.mono_l k
    · intro y0 y1 y2 y3
      unfold wire_fixed.l0
      repeat' first
      | (with_reducible exact ih0 _ _ _ _)
      | (with_reducible exact LeO.refl _)
      | (with_reducible exact LeO.none _)
      | (with_reducible refine LeO.ite ?_ ?_)
      | (with_reducible refine LeO.bind ?_ (fun _ => ?_))
      | exact ih0 _ _ _ _
      | exact LeO.none _
      | refine LeO.ite ?_ ?_
      | refine LeO.bind ?_ (fun _ => ?_)
theorem wire_fixed.mono : ∀ a0 k, LeO (wire_fixed.f k a0) (wire_fixed.f (k + 1) a0) := by
  intro a0 k
  have ih0 := wire_fixed.mono_l k
  unfold wire_fixed.f
  repeat' first
      | (with_reducible exact ih0 _ _ _ _)
      | (with_reducible exact LeO.refl _)
      | (with_reducible exact LeO.none _)
      | (with_reducible refine LeO.ite ?_ ?_)
      | (with_reducible refine LeO.bind ?_ (fun _ => ?_))
      | exact ih0 _ _ _ _
      | exact LeO.none _
      | refine LeO.ite ?_ ?_
      | refine LeO.bind ?_ (fun _ => ?_)
set_option maxHeartbeats 8000000 in
set_option maxRecDepth 100000 in
theorem wire_fixed.calls (k : Nat) (a0 : ByteArray) (r : Int) (w : World) (h : wire_fixed.f k a0 = some r) :
    Calls Try.prog 50 #[.string a0] w fun e w' => e = .returned (.int .u64 r) ∧ Drawn0 w w' := by
  have H : (wire_fixed.l0 k a0 0 (a0.size : Int) 0) = some r := h
  clear h
  have H' := Aside0.mk H
  clear H
  go_enter Try.func50, Try.ntmps50
  go_wp2
  go_loopg [3, 7] k (fun kq v3 v7 w' => ∃ (x3_1 : Int) (x7_1 : Int), v3 = .int .u64 x3_1 ∧ v7 = .int .i64 x7_1 ∧ Aside0 (wire_fixed.l0 kq a0 x3_1 (a0.size : Int) x7_1 = some r) ∧ Aside0 (kq ≤ k) ∧ Drawn0 w w')
  case atStart => exact ⟨(0), (0), (by first | rfl | (simp; done) | (simp [*]; done)), (by first | rfl | (simp; done) | (simp [*]; done)), H', ⟨Nat.le_refl _⟩, by repeat (first | exact Drawn0.refl _ | apply Drawn0.step)⟩
  case round =>
    clear H'
    obtain ⟨x3_1, x7_1, rfl, rfl, HA, HK1, ⟨m1, rfl⟩⟩ := hrel
    cases gk with
    | zero => exact absurd HA.out (by simp [wire_fixed.l0])
    | succ k1 =>
      have H := HA.out
      clear HA
      simp only [wire_fixed.l0] at H
      by_cases c2 : x7_1 < (a0.size : Int)
      · rw [if_pos c2] at H
        have c2b0 : decide (x7_1 < (a0.size : Int)) = true := decide_eq_true c2
        clear c2
        by_cases c3 : 0 ≤ x7_1
        · rw [if_pos c3] at H
          have c3b0 : decide (0 ≤ x7_1) = true := decide_eq_true c3
          clear c3
          by_cases c4 : x7_1 < (a0.size : Int)
          · rw [if_pos c4] at H
            have c4b0 : decide (x7_1 < (a0.size : Int)) = true := decide_eq_true c4
            clear c4
            obtain ⟨ji6, hji6⟩ : ∃ j_ : Int, (wrap64 (8 * x7_1)) = j_ := ⟨_, rfl⟩
            replace H : (if 0 ≤ (ji6) then (wire_fixed.l0 k1 a0 (Go.bits .or .u64 x3_1 (shl .u64 (IntKind.u64.wrap (bt a0 x7_1)) (ji6))) (a0.size : Int) (wrap64 (x7_1 + 1))) else (none)) = some r := by first | (rw [hji6] at H; exact H) | (simp only [hji6] at H ⊢; exact H)
            have hji6w : (IntKind.i64.wrap (8 * x7_1)) = ji6 := (i64_w _).trans hji6
            by_cases c7 : 0 ≤ (ji6)
            · rw [if_pos c7] at H
              have c7b0 := eq_true c7
              have c7b1 : decide (0 ≤ (ji6)) = true := decide_eq_true c7
              clear c7
              obtain ⟨ji8, hji8⟩ : ∃ j_ : Int, (shl .u64 (IntKind.u64.wrap (bt a0 x7_1)) (ji6)) = j_ := ⟨_, rfl⟩
              replace H : (wire_fixed.l0 k1 a0 (Go.bits .or .u64 x3_1 (ji8)) (a0.size : Int) (wrap64 (x7_1 + 1))) = some r := by first | (rw [hji8] at H; exact H) | (simp only [hji8] at H ⊢; exact H)
              have hji8_ : (IntKind.u64.wrap ((IntKind.u64.wrap (bt a0 x7_1)) * 2 ^ min (ji6).toNat 64)) = ji8 := hji8
              have hji8z : (ji6) ≤ 64 → (IntKind.u64.wrap ((IntKind.u64.wrap (bt a0 x7_1)) * 2 ^ (ji6).toNat)) = ji8 := shl_small hji8
              have H' := Aside0.mk H
              clear H
              have p5 : 0 ≤ (x7_1 : Int) := of_decide_eq_true (by first | (with_reducible assumption) | assumption)
              have q5 : x7_1 < (a0.size : Int) := of_decide_eq_true (by first | (with_reducible assumption) | assumption)
              have hx5 := bt_at a0 x7_1
              replace p5 := eq_true p5
              replace q5 := eq_true q5
              go_wp2
              go_roundg k1
              case measure => have := HK1.out; omega
              case rel => exact ⟨(Go.bits .or .u64 x3_1 (ji8)), (wrap64 (x7_1 + 1)), (by first | rfl | (simp; done) | (simp only [← hji8] <;> (first | rfl | simp)) | (simp [*]; done)), (by first | rfl | (simp; done) | (simp [*]; done)), H', ⟨by have := HK1.out; omega⟩, by repeat (first | exact Drawn0.refl _ | apply Drawn0.step)⟩
            · rw [if_neg c7] at H
              exact absurd H (by simp)
          · rw [if_neg c4] at H
            exact absurd H (by simp)
        · rw [if_neg c3] at H
          exact absurd H (by simp)
      · rw [if_neg c2] at H
        have c2b0 : decide (x7_1 < (a0.size : Int)) = false := decide_eq_false c2
        clear c2
        obtain rfl := Option.some.inj H
        go_wp2
        go_ret
        exact ⟨by first | rfl | (simp; done) | (simp [*]; done), by repeat (first | exact Drawn0.refl _ | apply Drawn0.step)⟩

end Go.Proofs.Ytohddbiedabmhaa.X
-- by xprint.py, a program of this session, over the kit's print.py
namespace Go.Proofs.Ytohddbiedabmhaa.X
open Go.RowKit Go.Proofs.YtohddbiedabmhaaW.PrintWords Go.Proofs.YtohddbiedabmhaaW.PrintLast Go.Proofs.YtohddbiedabmhaaW.PrintMore
attribute [local go_sem] max2_int min2_int max_two min_two max_three min_three max_four min_four   -- for this text's walks alone
set_option linter.unusedVariables false
set_option linter.unusedSimpArgs false

theorem vPut_bound (v : Nat) : ∀ c ∈ vPut v, c < 256 := by
  induction v using Nat.strongRecOn with
  | _ v ih =>
    by_cases h : v < 128
    · rw [vPut_lt h]; intro c hc; simp at hc; omega
    · rw [vPut_ge h]; intro c hc
      rcases List.mem_cons.1 hc with rfl | hc
      · omega
      · exact ih _ (by omega) c hc
theorem ns_strOfNums (l : List Nat) (h : ∀ c ∈ l, c < 256) : ns (strOfNums (l.map Int.ofNat)) = l := by
  unfold ns strOfNums
  simp only [List.map_map]
  refine (List.map_congr_left (g := id) ?_).trans (List.map_id _)
  intro c hc
  have := h c hc
  simp [UInt8.toNat_ofNat']
  omega
theorem ns_vStr (v : Nat) : ns (vStr v) = vPut v := ns_strOfNums _ (vPut_bound v)
theorem ns_append (a b : ByteArray) : ns (a ++ b) = ns a ++ ns b := by
  simp [ns, ByteArray.data_append]
theorem ns_inj {a b : ByteArray} (h : ns a = ns b) : a = b := by
  have : a.data.toList = b.data.toList := by
    unfold ns at h
    exact (List.map_inj_right (fun x y e => UInt8.toNat_inj.1 e)).1 h
  cases a; cases b; simp_all
theorem ns_extract (s : ByteArray) (i j : Nat) : ns (s.extract i j) = ((ns s).drop i).take (j - i) := by
  simp [ns, ByteArray.data_extract, List.map_drop, List.map_take, Array.toList_extract, List.extract_eq_take_drop]
theorem vStr_size (v : Nat) : (vStr v).size = vSize v := by rw [← ns_length, ns_vStr, vPut_length]
theorem readS_put (v : Nat) : ∀ (l : List Nat) (n u : Nat), n ≤ 9 → v * 128 ^ n < 18446744073709551616 → readS (vPut v ++ l) n u = (u + v * 128 ^ n, n + vSize v, 0) := by
  induction v using Nat.strongRecOn with
  | _ v ih =>
    intro l n u hn hv
    by_cases h : v < 128
    · rw [vPut_lt h, vSize_lt h, List.singleton_append, readS_cons, if_pos h]
      intro h9; subst h9; omega
    · have hn9 : n < 9 := by
        rcases Nat.lt_or_ge n 9 with h9 | h9
        · exact h9
        · obtain rfl : n = 9 := by omega
          omega
      rw [vPut_ge h, vSize_ge h, List.cons_append, readS_cons (by omega), if_neg (by omega), show (v % 128 + 128) % 128 = v % 128 by omega]
      have hp : 128 ^ (n + 1) = 128 * 128 ^ n := by rw [Nat.pow_succ, Nat.mul_comm]
      have hm : v / 128 * 128 ^ (n + 1) + v % 128 * 128 ^ n = v * 128 ^ n := by
        rw [hp, ← Nat.mul_assoc, ← Nat.add_mul]; congr 1; omega
      rw [ih (v / 128) (by omega) l (n + 1) _ (by omega) (by omega)]
      rw [show u + v % 128 * 128 ^ n + v / 128 * 128 ^ (n + 1) = u + v * 128 ^ n by omega, show n + 1 + vSize (v / 128) = n + (vSize (v / 128) + 1) by omega]
theorem vRead_put (v : Nat) (hv : v < 18446744073709551616) (b : ByteArray) : vRead (vStr v ++ b) = (v, vSize v, 0) := by
  unfold vRead
  rw [ns_append, ns_vStr, readS_put v _ 0 0 (by omega) (by simpa using hv)]
  simp

theorem readS_aux8 (c m : Nat) (h : m * 9223372036854775808 < 18446744073709551616) : c % 128 * 72057594037927936 + m * 9223372036854775808 < 18446744073709551616 := by
  have hc : c % 128 * 72057594037927936 ≤ 127 * 72057594037927936 := Nat.mul_le_mul_right _ (by omega)
  have hm : m ≤ 1 := by
    rcases Nat.lt_or_ge m 2 with h2 | h2
    · omega
    · exact absurd (Nat.mul_le_mul_right 9223372036854775808 h2) (Nat.not_le.2 h)
  have hm2 : m * 9223372036854775808 ≤ 1 * 9223372036854775808 := Nat.mul_le_mul_right _ hm
  exact Nat.lt_of_le_of_lt (Nat.add_le_add hc hm2) (by decide)
theorem readS_aux9 {c : Nat} (h9 : ¬ (9 = 9 ∧ 1 < c)) (hc : ¬ c < 128) : False := by omega
theorem readS_ok : ∀ (l : List Nat) (n u y k : Nat), n ≤ 9 → (∀ c ∈ l, c < 256) → readS l n u = (y, k, 0) →
    ∃ m, y = u + m * 128 ^ n ∧ n + vSize m ≤ k ∧ k ≤ n + l.length ∧ k ≤ 10 ∧ m * 128 ^ n < 18446744073709551616 ∧ (n + vSize m = k → l.take (k - n) = vPut m) := by
  intro l
  induction l with
  | nil => intro n u y k _ _ h; simp [readS] at h
  | cons c l ih =>
    intro n u y k hn hb h
    by_cases h9 : n = 9 ∧ 1 < c
    · rw [readS, if_pos h9] at h; simp at h
    · rw [readS_cons (by omega)] at h
      have hp : 128 ^ (n + 1) = 128 * 128 ^ n := by rw [Nat.pow_succ, Nat.mul_comm]
      by_cases hc : c < 128
      · rw [if_pos hc] at h
        simp only [Prod.mk.injEq] at h
        obtain ⟨rfl, rfl, -⟩ := h
        refine ⟨c, rfl, by rw [vSize_lt hc]; omega, by simp, by omega, ?_, ?_⟩
        · rcases Nat.lt_or_ge n 9 with h | h
          · have h1 : 128 ^ n ≤ 128 ^ 8 := Nat.pow_le_pow_right (by decide) (by omega)
            have h2 : c * 128 ^ n ≤ 127 * 128 ^ 8 := Nat.mul_le_mul (by omega) h1
            omega
          · obtain rfl : n = 9 := by omega
            have h2 : c * 128 ^ 9 ≤ 1 * 128 ^ 9 := Nat.mul_le_mul_right _ (by omega)
            omega
        · intro _
          rw [vPut_lt hc, show n + 1 - n = 1 by omega]; rfl
      · rw [if_neg hc] at h
        have hb' := hb c (List.mem_cons_self ..)
        obtain ⟨m, h1, h2, h3, h4, h5, h6⟩ := ih (n + 1) _ y k (by omega) (fun x hx => hb x (List.mem_cons_of_mem _ hx)) h
        have hpos := vSize_pos m
        have hm : (c % 128 + 128 * m) * 128 ^ n = c % 128 * 128 ^ n + m * 128 ^ (n + 1) := by
          rw [hp, Nat.add_mul, Nat.mul_comm 128 m, Nat.mul_assoc]
        refine ⟨c % 128 + 128 * m, by rw [hm]; omega, ?_, by simp; omega, h4, ?_, ?_⟩
        · by_cases hs : c % 128 + 128 * m < 128
          · rw [vSize_lt hs]; omega
          · rw [vSize_ge hs, show (c % 128 + 128 * m) / 128 = m by omega]; omega
        · rw [hm]
          rcases Nat.lt_or_ge n 8 with h8 | h8
          · have : n + 1 ≤ 8 := h8
            have hx : m * 128 ^ (n + 1) < 18446744073709551616 := h5
            have ha : c % 128 * 128 ^ n ≤ 127 * 128 ^ n := Nat.mul_le_mul_right _ (by omega)
            rw [hp] at hx ⊢
            have hq : 18446744073709551616 = 128 * 128 ^ n * (18446744073709551616 / (128 * 128 ^ n)) := by
              obtain rfl | rfl | rfl | rfl | rfl | rfl | rfl | rfl : n = 0 ∨ n = 1 ∨ n = 2 ∨ n = 3 ∨ n = 4 ∨ n = 5 ∨ n = 6 ∨ n = 7 := by omega
              all_goals decide
            generalize 18446744073709551616 / (128 * 128 ^ n) = z at hq
            generalize 128 ^ n = p at *
            have : m < z := by
              rcases Nat.lt_or_ge m z with h | h
              · exact h
              · have : 128 * p * z ≤ 128 * p * m := Nat.mul_le_mul_left _ h
                rw [Nat.mul_comm m] at hx
                omega
            have hz : (m + 1) * (128 * p) ≤ z * (128 * p) := Nat.mul_le_mul_right _ this
            rw [Nat.add_mul, Nat.one_mul] at hz
            rw [Nat.mul_comm z] at hz
            omega
          · clear h6 h ih
            have h8' : n = 8 ∨ n = 9 := by omega
            rcases h8' with rfl | rfl
            · exact readS_aux8 c m h5
            · exact (readS_aux9 h9 hc).elim
        · intro hk
          have hs : ¬ c % 128 + 128 * m < 128 := by
            intro hs
            rw [vSize_lt hs] at hk
            omega
          rw [vSize_ge hs, show (c % 128 + 128 * m) / 128 = m by omega] at hk
          rw [vPut_ge hs, show (c % 128 + 128 * m) / 128 = m by omega, show k - n = (k - (n + 1)) + 1 by omega, List.take_succ_cons, h6 (by omega)]
          congr 1; omega
theorem vRead_ok (b : ByteArray) (y k : Nat) (h : vRead b = (y, k, 0)) : y < 18446744073709551616 ∧ vSize y ≤ k ∧ k ≤ b.size ∧ k ≤ 10 ∧ (vSize y = k → b.extract 0 k = vStr y) := by
  obtain ⟨m, h1, h2, h3, h4, h5, h6⟩ := readS_ok (ns b) 0 0 y k (by omega) (ns_lt b) h
  simp only [Nat.pow_zero, Nat.mul_one, Nat.zero_add] at *
  subst h1
  refine ⟨h5, h2, by rw [← ns_length]; exact h3, h4, fun e => ns_inj ?_⟩
  rw [ns_extract, ns_vStr]
  simpa using h6 e

end Go.Proofs.Ytohddbiedabmhaa.X
-- by xprint.py, a program of this session, over the kit's print.py
namespace Go.Proofs.Ytohddbiedabmhaa.X
open Go.RowKit Go.Proofs.YtohddbiedabmhaaW.PrintWords Go.Proofs.YtohddbiedabmhaaW.PrintLast Go.Proofs.YtohddbiedabmhaaW.PrintMore
attribute [local go_sem] max2_int min2_int max_two min_two max_three min_three max_four min_four   -- for this text's walks alone
set_option linter.unusedVariables false
set_option linter.unusedSimpArgs false

/-! Fields of a message: plain Lean -/
abbrev Fl := Int × Int × Int × ByteArray
def flP (x : S47) : Fl := (x.f0, x.f1, x.f2, x.f3)
def flR (x : S50) : Fl := (x.f0, x.f1, x.f2, x.f3)
def toP (x : Fl) : S47 := ⟨x.1, x.2.1, x.2.2.1, x.2.2.2⟩
def toR (x : Fl) : S50 := ⟨x.1, x.2.1, x.2.2.1, x.2.2.2⟩
theorem flP_toP (x : Fl) : flP (toP x) = x := rfl
theorem flR_toR (x : Fl) : flR (toR x) = x := rfl
theorem toP_flP (x : S47) : toP (flP x) = x := rfl
theorem toR_flR (x : S50) : toR (flR x) = x := rfl
theorem map_flP_toP (l : List Fl) : (l.map toP).map flP = l := by simp [flP_toP, Function.comp_def]
theorem map_flR_toR (l : List Fl) : (l.map toR).map flR = l := by simp [flR_toR, Function.comp_def]
/-- the number of bytes, the lowest first -/
def lowS : List Nat → Nat
  | [] => 0
  | c :: l => c + 256 * lowS l
theorem lowS_lt (l : List Nat) (h : ∀ c ∈ l, c < 256) : lowS l < 256 ^ l.length := by
  induction l with
  | nil => simp [lowS]
  | cons c l ih =>
    have h1 := ih (fun x hx => h x (List.mem_cons_of_mem _ hx))
    have h2 := h c (List.mem_cons_self ..)
    simp only [lowS, List.length_cons, Nat.pow_succ]
    omega
theorem lowS_snoc (l : List Nat) (c : Nat) : lowS (l ++ [c]) = lowS l + c * 256 ^ l.length := by
  induction l with
  | nil => simp [lowS]
  | cons d l ih =>
    simp only [List.cons_append, lowS, ih, List.length_cons, Nat.pow_succ]
    rw [Nat.mul_add, Nat.add_assoc, Nat.mul_comm (256 ^ l.length) 256, ← Nat.mul_assoc c, Nat.mul_comm c 256, Nat.mul_assoc]
/-- so many bytes of a number, the lowest first -/
def laidS (v n : Nat) : List Nat := (List.range n).map fun i => v / 256 ^ i % 256
theorem laidS_succ (v n : Nat) : laidS v (n + 1) = laidS v n ++ [v / 256 ^ n % 256] := by simp [laidS, List.range_succ]
theorem laidS_bound (v n : Nat) : ∀ c ∈ laidS v n, c < 256 := by
  intro c hc
  simp only [laidS, List.mem_map] at hc
  obtain ⟨i, _, rfl⟩ := hc
  exact Nat.mod_lt _ (by decide)
theorem laidS_length (v n : Nat) : (laidS v n).length = n := by simp [laidS]
theorem lowS_laidS (v n : Nat) : lowS (laidS v n) = v % 256 ^ n := by
  induction n with
  | zero => simp [laidS, lowS, Nat.mod_one]
  | succ n ih =>
    rw [laidS_succ, lowS_snoc, ih, laidS_length, Nat.pow_succ, Nat.mod_mul, Nat.mul_comm]
def laidStr (v n : Nat) : ByteArray := strOfNums ((laidS v n).map Int.ofNat)
theorem ns_laidStr (v n : Nat) : ns (laidStr v n) = laidS v n := ns_strOfNums _ (laidS_bound v n)
theorem laidStr_size (v n : Nat) : (laidStr v n).size = n := by rw [← ns_length, ns_laidStr, laidS_length]
theorem strOfNums_append (a b : List Int) : strOfNums (a ++ b) = strOfNums a ++ strOfNums b := by
  simp [strOfNums, ByteArray.append_eq, ByteArray.append, ByteArray.ext_iff, ByteArray.data_append]
/-- one field's writing -/
def bytesS (num ty n : Int) (d : ByteArray) : ByteArray :=
  if 1 ≤ num ∧ num ≤ 536870911 ∧ (ty = 0 ∨ ty = 1 ∨ ty = 2 ∨ ty = 5) then
    if ty = 0 then vStr (8 * num + ty).toNat ++ vStr n.toNat
    else if ty = 2 then vStr (8 * num + ty).toNat ++ vStr d.size ++ d
    else if ty = 1 then vStr (8 * num + ty).toNat ++ laidStr n.toNat 8
    else if n > 4294967295 then ⟨#[]⟩ else vStr (8 * num + ty).toNat ++ laidStr n.toNat 4
  else ⟨#[]⟩
/-- the field with which a text begins: the field, its bytes, the code -/
def oneS (b : ByteArray) : Fl × Nat × Nat :=
  if (vRead b).2.2 ≠ 0 then ((0, 0, 0, ⟨#[]⟩), 0, (vRead b).2.2)
  else if ¬ (1 ≤ (vRead b).1 / 8 ∧ (vRead b).1 / 8 ≤ 536870911 ∧ ((vRead b).1 % 8 = 0 ∨ (vRead b).1 % 8 = 1 ∨ (vRead b).1 % 8 = 2 ∨ (vRead b).1 % 8 = 5)) then ((0, 0, 0, ⟨#[]⟩), 0, 3)
  else if (vRead b).1 % 8 = 0 ∨ (vRead b).1 % 8 = 2 then
    let q := vRead (b.extract (vRead b).2.1 b.size)
    if q.2.2 ≠ 0 then ((0, 0, 0, ⟨#[]⟩), 0, q.2.2)
    else if (vRead b).1 % 8 = 0 then (((vRead b).1 / 8, 0, q.1, ⟨#[]⟩), (vRead b).2.1 + q.2.1, 0)
    else if b.size - ((vRead b).2.1 + q.2.1) < q.1 then ((0, 0, 0, ⟨#[]⟩), 0, 1)
    else (((vRead b).1 / 8, 2, 0, b.extract ((vRead b).2.1 + q.2.1) ((vRead b).2.1 + q.2.1 + q.1)), (vRead b).2.1 + q.2.1 + q.1, 0)
  else
    let size := if (vRead b).1 % 8 = 5 then 4 else 8
    if b.size - (vRead b).2.1 < size then ((0, 0, 0, ⟨#[]⟩), 0, 1)
    else (((vRead b).1 / 8, ((vRead b).1 % 8 : Nat), (lowS (ns (b.extract (vRead b).2.1 ((vRead b).2.1 + size))) : Nat), ⟨#[]⟩), (vRead b).2.1 + size, 0)
/-- a message's fields, with so many rounds -/
def fieldsF : Nat → ByteArray → List Fl × Nat
  | 0, _ => ([], 0)
  | k + 1, b => if b.size = 0 then ([], 0) else if (oneS b).2.2 ≠ 0 then ([], (oneS b).2.2)
    else if (fieldsF k (b.extract (oneS b).2.1 b.size)).2 ≠ 0 then ([], (fieldsF k (b.extract (oneS b).2.1 b.size)).2)
    else ((oneS b).1 :: (fieldsF k (b.extract (oneS b).2.1 b.size)).1, 0)
def fieldsS (b : ByteArray) : List Fl × Nat := if b.size > 1048576 then ([], 2) else fieldsF b.size b
theorem vRead_pos (b : ByteArray) (h : (vRead b).2.2 = 0) : 1 ≤ (vRead b).2.1 ∧ (vRead b).2.1 ≤ b.size ∧ (vRead b).2.1 ≤ 10 ∧ (vRead b).1 < 18446744073709551616 := by
  obtain ⟨⟨y, n, e⟩, hr⟩ : ∃ x, vRead b = x := ⟨_, rfl⟩
  rw [hr] at h ⊢
  simp only at h ⊢
  subst h
  obtain ⟨h1, h2, h3, h4, _⟩ := vRead_ok b y n hr
  have := vSize_pos y
  omega
theorem extract_size' (b : ByteArray) (i : Nat) (h : i ≤ b.size) : (b.extract i b.size).size = b.size - i := by
  rw [ByteArray.size_extract]; omega
theorem extract_extract' (b : ByteArray) (i k l : Nat) (hl : i + l ≤ b.size) : (b.extract i b.size).extract k l = b.extract (i + k) (i + l) := by
  rw [ByteArray.extract_extract, Nat.min_eq_left hl]
theorem extract_self (b : ByteArray) : b.extract 0 b.size = b := ns_inj (by rw [ns_extract, List.drop_zero, Nat.sub_zero, ← ns_length, List.take_length])
theorem oneS_pos (b : ByteArray) (h : (oneS b).2.2 = 0) : 1 ≤ (oneS b).2.1 ∧ (oneS b).2.1 ≤ b.size := by
  unfold oneS at h ⊢
  split at h
  · rename_i h1; exact absurd h h1
  · rename_i h1
    have g := vRead_pos b (by simpa using h1)
    rw [if_neg h1]
    split at h
    · simp at h
    · rename_i h2
      rw [if_neg h2]
      split at h
      · rename_i h3
        rw [if_pos h3]
        simp only at h ⊢
        split at h
        · rename_i h4; exact absurd h h4
        · rename_i h4
          have g2 := vRead_pos (b.extract (vRead b).2.1 b.size) (by simpa using h4)
          rw [extract_size' _ _ (by omega)] at g2
          rw [if_neg h4]
          split
          · simp only; omega
          · rename_i h5
            rw [if_neg h5] at h
            split at h
            · simp at h
            · rename_i h6; rw [if_neg h6]; simp only; omega
      · rename_i h3
        rw [if_neg h3]
        obtain ⟨size, hsz⟩ : ∃ s, (if (vRead b).1 % 8 = 5 then 4 else 8) = s := ⟨_, rfl⟩
        have hs4 : 4 ≤ size := by rw [← hsz]; split <;> omega
        simp only [hsz] at h ⊢
        split at h
        · simp at h
        · rename_i h4; rw [if_neg h4]; simp only; omega
theorem fieldsF_fuel (d : Nat) : ∀ (k : Nat) (b : ByteArray), b.size ≤ d → d ≤ k → fieldsF k b = fieldsF d b := by
  induction d with
  | zero =>
    intro k b hb hk
    cases k with
    | zero => rfl
    | succ k => have h0 : b.size = 0 := by omega
                simp [fieldsF, h0]
  | succ d ih =>
    intro k b hb hk
    obtain ⟨k, rfl⟩ : ∃ m, k = m + 1 := ⟨k - 1, by omega⟩
    rw [fieldsF, fieldsF]
    by_cases h0 : b.size = 0
    · rw [if_pos h0, if_pos h0]
    · rw [if_neg h0, if_neg h0]
      by_cases h1 : (oneS b).2.2 ≠ 0
      · rw [if_pos h1, if_pos h1]
      · have g := oneS_pos b (by simpa using h1)
        rw [if_neg h1, if_neg h1, ih k (b.extract (oneS b).2.1 b.size) (by rw [extract_size' _ _ g.2]; omega) (by omega)]
theorem fieldsF_length (k : Nat) : ∀ b, (fieldsF k b).1.length ≤ k := by
  induction k with
  | zero => intro b; simp [fieldsF]
  | succ k ih =>
    intro b
    have := ih (b.extract (oneS b).2.1 b.size)
    rw [fieldsF]
    repeat' split
    all_goals simp_all
theorem wrap64_id {x : Int} (h0 : -9223372036854775808 ≤ x) (h1 : x < 9223372036854775808) : wrap64 x = x := by unfold wrap64; omega
theorem u64_id {x : Int} (h0 : 0 ≤ x) (h1 : x < 18446744073709551616) : IntKind.u64.wrap x = x := by rw [u64_wrap]; omega
theorem fieldsF_nil (k : Nat) (b : ByteArray) (h : (fieldsF k b).2 ≠ 0) : (fieldsF k b).1 = [] := by
  cases k with
  | zero => rfl
  | succ k =>
    rw [fieldsF] at h ⊢
    by_cases h0 : b.size = 0
    · rw [if_pos h0]
    · rw [if_neg h0] at h ⊢
      by_cases h1 : (oneS b).2.2 ≠ 0
      · rw [if_pos h1]
      · rw [if_neg h1] at h ⊢
        by_cases h2 : (fieldsF k (b.extract (oneS b).2.1 b.size)).2 ≠ 0
        · rw [if_pos h2]
        · rw [if_neg h2] at h; exact absurd rfl h
theorem toList_nil {b : ByteArray} : b.toList = [] ↔ b.size = 0 := by
  rw [ByteArray.toList_eq]
  constructor
  · intro h; have := congrArg List.length h; simpa using this
  · intro h; exact List.eq_nil_of_length_eq_zero (by simpa using h)
theorem toList_inj {a b : ByteArray} : a.toList = b.toList ↔ a = b := by
  rw [ByteArray.toList_eq, ByteArray.toList_eq]
  constructor
  · intro h; cases a; cases b; simp_all
  · intro h; rw [h]

end Go.Proofs.Ytohddbiedabmhaa.X
