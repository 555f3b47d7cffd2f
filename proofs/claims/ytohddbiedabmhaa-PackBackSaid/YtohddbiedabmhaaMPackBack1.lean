import Derived.Test.YtohddbiedabmhaaMPackBack0
-- by xprint.py, a program of this session, over the kit's print.py
namespace Go.Proofs.Ytohddbiedabmhaa.X
open Go.RowKit Go.Proofs.YtohddbiedabmhaaW.PrintWords Go.Proofs.YtohddbiedabmhaaW.PrintLast Go.Proofs.YtohddbiedabmhaaW.PrintMore
attribute [local go_sem] max2_int min2_int max_two min_two max_three min_three max_four min_four   -- for this text's walks alone
set_option linter.unusedVariables false
set_option linter.unusedSimpArgs false

/-! ### wire_may: function 45 -/
def wire_may.f (a0 : Int) (a1 : Int) : Option (Bool) := if a0 ≥ 1 then (if a0 ≤ 536870911 then (if a1 = 0 then (some true) else (if a1 = 1 then (some true) else (if a1 = 2 then (some true) else (some (a1 == 5))))) else (some false)) else (some false)
set_option maxHeartbeats 8000000 in
set_option maxRecDepth 100000 in
theorem wire_may.calls (a0 : Int) (a1 : Int) (r : Bool) (w : World) (h : wire_may.f a0 a1 = some r) :
    Calls Try.prog 45 #[.int .u64 a0, .int .u64 a1] w fun e w' => e = .returned (.bool r) ∧ Drawn0 w w' := by
  have H : (if a0 ≥ 1 then (if a0 ≤ 536870911 then (if a1 = 0 then (some true) else (if a1 = 1 then (some true) else (if a1 = 2 then (some true) else (some (a1 == 5))))) else (some false)) else (some false)) = some r := h
  clear h
  by_cases c3 : a0 ≥ 1
  · rw [if_pos c3] at H
    have c3b0 : decide (1 ≤ a0) = true := decide_eq_true c3
    clear c3
    by_cases c4 : a0 ≤ 536870911
    · rw [if_pos c4] at H
      have c4b0 : decide (a0 ≤ 536870911) = true := decide_eq_true c4
      clear c4
      by_cases c5 : a1 = 0
      · rw [if_pos c5] at H
        have c5b0 : (a1 == 0) = true := beq_iff_eq.mpr c5
        have c5b1 : (a1 != 0) = false := bne_eq_false_iff_eq.mpr c5
        clear c5
        obtain rfl := Option.some.inj H
        go_enter Try.func45, Try.ntmps45
        go_wp2
        go_ret
        exact ⟨by first | rfl | (simp; done) | (simp [*]; done), by repeat (first | exact Drawn0.refl _ | apply Drawn0.step)⟩
      · rw [if_neg c5] at H
        have c5b0 : (a1 == 0) = false := beq_eq_false_iff_ne.mpr c5
        have c5b1 : (a1 != 0) = true := bne_iff_ne.mpr c5
        by_cases c6 : a1 = 1
        · rw [if_pos c6] at H
          have c6b0 : (a1 == 1) = true := beq_iff_eq.mpr c6
          have c6b1 : (a1 != 1) = false := bne_eq_false_iff_eq.mpr c6
          clear c6
          obtain rfl := Option.some.inj H
          go_enter Try.func45, Try.ntmps45
          go_wp2
          go_ret
          exact ⟨by first | rfl | (simp; done) | (simp [*]; done), by repeat (first | exact Drawn0.refl _ | apply Drawn0.step)⟩
        · rw [if_neg c6] at H
          have c6b0 : (a1 == 1) = false := beq_eq_false_iff_ne.mpr c6
          have c6b1 : (a1 != 1) = true := bne_iff_ne.mpr c6
          by_cases c7 : a1 = 2
          · rw [if_pos c7] at H
            have c7b0 : (a1 == 2) = true := beq_iff_eq.mpr c7
            have c7b1 : (a1 != 2) = false := bne_eq_false_iff_eq.mpr c7
            clear c7
            obtain rfl := Option.some.inj H
            go_enter Try.func45, Try.ntmps45
            go_wp2
            go_ret
            exact ⟨by first | rfl | (simp; done) | (simp [*]; done), by repeat (first | exact Drawn0.refl _ | apply Drawn0.step)⟩
          · rw [if_neg c7] at H
            have c7b0 : (a1 == 2) = false := beq_eq_false_iff_ne.mpr c7
            have c7b1 : (a1 != 2) = true := bne_iff_ne.mpr c7
            obtain rfl := Option.some.inj H
            go_enter Try.func45, Try.ntmps45
            go_wp2
            go_ret
            exact ⟨by first | rfl | (simp; done) | (simp [*]; done), by repeat (first | exact Drawn0.refl _ | apply Drawn0.step)⟩
    · rw [if_neg c4] at H
      have c4b0 : decide (a0 ≤ 536870911) = false := decide_eq_false c4
      clear c4
      obtain rfl := Option.some.inj H
      go_enter Try.func45, Try.ntmps45
      go_wp2
      go_ret
      exact ⟨by first | rfl | (simp; done) | (simp [*]; done), by repeat (first | exact Drawn0.refl _ | apply Drawn0.step)⟩
  · rw [if_neg c3] at H
    have c3b0 : decide (1 ≤ a0) = false := decide_eq_false c3
    clear c3
    obtain rfl := Option.some.inj H
    go_enter Try.func45, Try.ntmps45
    go_wp2
    go_ret
    exact ⟨by first | rfl | (simp; done) | (simp [*]; done), by repeat (first | exact Drawn0.refl _ | apply Drawn0.step)⟩

end Go.Proofs.Ytohddbiedabmhaa.X
-- by xprint.py, a program of this session, over the kit's print.py
namespace Go.Proofs.Ytohddbiedabmhaa.X
open Go.RowKit Go.Proofs.YtohddbiedabmhaaW.PrintWords Go.Proofs.YtohddbiedabmhaaW.PrintLast Go.Proofs.YtohddbiedabmhaaW.PrintMore
attribute [local go_sem] max2_int min2_int max_two min_two max_three min_three max_four min_four   -- for this text's walks alone
set_option linter.unusedVariables false
set_option linter.unusedSimpArgs false

/-! ### wire_laid: function 46 -/
def wire_laid.l0 : Nat → Int → List Int → Int → Int → Option (ByteArray)
  | 0, _, _, _, _ => none
  | k + 1, x0, x5, x7, x8 => if x8 < x7 then (if 0 ≤ (wrap64 (8 * x8)) then (if x5.length < 140737488355328 then (wire_laid.l0 k x0 (x5 ++ [(shr .u64 x0 (wrap64 (8 * x8))) % 256]) x7 (wrap64 (x8 + 1))) else (none)) else (none)) else (some (strOfNums x5))
def wire_laid.f (k : Nat) (a0 : Int) (a1 : Int) : Option (ByteArray) := wire_laid.l0 k a0 ([] : List Int) a1 0
theorem wire_laid.mono_l : ∀ k, (∀ y0 y1 y2 y3, LeO (wire_laid.l0 k y0 y1 y2 y3) (wire_laid.l0 (k + 1) y0 y1 y2 y3))
  | 0 => fun _ _ _ _ r h => by simp [wire_laid.l0] at h
  | k + 1 => by
    have ih0 := wire_laid.mono_l k
    · intro y0 y1 y2 y3
      unfold wire_laid.l0
      repeat' first
      | (with_reducible exact ih0 _ _ _ _)
      | (with_reducible exact LeO.refl _)
      | (with_reducible exact LeO.none _)
      | (with_reducible refine LeO.ite ?_ ?_)
      | (with_reducible refine LeO.bind ?_ (fun _ => ?_))
      | exact ih0 _ _ _ _
      | exact LeO.none _
      | refine LeO.ite ?_ ?_
      | refine LeO.bind ?_ (fun _ => ?_)
theorem wire_laid.mono : ∀ a0 a1 k, LeO (wire_laid.f k a0 a1) (wire_laid.f (k + 1) a0 a1) := by
  intro a0 a1 k
  have ih0 := wire_laid.mono_l k
  unfold wire_laid.f
  repeat' first
      | (with_reducible exact ih0 _ _ _ _)
      | (with_reducible exact LeO.refl _)
      | (with_reducible exact LeO.none _)
      | (with_reducible refine LeO.ite ?_ ?_)
      | (with_reducible refine LeO.bind ?_ (fun _ => ?_))
      | exact ih0 _ _ _ _
      | exact LeO.none _
      | refine LeO.ite ?_ ?_
      | refine LeO.bind ?_ (fun _ => ?_)
set_option maxHeartbeats 8000000 in
set_option maxRecDepth 100000 in
theorem wire_laid.calls (k : Nat) (a0 : Int) (a1 : Int) (r : ByteArray) (w : World) (h : wire_laid.f k a0 a1 = some r) :
    Calls Try.prog 46 #[.int .u64 a0, .int .i64 a1] w fun e w' => e = .returned (.string r) ∧ Below w.heap.size w w' := by
  have HB := Aside0.mk (Below.refl w.heap.size w)
  have H : (wire_laid.l0 k a0 ([] : List Int) a1 0) = some r := h
  clear h
  have H' := Aside0.mk H
  clear H
  go_enter Try.func46, Try.ntmps46
  go_wp2
  go_loopg [5, 8] k (fun kq v5 v8 w' => ∃ (x5_1 : List Int) (x8_1 : Int), v8 = .int .i64 x8_1 ∧ Aside0 (wire_laid.l0 kq a0 x5_1 a1 x8_1 = some r) ∧ Aside0 (kq ≤ k) ∧ Aside0 (Kd.R (Kd.int .u8) 5 w' w.heap.size (fun _ => True) v5 x5_1) ∧ Aside0 (Below w.heap.size w w'))
  case atStart => exact ⟨(([] : List Int)), (0), (by first | rfl | (simp; done) | (simp [*]; done)), H', ⟨Nat.le_refl _⟩, ⟨by first | exact Kd.R_nil _ _ _ _ _ | exact Kd.N_nil _ _ _ _ _ | exact Kd.V_nil _ _ _ _ _ | exact Kd.Q_nil _ _ _ _ _ | exact Kd.S_nil _ _ _ _ _⟩, ⟨by repeat (first | (with_reducible first | exact HB.out | apply below_alloc | apply pw_below_drewN | apply below_drew1) | exact HB.out)⟩⟩
  case round =>
    clear H'
    try clear p2
    obtain ⟨x5_1, x8_1, rfl, HA, HK1, HO_5, HB⟩ := hrel
    cases gk with
    | zero => exact absurd HA.out (by simp [wire_laid.l0])
    | succ k1 =>
      have H := HA.out
      clear HA
      simp only [wire_laid.l0] at H
      by_cases c3 : x8_1 < a1
      · rw [if_pos c3] at H
        have c3b0 : decide (x8_1 < a1) = true := decide_eq_true c3
        clear c3
        obtain ⟨ji4, hji4⟩ : ∃ j_ : Int, (wrap64 (8 * x8_1)) = j_ := ⟨_, rfl⟩
        replace H : (if 0 ≤ (ji4) then (if x5_1.length < 140737488355328 then (wire_laid.l0 k1 a0 (x5_1 ++ [(shr .u64 a0 (ji4)) % 256]) a1 (wrap64 (x8_1 + 1))) else (none)) else (none)) = some r := by first | (rw [hji4] at H; exact H) | (simp only [hji4] at H ⊢; exact H)
        have hji4w : (IntKind.i64.wrap (8 * x8_1)) = ji4 := (i64_w _).trans hji4
        by_cases c5 : 0 ≤ (ji4)
        · rw [if_pos c5] at H
          have c5b0 := eq_true c5
          have c5b1 : decide (0 ≤ (ji4)) = true := decide_eq_true c5
          clear c5
          obtain ⟨ji6, hji6⟩ : ∃ j_ : Int, (shr .u64 a0 (ji4)) = j_ := ⟨_, rfl⟩
          replace H : (if x5_1.length < 140737488355328 then (wire_laid.l0 k1 a0 (x5_1 ++ [(ji6) % 256]) a1 (wrap64 (x8_1 + 1))) else (none)) = some r := by first | (rw [hji6] at H; exact H) | (simp only [hji6] at H ⊢; exact H)
          have hji6_ : (a0 / 2 ^ min (ji4).toNat 64) = ji6 := hji6
          have hji6z : (ji4) ≤ 64 → (a0 / 2 ^ (ji4).toNat) = ji6 := shr_small hji6
          by_cases c7 : x5_1.length < 140737488355328
          · rw [if_pos c7] at H
            have LMc7 := Aside0.mk c7
            clear c7
            obtain ⟨y101, hy101⟩ : ∃ y_ : List Int, y_ = (x5_1 ++ [(ji6) % 256]) := ⟨_, rfl⟩
            replace H : (wire_laid.l0 k1 a0 y101 a1 (wrap64 (x8_1 + 1))) = some r := by first | (rw [hy101]; with_reducible exact H) | (have H2_ := (Option.bind_some _ _).symm.trans H; rw [hy101]; with_reducible exact H2_) | (have H2_ := (Option.bind_some _ _).symm.trans H; with_reducible exact H2_) | with_reducible exact H | (rw [hy101]; exact H) | exact H
            have Ny101 := Aside0.mk hy101
            clear hy101
            have H' := Aside0.mk H
            clear H
            go_wp2_with (first | ((with_reducible refine gate_builtin (b := .append) (xs := #[.tmp 11, .tmp 17]) rfl ?_); at_builtin; refine Kd.R_append (Kd.int .u8) (w0 := w) w.heap.size rfl (.tmp 11) (.tmp 17) 24 5 (.int .u8 0) 1 rfl Try.underlying24 info5 rfl (by decide) (by omega) u5 x5_1 ((ji6) % 256) [.int .u8 ((ji6) % 256)] (fun _ => True) (fun _ => False) rfl rfl ?aP (fun _ hk => hk.elim) ?aF ?aO ?aB ?aS ?aL ?_; (case aP => exact rfl); (case aB => exact (by repeat (first | (with_reducible first | exact HB.out | apply below_alloc | apply pw_below_drewN | apply below_drew1) | exact HB.out))); (case aF => exact (fun _ _ => trivial)); (case aO => exact (by (with_reducible repeat (first | apply Kd.R_alloc | apply Kd.R_drewN | apply Kd.R_drew)); exact HO_5.out)); (case aS => exact (below_size (by repeat (first | (with_reducible first | exact HB.out | apply below_alloc | apply pw_below_drewN | apply below_drew1) | exact HB.out)))); (case aL => have := LMc7.out; omega); intro v102 w8 ho hb hg hat; rw [← Ny101.out] at ho; have n0_ := Aside0.mk (hb); have n1_ := Aside0.mk (ho); clear HB; clear HO_5; have HB := n0_; have HO103 := n1_; clear n0_ n1_; clear ho hb hg hat))
            go_roundg k1
            case measure => have := HK1.out; omega
            case rel => exact ⟨(y101), (wrap64 (x8_1 + 1)), (by first | rfl | (simp; done) | (simp [*]; done)), H', ⟨by have := HK1.out; omega⟩, ⟨by (with_reducible repeat (first | apply Kd.R_alloc | apply Kd.R_drewN | apply Kd.R_drew)); exact HO103.out⟩, ⟨by repeat (first | (with_reducible first | exact HB.out | apply below_alloc | apply pw_below_drewN | apply below_drew1) | exact HB.out)⟩⟩
          · rw [if_neg c7] at H
            exact absurd H (by simp)
        · rw [if_neg c5] at H
          exact absurd H (by simp)
      · rw [if_neg c3] at H
        have c3b0 : decide (x8_1 < a1) = false := decide_eq_false c3
        clear c3
        obtain rfl := Option.some.inj H
        have hcv9 := own_string (P := Try.prog) Try.underlying24 Try.underlying5 Try.underlying9 (Kd.own_of_R HO_5.out)
        go_wp2
        go_ret
        exact ⟨by first | rfl | (simp [errW_none, errW_some] <;> rfl) | (simp [*, errW_none, errW_some] <;> rfl), by repeat (first | (with_reducible first | exact HB.out | apply below_alloc | apply pw_below_drewN | apply below_drew1) | exact HB.out)⟩

end Go.Proofs.Ytohddbiedabmhaa.X
-- by xprint.py, a program of this session, over the kit's print.py
namespace Go.Proofs.Ytohddbiedabmhaa.X
open Go.RowKit Go.Proofs.YtohddbiedabmhaaW.PrintWords Go.Proofs.YtohddbiedabmhaaW.PrintLast Go.Proofs.YtohddbiedabmhaaW.PrintMore
attribute [local go_sem] max2_int min2_int max_two min_two max_three min_three max_four min_four   -- for this text's walks alone
set_option linter.unusedVariables false
set_option linter.unusedSimpArgs false

theorem vPut_bound (v : Nat) : ∀ c ∈ vPut v, c < 256 := by
  induction v using Nat.strongRecOn with
  | _ v ih =>
    by_cases h : v < 128
    · rw [vPut_lt h]; intro c hc; simp at hc; omega
    · rw [vPut_ge h]; intro c hc
      rcases List.mem_cons.1 hc with rfl | hc
      · omega
      · exact ih _ (by omega) c hc
theorem ns_strOfNums (l : List Nat) (h : ∀ c ∈ l, c < 256) : ns (strOfNums (l.map Int.ofNat)) = l := by
  unfold ns strOfNums
  simp only [List.map_map]
  refine (List.map_congr_left (g := id) ?_).trans (List.map_id _)
  intro c hc
  have := h c hc
  simp [UInt8.toNat_ofNat']
  omega
theorem ns_vStr (v : Nat) : ns (vStr v) = vPut v := ns_strOfNums _ (vPut_bound v)
theorem ns_append (a b : ByteArray) : ns (a ++ b) = ns a ++ ns b := by
  simp [ns, ByteArray.data_append]
theorem ns_inj {a b : ByteArray} (h : ns a = ns b) : a = b := by
  have : a.data.toList = b.data.toList := by
    unfold ns at h
    exact (List.map_inj_right (fun x y e => UInt8.toNat_inj.1 e)).1 h
  cases a; cases b; simp_all
theorem ns_extract (s : ByteArray) (i j : Nat) : ns (s.extract i j) = ((ns s).drop i).take (j - i) := by
  simp [ns, ByteArray.data_extract, List.map_drop, List.map_take, Array.toList_extract, List.extract_eq_take_drop]
theorem vStr_size (v : Nat) : (vStr v).size = vSize v := by rw [← ns_length, ns_vStr, vPut_length]
theorem readS_put (v : Nat) : ∀ (l : List Nat) (n u : Nat), n ≤ 9 → v * 128 ^ n < 18446744073709551616 → readS (vPut v ++ l) n u = (u + v * 128 ^ n, n + vSize v, 0) := by
  induction v using Nat.strongRecOn with
  | _ v ih =>
    intro l n u hn hv
    by_cases h : v < 128
    · rw [vPut_lt h, vSize_lt h, List.singleton_append, readS_cons, if_pos h]
      intro h9; subst h9; omega
    · have hn9 : n < 9 := by
        rcases Nat.lt_or_ge n 9 with h9 | h9
        · exact h9
        · obtain rfl : n = 9 := by omega
          omega
      rw [vPut_ge h, vSize_ge h, List.cons_append, readS_cons (by omega), if_neg (by omega), show (v % 128 + 128) % 128 = v % 128 by omega]
      have hp : 128 ^ (n + 1) = 128 * 128 ^ n := by rw [Nat.pow_succ, Nat.mul_comm]
      have hm : v / 128 * 128 ^ (n + 1) + v % 128 * 128 ^ n = v * 128 ^ n := by
        rw [hp, ← Nat.mul_assoc, ← Nat.add_mul]; congr 1; omega
      rw [ih (v / 128) (by omega) l (n + 1) _ (by omega) (by omega)]
      rw [show u + v % 128 * 128 ^ n + v / 128 * 128 ^ (n + 1) = u + v * 128 ^ n by omega, show n + 1 + vSize (v / 128) = n + (vSize (v / 128) + 1) by omega]
theorem vRead_put (v : Nat) (hv : v < 18446744073709551616) (b : ByteArray) : vRead (vStr v ++ b) = (v, vSize v, 0) := by
  unfold vRead
  rw [ns_append, ns_vStr, readS_put v _ 0 0 (by omega) (by simpa using hv)]
  simp

theorem readS_aux8 (c m : Nat) (h : m * 9223372036854775808 < 18446744073709551616) : c % 128 * 72057594037927936 + m * 9223372036854775808 < 18446744073709551616 := by
  have hc : c % 128 * 72057594037927936 ≤ 127 * 72057594037927936 := Nat.mul_le_mul_right _ (by omega)
  have hm : m ≤ 1 := by
    rcases Nat.lt_or_ge m 2 with h2 | h2
    · omega
    · exact absurd (Nat.mul_le_mul_right 9223372036854775808 h2) (Nat.not_le.2 h)
  have hm2 : m * 9223372036854775808 ≤ 1 * 9223372036854775808 := Nat.mul_le_mul_right _ hm
  exact Nat.lt_of_le_of_lt (Nat.add_le_add hc hm2) (by decide)
theorem readS_aux9 {c : Nat} (h9 : ¬ (9 = 9 ∧ 1 < c)) (hc : ¬ c < 128) : False := by omega
theorem readS_ok : ∀ (l : List Nat) (n u y k : Nat), n ≤ 9 → (∀ c ∈ l, c < 256) → readS l n u = (y, k, 0) →
    ∃ m, y = u + m * 128 ^ n ∧ n + vSize m ≤ k ∧ k ≤ n + l.length ∧ k ≤ 10 ∧ m * 128 ^ n < 18446744073709551616 ∧ (n + vSize m = k → l.take (k - n) = vPut m) := by
  intro l
  induction l with
  | nil => intro n u y k _ _ h; simp [readS] at h
  | cons c l ih =>
    intro n u y k hn hb h
    by_cases h9 : n = 9 ∧ 1 < c
    · rw [readS, if_pos h9] at h; simp at h
    · rw [readS_cons (by omega)] at h
      have hp : 128 ^ (n + 1) = 128 * 128 ^ n := by rw [Nat.pow_succ, Nat.mul_comm]
      by_cases hc : c < 128
      · rw [if_pos hc] at h
        simp only [Prod.mk.injEq] at h
        obtain ⟨rfl, rfl, -⟩ := h
        refine ⟨c, rfl, by rw [vSize_lt hc]; omega, by simp, by omega, ?_, ?_⟩
        · rcases Nat.lt_or_ge n 9 with h | h
          · have h1 : 128 ^ n ≤ 128 ^ 8 := Nat.pow_le_pow_right (by decide) (by omega)
            have h2 : c * 128 ^ n ≤ 127 * 128 ^ 8 := Nat.mul_le_mul (by omega) h1
            omega
          · obtain rfl : n = 9 := by omega
            have h2 : c * 128 ^ 9 ≤ 1 * 128 ^ 9 := Nat.mul_le_mul_right _ (by omega)
            omega
        · intro _
          rw [vPut_lt hc, show n + 1 - n = 1 by omega]; rfl
      · rw [if_neg hc] at h
        have hb' := hb c (List.mem_cons_self ..)
        obtain ⟨m, h1, h2, h3, h4, h5, h6⟩ := ih (n + 1) _ y k (by omega) (fun x hx => hb x (List.mem_cons_of_mem _ hx)) h
        have hpos := vSize_pos m
        have hm : (c % 128 + 128 * m) * 128 ^ n = c % 128 * 128 ^ n + m * 128 ^ (n + 1) := by
          rw [hp, Nat.add_mul, Nat.mul_comm 128 m, Nat.mul_assoc]
        refine ⟨c % 128 + 128 * m, by rw [hm]; omega, ?_, by simp; omega, h4, ?_, ?_⟩
        · by_cases hs : c % 128 + 128 * m < 128
          · rw [vSize_lt hs]; omega
          · rw [vSize_ge hs, show (c % 128 + 128 * m) / 128 = m by omega]; omega
        · rw [hm]
          rcases Nat.lt_or_ge n 8 with h8 | h8
          · have : n + 1 ≤ 8 := h8
            have hx : m * 128 ^ (n + 1) < 18446744073709551616 := h5
            have ha : c % 128 * 128 ^ n ≤ 127 * 128 ^ n := Nat.mul_le_mul_right _ (by omega)
            rw [hp] at hx ⊢
            have hq : 18446744073709551616 = 128 * 128 ^ n * (18446744073709551616 / (128 * 128 ^ n)) := by
              obtain rfl | rfl | rfl | rfl | rfl | rfl | rfl | rfl : n = 0 ∨ n = 1 ∨ n = 2 ∨ n = 3 ∨ n = 4 ∨ n = 5 ∨ n = 6 ∨ n = 7 := by omega
              all_goals decide
            generalize 18446744073709551616 / (128 * 128 ^ n) = z at hq
            generalize 128 ^ n = p at *
            have : m < z := by
              rcases Nat.lt_or_ge m z with h | h
              · exact h
              · have : 128 * p * z ≤ 128 * p * m := Nat.mul_le_mul_left _ h
                rw [Nat.mul_comm m] at hx
                omega
            have hz : (m + 1) * (128 * p) ≤ z * (128 * p) := Nat.mul_le_mul_right _ this
            rw [Nat.add_mul, Nat.one_mul] at hz
            rw [Nat.mul_comm z] at hz
            omega
          · clear h6 h ih
            have h8' : n = 8 ∨ n = 9 := by omega
            rcases h8' with rfl | rfl
            · exact readS_aux8 c m h5
            · exact (readS_aux9 h9 hc).elim
        · intro hk
          have hs : ¬ c % 128 + 128 * m < 128 := by
            intro hs
            rw [vSize_lt hs] at hk
            omega
          rw [vSize_ge hs, show (c % 128 + 128 * m) / 128 = m by omega] at hk
          rw [vPut_ge hs, show (c % 128 + 128 * m) / 128 = m by omega, show k - n = (k - (n + 1)) + 1 by omega, List.take_succ_cons, h6 (by omega)]
          congr 1; omega
theorem vRead_ok (b : ByteArray) (y k : Nat) (h : vRead b = (y, k, 0)) : y < 18446744073709551616 ∧ vSize y ≤ k ∧ k ≤ b.size ∧ k ≤ 10 ∧ (vSize y = k → b.extract 0 k = vStr y) := by
  obtain ⟨m, h1, h2, h3, h4, h5, h6⟩ := readS_ok (ns b) 0 0 y k (by omega) (ns_lt b) h
  simp only [Nat.pow_zero, Nat.mul_one, Nat.zero_add] at *
  subst h1
  refine ⟨h5, h2, by rw [← ns_length]; exact h3, h4, fun e => ns_inj ?_⟩
  rw [ns_extract, ns_vStr]
  simpa using h6 e

end Go.Proofs.Ytohddbiedabmhaa.X
