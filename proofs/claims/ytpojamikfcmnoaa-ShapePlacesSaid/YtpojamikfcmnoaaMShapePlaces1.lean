import Derived.Test.YtpojamikfcmnoaaMShapePlaces0
-- by xprint.py, a program of this session, over the kit's print.py
namespace Go.Proofs.Ytpojamikfcmnoaa.X
open Go.RowKit Go.Proofs.YtpojamikfcmnoaaW.PrintWords Go.Proofs.YtpojamikfcmnoaaW.PrintLast Go.Proofs.YtpojamikfcmnoaaW.PrintMore
attribute [local go_sem] max2_int min2_int max_two min_two max_three min_three max_four min_four   -- for this text's walks alone
set_option linter.unusedVariables false
set_option linter.unusedSimpArgs false

def agatelaw03_Ints_s.f (l0 l1 : List Int) : Option Bool := if l0.length < 9223372036854775807 then some (decide (l0 = l1)) else none
theorem agatelaw03_Ints_eval (l0 l1 : List Int) (hl : l0.length = l1.length) (hb : l0.length < 9223372036854775807) (d : Nat) : ∀ (k i : Nat), l0.length - i = d → i ≤ l0.length → d < k →
    agatelaw03_Ints.l0 k l0 l1 l0.length i = some (decide (l0.drop i = l1.drop i)) := by
  induction d with
  | zero =>
    intro k i hd hi hk
    obtain ⟨k, rfl⟩ : ∃ m, k = m + 1 := ⟨k - 1, by omega⟩
    simp only [agatelaw03_Ints.l0]
    rw [if_neg (by omega), List.drop_of_length_le (by omega), List.drop_of_length_le (by omega)]
    simp
  | succ d ih =>
    intro k i hd hi hk
    obtain ⟨k, rfl⟩ : ∃ m, k = m + 1 := ⟨k - 1, by omega⟩
    have h0 : i < l0.length := by omega
    have h1 : i < l1.length := by omega
    have e0 : rd l0 (i : Int) = l0[i] := by simp [rd, List.getD_eq_getElem?_getD, h0]
    have e1 : rd l1 (i : Int) = l1[i] := by simp [rd, List.getD_eq_getElem?_getD, h1]
    simp only [agatelaw03_Ints.l0, e0, e1]
    rw [if_pos (by omega), if_pos (by omega), if_pos (by omega), if_pos (by omega), List.drop_eq_getElem_cons h0, List.drop_eq_getElem_cons h1, wrap64_id (by omega) (by omega)]
    by_cases h : l0[i] = l1[i]
    · rw [if_pos h]
      refine (ih k (i + 1) (by omega) (by omega) (by omega)).trans ?_
      have hi : (l0[i] :: l0.drop (i + 1) = l1[i] :: l1.drop (i + 1)) ↔ l0.drop (i + 1) = l1.drop (i + 1) := by rw [List.cons.injEq]; exact ⟨fun g => g.2, fun g => ⟨h, g⟩⟩
      rw [decide_eq_decide.2 hi]
    · rw [if_neg h]
      have hi : ¬ (l0[i] :: l0.drop (i + 1) = l1[i] :: l1.drop (i + 1)) := by rw [List.cons.injEq]; exact fun g => h g.1
      rw [decide_eq_false hi]
theorem agatelaw03_Ints_s.ev (l0 l1 : List Int) (r) (h : agatelaw03_Ints_s.f l0 l1 = some r) : ∃ k, agatelaw03_Ints.f k l0 l1 = some r := by
  unfold agatelaw03_Ints_s.f at h
  split at h
  · rename_i hb
    rw [← h]
    refine ⟨l0.length + 1, ?_⟩
    unfold agatelaw03_Ints.f
    by_cases hl : l0.length = l1.length
    · rw [if_pos (by omega)]
      simpa using agatelaw03_Ints_eval l0 l1 hl hb l0.length (l0.length + 1) 0 (by omega) (by omega) (by omega)
    · rw [if_neg (by omega)]
      congr 1
      symm
      rw [decide_eq_false_iff_not]
      intro he
      exact hl (congrArg List.length he)
  · cases h

set_option maxHeartbeats 1000000 in
theorem agatelaw03_Ints_s.calls (A0 : Option Addr) (c0 : Nat) (l0 : List Int) (A1 : Option Addr) (c1 : Nat) (l1 : List Int) (r : Bool) (w : World) (hr0 : Kd.C (Kd.int .i64) w A0 l0.length l0) (hc0 : l0.length ≤ c0) (hr1 : Kd.C (Kd.int .i64) w A1 l1.length l1) (hc1 : l1.length ≤ c1) (h : agatelaw03_Ints_s.f l0 l1 = some r) :
    Calls Try.prog 23 #[.slice A0 l0.length c0, .slice A1 l1.length c1] w fun e w' => e = .returned (.bool r) ∧ Drawn0 w w' := by
  obtain ⟨k, hk⟩ := agatelaw03_Ints_s.ev l0 l1 _ h
  exact agatelaw03_Ints.calls k A0 c0 l0 A1 c1 l1 r w hr0 hc0 hr1 hc1 hk

end Go.Proofs.Ytpojamikfcmnoaa.X
-- by xprint.py, a program of this session, over the kit's print.py
namespace Go.Proofs.Ytpojamikfcmnoaa.X
open Go.RowKit Go.Proofs.YtpojamikfcmnoaaW.PrintWords Go.Proofs.YtpojamikfcmnoaaW.PrintLast Go.Proofs.YtpojamikfcmnoaaW.PrintMore
attribute [local go_sem] max2_int min2_int max_two min_two max_three min_three max_four min_four   -- for this text's walks alone
set_option linter.unusedVariables false
set_option linter.unusedSimpArgs false

/-! ### shape_Back: function 33 -/
def shape_Back.l0 : Nat → List Int → List Int → List Int → Int → Int → Option (List Int)
  | 0, _, _, _, _, _ => none
  | k + 1, x0, x5, x17, x18, x19 => if x19 < x18 then (if 0 ≤ x19 then (if x19 < (x17.length : Int) then (if x19 < (x0.length : Int) then (if (rd x0 x19) = 1 then (if x5.length < 17592186044416 then (shape_Back.l0 k x0 (x5 ++ [0]) x17 x18 (wrap64 (x19 + 1))) else (none)) else (if x5.length < 17592186044416 then (shape_Back.l0 k x0 (x5 ++ [rd x17 x19]) x17 x18 (wrap64 (x19 + 1))) else (none))) else (if x5.length < 17592186044416 then (shape_Back.l0 k x0 (x5 ++ [rd x17 x19]) x17 x18 (wrap64 (x19 + 1))) else (none))) else (none)) else (none)) else (some x5)
def shape_Back.f (k : Nat) (l0 : List Int) (l1 : List Int) : Option (List Int) := if 0 ≤ (mx (wrap64 ((l1.length : Int) - (l0.length : Int))) 0) then (if (mx (wrap64 ((l1.length : Int) - (l0.length : Int))) 0) ≤ (l1.length : Int) then (shape_Back.l0 k l0 ([] : List Int) (l1.drop ((mx (wrap64 ((l1.length : Int) - (l0.length : Int))) 0) : Int).toNat) ((l1.drop ((mx (wrap64 ((l1.length : Int) - (l0.length : Int))) 0) : Int).toNat).length : Int) 0) else (none)) else (none)
theorem shape_Back.mono_l : ∀ k, (∀ y0 y1 y2 y3 y4, LeO (shape_Back.l0 k y0 y1 y2 y3 y4) (shape_Back.l0 (k + 1) y0 y1 y2 y3 y4))
  | 0 => fun _ _ _ _ _ r h => by simp [shape_Back.l0] at h
  | k + 1 => by
    have ih0 := shape_Back.mono_l k
    · intro y0 y1 y2 y3 y4
      unfold shape_Back.l0
      repeat' first
      | (with_reducible exact ih0 _ _ _ _ _)
      | (with_reducible exact LeO.refl _)
      | (with_reducible exact LeO.none _)
      | (with_reducible refine LeO.ite ?_ ?_)
      | (with_reducible refine LeO.bind ?_ (fun _ => ?_))
      | exact ih0 _ _ _ _ _
      | exact LeO.none _
      | refine LeO.ite ?_ ?_
      | refine LeO.bind ?_ (fun _ => ?_)
theorem shape_Back.mono : ∀ a0 a1 k, LeO (shape_Back.f k a0 a1) (shape_Back.f (k + 1) a0 a1) := by
  intro a0 a1 k
  have ih0 := shape_Back.mono_l k
  unfold shape_Back.f
  repeat' first
      | (with_reducible exact ih0 _ _ _ _ _)
      | (with_reducible exact LeO.refl _)
      | (with_reducible exact LeO.none _)
      | (with_reducible refine LeO.ite ?_ ?_)
      | (with_reducible refine LeO.bind ?_ (fun _ => ?_))
      | exact ih0 _ _ _ _ _
      | exact LeO.none _
      | refine LeO.ite ?_ ?_
      | refine LeO.bind ?_ (fun _ => ?_)
set_option maxHeartbeats 8000000 in
set_option maxRecDepth 100000 in
theorem shape_Back.calls (k : Nat) (A0 : Option Addr) (c0 : Nat) (l0 : List Int) (A1 : Option Addr) (c1 : Nat) (l1 : List Int) (r : List Int) (w : World) (hr0 : Kd.C (Kd.int .i64) w A0 l0.length l0) (hc0 : l0.length ≤ c0) (hr1 : Kd.C (Kd.int .i64) w A1 l1.length l1) (hc1 : l1.length ≤ c1) (h : shape_Back.f k l0 l1 = some r) :
    Calls Try.prog 33 #[.slice A0 l0.length c0, .slice A1 l1.length c1] w fun e w' => ∃ v0_ : Value, e = .returned (v0_) ∧ Kd.R (Kd.int .i64) 2 w' w.heap.size (fun _ => True) v0_ r ∧ Below w.heap.size w w' := by
  have HR0 := Aside0.mk hr0
  have HC0 := Aside0.mk hc0
  clear hr0 hc0
  have HR1 := Aside0.mk hr1
  have HC1 := Aside0.mk hc1
  clear hr1 hc1
  have HB := Aside0.mk (Below.refl w.heap.size w)
  have H : (if 0 ≤ (mx (wrap64 ((l1.length : Int) - (l0.length : Int))) 0) then (if (mx (wrap64 ((l1.length : Int) - (l0.length : Int))) 0) ≤ (l1.length : Int) then (shape_Back.l0 k l0 ([] : List Int) (l1.drop ((mx (wrap64 ((l1.length : Int) - (l0.length : Int))) 0) : Int).toNat) ((l1.drop ((mx (wrap64 ((l1.length : Int) - (l0.length : Int))) 0) : Int).toNat).length : Int) 0) else (none)) else (none)) = some r := h
  clear h
  obtain ⟨ji3, hji3⟩ : ∃ j_ : Int, (mx (wrap64 ((l1.length : Int) - (l0.length : Int))) 0) = j_ := ⟨_, rfl⟩
  replace H : (if 0 ≤ (ji3) then (if (ji3) ≤ (l1.length : Int) then (shape_Back.l0 k l0 ([] : List Int) (l1.drop ((ji3) : Int).toNat) ((l1.drop ((ji3) : Int).toNat).length : Int) 0) else (none)) else (none)) = some r := by first | (rw [hji3] at H; exact H) | (simp only [hji3] at H ⊢; exact H)
  (try (have hji3l : 0 ≤ ji3 := by (rw [← hji3]; unfold mx; (repeat' split) <;> omega)))
  (try (have hji3m : 0 ≤ ji3 := by omega))
  have hji3_ : (if (wrap64 ((l1.length : Int) - (l0.length : Int))) < 0 then 0 else (wrap64 ((l1.length : Int) - (l0.length : Int)))) = ji3 := hji3
  by_cases c4 : 0 ≤ (ji3)
  · rw [if_pos c4] at H
    have c4b0 := eq_true c4
    have c4b1 : decide (0 ≤ (ji3)) = true := decide_eq_true c4
    clear c4
    by_cases c5 : (ji3) ≤ (l1.length : Int)
    · rw [if_pos c5] at H
      have c5b0 := eq_true c5
      have c5b1 : decide ((ji3) ≤ (l1.length : Int)) = true := decide_eq_true c5
      clear c5
      have H' := Aside0.mk H
      clear H
      obtain ⟨i06, hi06, _, hsz6, _⟩ := info_parts info2
      obtain ⟨A6, hcut6, hA6, hC6⟩ := print_drop_of (P := Try.prog) (Value.int .i64) 0 39 2 .i64 Try.underlying39 hi06 hsz6 A1 c1 l1 (ji3) (of_decide_eq_true (by first | (with_reducible assumption) | assumption)) (of_decide_eq_true (by first | (with_reducible assumption) | assumption)) HC1.out
      have HR101 := Aside0.mk (Kd.C_of_reads (h1 := fun _ => rfl) (hA6 _ (Kd.reads_of_C HR1.out)))
      have HC101 := Aside0.mk hC6
      clear hA6 hC6 hi06 hsz6
      go_enter Try.func33, Try.ntmps33
      go_wp2
      go_loopg [5, 19] k (fun kq v5 v19 w' => ∃ (x5_1 : List Int) (x19_1 : Int), v19 = .int .i64 x19_1 ∧ Aside0 (shape_Back.l0 kq l0 x5_1 (l1.drop ((ji3) : Int).toNat) ((l1.drop ((ji3) : Int).toNat).length : Int) x19_1 = some r) ∧ Aside0 (kq ≤ k) ∧ Aside0 (Kd.R (Kd.int .i64) 2 w' w.heap.size (fun _ => True) v5 x5_1) ∧ Aside0 (Below w.heap.size w w'))
      case atStart => exact ⟨(([] : List Int)), (0), (by first | rfl | (simp; done) | (simp [*]; done)), H', ⟨Nat.le_refl _⟩, ⟨by first | exact Kd.R_nil _ _ _ _ _ | exact Kd.N_nil _ _ _ _ _ | exact Kd.V_nil _ _ _ _ _ | exact Kd.Q_nil _ _ _ _ _ | exact Kd.S_nil _ _ _ _ _⟩, ⟨by repeat (first | (with_reducible first | exact HB.out | apply below_alloc | apply pw_below_drewN | apply below_drew1) | exact HB.out)⟩⟩
      case round =>
        clear H'
        try clear c1
        try clear p2
        try clear c3
        try clear c4
        try clear c4b0
        try clear c4b1
        try clear c5
        try clear c5b0
        try clear c5b1
        try clear p6
        obtain ⟨x5_1, x19_1, rfl, HA, HK1, HO_5, HB⟩ := hrel
        cases gk with
        | zero => exact absurd HA.out (by simp [shape_Back.l0])
        | succ k1 =>
          have H := HA.out
          clear HA
          simp only [shape_Back.l0] at H
          by_cases c7 : x19_1 < ((l1.drop ((ji3) : Int).toNat).length : Int)
          · rw [if_pos c7] at H
            have c7b0 : decide (x19_1 < ((l1.drop ((ji3) : Int).toNat).length : Int)) = true := decide_eq_true c7
            try have c7b0n := c7b0
            try simp only [List.length_drop] at c7b0n
            clear c7
            by_cases c8 : 0 ≤ x19_1
            · rw [if_pos c8] at H
              have c8b0 : decide (0 ≤ x19_1) = true := decide_eq_true c8
              clear c8
              by_cases c9 : x19_1 < ((l1.drop ((ji3) : Int).toNat).length : Int)
              · rw [if_pos c9] at H
                have c9b0 : decide (x19_1 < ((l1.drop ((ji3) : Int).toNat).length : Int)) = true := decide_eq_true c9
                try have c9b0n := c9b0
                try simp only [List.length_drop] at c9b0n
                clear c9
                by_cases c10 : x19_1 < (l0.length : Int)
                · rw [if_pos c10] at H
                  have c10b0 : decide (x19_1 < (l0.length : Int)) = true := decide_eq_true c10
                  clear c10
                  by_cases c11 : (rd l0 x19_1) = 1
                  · rw [if_pos c11] at H
                    have c11b0 : ((rd l0 x19_1) == 1) = true := beq_iff_eq.mpr c11
                    have c11b1 : ((rd l0 x19_1) != 1) = false := bne_eq_false_iff_eq.mpr c11
                    clear c11
                    by_cases c12 : x5_1.length < 17592186044416
                    · rw [if_pos c12] at H
                      have LMc12 := Aside0.mk c12
                      clear c12
                      obtain ⟨y104, hy104⟩ : ∃ y_ : List Int, y_ = (x5_1 ++ [0]) := ⟨_, rfl⟩
                      replace H : (shape_Back.l0 k1 l0 y104 (l1.drop ((ji3) : Int).toNat) ((l1.drop ((ji3) : Int).toNat).length : Int) (wrap64 (x19_1 + 1))) = some r := by first | (rw [hy104]; with_reducible exact H) | (have H2_ := (Option.bind_some _ _).symm.trans H; rw [hy104]; with_reducible exact H2_) | (have H2_ := (Option.bind_some _ _).symm.trans H; with_reducible exact H2_) | with_reducible exact H | (rw [hy104]; exact H) | exact H
                      have Ny104 := Aside0.mk hy104
                      clear hy104
                      have H' := Aside0.mk H
                      clear H
                      have p102 : 0 ≤ (x19_1 : Int) := of_decide_eq_true (by first | (with_reducible assumption) | assumption)
                      have q102 : x19_1 < ((l1.drop ((ji3) : Int).toNat).length : Int) := of_decide_eq_true (by first | (with_reducible assumption) | assumption)
                      have q102n := q102
                      try simp only [List.length_drop] at q102n
                      replace q102n := eq_true q102n
                      obtain ⟨ad102, e102, hx102_0⟩ := Kd.at_int HR101.out x19_1 p102 q102
                      cases e102
                      replace hx102_0 := (HB.out.cell (World.block_lt_of_cell? w _ hx102_0)).trans hx102_0
                      replace p102 := eq_true p102
                      replace q102 := eq_true q102
                      have p103 : 0 ≤ (x19_1 : Int) := of_decide_eq_true (by first | (with_reducible assumption) | assumption)
                      have q103 : x19_1 < (l0.length : Int) := of_decide_eq_true (by first | (with_reducible assumption) | assumption)
                      obtain ⟨ad103, e103, hx103_0⟩ := Kd.at_int HR0.out x19_1 p103 q103
                      cases e103
                      replace hx103_0 := (HB.out.cell (World.block_lt_of_cell? w _ hx103_0)).trans hx103_0
                      replace p103 := eq_true p103
                      replace q103 := eq_true q103
                      go_wp2_with (first | ((with_reducible refine gate_builtin (b := .append) (xs := #[.tmp 35, .tmp 37]) rfl ?_); at_builtin; refine Kd.R_append (Kd.int .i64) (w0 := w) w.heap.size rfl (.tmp 35) (.tmp 37) 39 2 (.int .i64 0) 8 rfl Try.underlying39 info2 rfl (by decide) (by omega) u5 x5_1 0 [.int .i64 0] (fun _ => True) (fun _ => False) rfl rfl ?aP (fun _ hk => hk.elim) ?aF ?aO ?aB ?aS ?aL ?_; (case aP => exact rfl); (case aB => exact (by repeat (first | (with_reducible first | exact HB.out | apply below_alloc | apply pw_below_drewN | apply below_drew1) | exact HB.out))); (case aF => exact (fun _ _ => trivial)); (case aO => exact (by (with_reducible repeat (first | apply Kd.R_alloc | apply Kd.R_drewN | apply Kd.R_drew)); exact HO_5.out)); (case aS => exact (below_size (by repeat (first | (with_reducible first | exact HB.out | apply below_alloc | apply pw_below_drewN | apply below_drew1) | exact HB.out)))); (case aL => have := LMc12.out; omega); intro v105 w13 ho hb hg hat; rw [← Ny104.out] at ho; have n0_ := Aside0.mk (hb); have n1_ := Aside0.mk (ho); clear HB; clear HO_5; have HB := n0_; have HO106 := n1_; clear n0_ n1_; clear ho hb hg hat))
                      go_roundg k1
                      case measure => have := HK1.out; omega
                      case rel => exact ⟨(y104), (wrap64 (x19_1 + 1)), (by first | rfl | (simp; done) | (simp [*]; done)), H', ⟨by have := HK1.out; omega⟩, ⟨by (with_reducible repeat (first | apply Kd.R_alloc | apply Kd.R_drewN | apply Kd.R_drew)); exact HO106.out⟩, ⟨by repeat (first | (with_reducible first | exact HB.out | apply below_alloc | apply pw_below_drewN | apply below_drew1) | exact HB.out)⟩⟩
                    · rw [if_neg c12] at H
                      exact absurd H (by simp)
                  · rw [if_neg c11] at H
                    have c11b0 : ((rd l0 x19_1) == 1) = false := beq_eq_false_iff_ne.mpr c11
                    have c11b1 : ((rd l0 x19_1) != 1) = true := bne_iff_ne.mpr c11
                    by_cases c14 : x5_1.length < 17592186044416
                    · rw [if_pos c14] at H
                      have LMc14 := Aside0.mk c14
                      clear c14
                      obtain ⟨y107, hy107⟩ : ∃ y_ : List Int, y_ = (x5_1 ++ [rd (l1.drop ((ji3) : Int).toNat) x19_1]) := ⟨_, rfl⟩
                      replace H : (shape_Back.l0 k1 l0 y107 (l1.drop ((ji3) : Int).toNat) ((l1.drop ((ji3) : Int).toNat).length : Int) (wrap64 (x19_1 + 1))) = some r := by first | (rw [hy107]; with_reducible exact H) | (have H2_ := (Option.bind_some _ _).symm.trans H; rw [hy107]; with_reducible exact H2_) | (have H2_ := (Option.bind_some _ _).symm.trans H; with_reducible exact H2_) | with_reducible exact H | (rw [hy107]; exact H) | exact H
                      have Ny107 := Aside0.mk hy107
                      clear hy107
                      have H' := Aside0.mk H
                      clear H
                      have p102 : 0 ≤ (x19_1 : Int) := of_decide_eq_true (by first | (with_reducible assumption) | assumption)
                      have q102 : x19_1 < ((l1.drop ((ji3) : Int).toNat).length : Int) := of_decide_eq_true (by first | (with_reducible assumption) | assumption)
                      have q102n := q102
                      try simp only [List.length_drop] at q102n
                      replace q102n := eq_true q102n
                      obtain ⟨ad102, e102, hx102_0⟩ := Kd.at_int HR101.out x19_1 p102 q102
                      cases e102
                      replace hx102_0 := (HB.out.cell (World.block_lt_of_cell? w _ hx102_0)).trans hx102_0
                      replace p102 := eq_true p102
                      replace q102 := eq_true q102
                      have p103 : 0 ≤ (x19_1 : Int) := of_decide_eq_true (by first | (with_reducible assumption) | assumption)
                      have q103 : x19_1 < (l0.length : Int) := of_decide_eq_true (by first | (with_reducible assumption) | assumption)
                      obtain ⟨ad103, e103, hx103_0⟩ := Kd.at_int HR0.out x19_1 p103 q103
                      cases e103
                      replace hx103_0 := (HB.out.cell (World.block_lt_of_cell? w _ hx103_0)).trans hx103_0
                      replace p103 := eq_true p103
                      replace q103 := eq_true q103
                      go_wp2_with (first | ((with_reducible refine gate_builtin (b := .append) (xs := #[.tmp 35, .tmp 37]) rfl ?_); at_builtin; refine Kd.R_append (Kd.int .i64) (w0 := w) w.heap.size rfl (.tmp 35) (.tmp 37) 39 2 (.int .i64 0) 8 rfl Try.underlying39 info2 rfl (by decide) (by omega) u5 x5_1 (rd (l1.drop ((ji3) : Int).toNat) x19_1) [.int .i64 (rd (l1.drop ((ji3) : Int).toNat) x19_1)] (fun _ => True) (fun _ => False) rfl rfl ?aP (fun _ hk => hk.elim) ?aF ?aO ?aB ?aS ?aL ?_; (case aP => exact rfl); (case aB => exact (by repeat (first | (with_reducible first | exact HB.out | apply below_alloc | apply pw_below_drewN | apply below_drew1) | exact HB.out))); (case aF => exact (fun _ _ => trivial)); (case aO => exact (by (with_reducible repeat (first | apply Kd.R_alloc | apply Kd.R_drewN | apply Kd.R_drew)); exact HO_5.out)); (case aS => exact (below_size (by repeat (first | (with_reducible first | exact HB.out | apply below_alloc | apply pw_below_drewN | apply below_drew1) | exact HB.out)))); (case aL => have := LMc14.out; omega); intro v108 w15 ho hb hg hat; rw [← Ny107.out] at ho; have n0_ := Aside0.mk (hb); have n1_ := Aside0.mk (ho); clear HB; clear HO_5; have HB := n0_; have HO109 := n1_; clear n0_ n1_; clear ho hb hg hat))
                      go_roundg k1
                      case measure => have := HK1.out; omega
                      case rel => exact ⟨(y107), (wrap64 (x19_1 + 1)), (by first | rfl | (simp; done) | (simp [*]; done)), H', ⟨by have := HK1.out; omega⟩, ⟨by (with_reducible repeat (first | apply Kd.R_alloc | apply Kd.R_drewN | apply Kd.R_drew)); exact HO109.out⟩, ⟨by repeat (first | (with_reducible first | exact HB.out | apply below_alloc | apply pw_below_drewN | apply below_drew1) | exact HB.out)⟩⟩
                    · rw [if_neg c14] at H
                      exact absurd H (by simp)
                · rw [if_neg c10] at H
                  have c10b0 : decide (x19_1 < (l0.length : Int)) = false := decide_eq_false c10
                  clear c10
                  by_cases c16 : x5_1.length < 17592186044416
                  · rw [if_pos c16] at H
                    have LMc16 := Aside0.mk c16
                    clear c16
                    obtain ⟨y110, hy110⟩ : ∃ y_ : List Int, y_ = (x5_1 ++ [rd (l1.drop ((ji3) : Int).toNat) x19_1]) := ⟨_, rfl⟩
                    replace H : (shape_Back.l0 k1 l0 y110 (l1.drop ((ji3) : Int).toNat) ((l1.drop ((ji3) : Int).toNat).length : Int) (wrap64 (x19_1 + 1))) = some r := by first | (rw [hy110]; with_reducible exact H) | (have H2_ := (Option.bind_some _ _).symm.trans H; rw [hy110]; with_reducible exact H2_) | (have H2_ := (Option.bind_some _ _).symm.trans H; with_reducible exact H2_) | with_reducible exact H | (rw [hy110]; exact H) | exact H
                    have Ny110 := Aside0.mk hy110
                    clear hy110
                    have H' := Aside0.mk H
                    clear H
                    have p102 : 0 ≤ (x19_1 : Int) := of_decide_eq_true (by first | (with_reducible assumption) | assumption)
                    have q102 : x19_1 < ((l1.drop ((ji3) : Int).toNat).length : Int) := of_decide_eq_true (by first | (with_reducible assumption) | assumption)
                    have q102n := q102
                    try simp only [List.length_drop] at q102n
                    replace q102n := eq_true q102n
                    obtain ⟨ad102, e102, hx102_0⟩ := Kd.at_int HR101.out x19_1 p102 q102
                    cases e102
                    replace hx102_0 := (HB.out.cell (World.block_lt_of_cell? w _ hx102_0)).trans hx102_0
                    replace p102 := eq_true p102
                    replace q102 := eq_true q102
                    go_wp2_with (first | ((with_reducible refine gate_builtin (b := .append) (xs := #[.tmp 35, .tmp 37]) rfl ?_); at_builtin; refine Kd.R_append (Kd.int .i64) (w0 := w) w.heap.size rfl (.tmp 35) (.tmp 37) 39 2 (.int .i64 0) 8 rfl Try.underlying39 info2 rfl (by decide) (by omega) u5 x5_1 (rd (l1.drop ((ji3) : Int).toNat) x19_1) [.int .i64 (rd (l1.drop ((ji3) : Int).toNat) x19_1)] (fun _ => True) (fun _ => False) rfl rfl ?aP (fun _ hk => hk.elim) ?aF ?aO ?aB ?aS ?aL ?_; (case aP => exact rfl); (case aB => exact (by repeat (first | (with_reducible first | exact HB.out | apply below_alloc | apply pw_below_drewN | apply below_drew1) | exact HB.out))); (case aF => exact (fun _ _ => trivial)); (case aO => exact (by (with_reducible repeat (first | apply Kd.R_alloc | apply Kd.R_drewN | apply Kd.R_drew)); exact HO_5.out)); (case aS => exact (below_size (by repeat (first | (with_reducible first | exact HB.out | apply below_alloc | apply pw_below_drewN | apply below_drew1) | exact HB.out)))); (case aL => have := LMc16.out; omega); intro v111 w17 ho hb hg hat; rw [← Ny110.out] at ho; have n0_ := Aside0.mk (hb); have n1_ := Aside0.mk (ho); clear HB; clear HO_5; have HB := n0_; have HO112 := n1_; clear n0_ n1_; clear ho hb hg hat))
                    go_roundg k1
                    case measure => have := HK1.out; omega
                    case rel => exact ⟨(y110), (wrap64 (x19_1 + 1)), (by first | rfl | (simp; done) | (simp [*]; done)), H', ⟨by have := HK1.out; omega⟩, ⟨by (with_reducible repeat (first | apply Kd.R_alloc | apply Kd.R_drewN | apply Kd.R_drew)); exact HO112.out⟩, ⟨by repeat (first | (with_reducible first | exact HB.out | apply below_alloc | apply pw_below_drewN | apply below_drew1) | exact HB.out)⟩⟩
                  · rw [if_neg c16] at H
                    exact absurd H (by simp)
              · rw [if_neg c9] at H
                exact absurd H (by simp)
            · rw [if_neg c8] at H
              exact absurd H (by simp)
          · rw [if_neg c7] at H
            have c7b0 : decide (x19_1 < ((l1.drop ((ji3) : Int).toNat).length : Int)) = false := decide_eq_false c7
            try have c7b0n := c7b0
            try simp only [List.length_drop] at c7b0n
            clear c7
            obtain rfl := Option.some.inj H
            go_wp2
            go_ret
            exact ⟨_, by first | rfl | (simp [errW_none, errW_some] <;> rfl) | (simp only [← hji3]; first | rfl | (simp [errW_none, errW_some] <;> rfl)) | (simp [*, errW_none, errW_some] <;> rfl), by (with_reducible repeat (first | apply Kd.R_alloc | apply Kd.R_drewN | apply Kd.R_drew)); exact HO_5.out, by repeat (first | (with_reducible first | exact HB.out | apply below_alloc | apply pw_below_drewN | apply below_drew1) | exact HB.out)⟩
    · rw [if_neg c5] at H
      exact absurd H (by simp)
  · rw [if_neg c4] at H
    exact absurd H (by simp)

end Go.Proofs.Ytpojamikfcmnoaa.X
