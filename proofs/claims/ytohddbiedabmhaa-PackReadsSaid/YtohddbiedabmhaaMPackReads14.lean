import Derived.Test.YtohddbiedabmhaaMPackReads0
import Derived.Test.YtohddbiedabmhaaMPackReads13
import Derived.Test.YtohddbiedabmhaaMPackReads2
import Derived.Test.YtohddbiedabmhaaMPackReads1
import Derived.Test.YtohddbiedabmhaaMPackReads8
import Derived.Test.YtohddbiedabmhaaMPackReads7
-- by xprint.py, a program of this session, over the kit's print.py
namespace Go.Proofs.Ytohddbiedabmhaa.X
open Go.RowKit Go.Proofs.YtohddbiedabmhaaW.PrintWords Go.Proofs.YtohddbiedabmhaaW.PrintLast Go.Proofs.YtohddbiedabmhaaW.PrintMore
attribute [local go_sem] max2_int min2_int max_two min_two max_three min_three max_four min_four   -- for this text's walks alone
set_option linter.unusedVariables false
set_option linter.unusedSimpArgs false

def agateref03_Texts_s.f (l0 : List (S50)) (a1 : Int) : Option (List ByteArray × Int) := if l0.length ≤ 3518437208883 then some ((textsL ((l0.filter fun x => x.f0 == a1).map flR) []).1, ((textsL ((l0.filter fun x => x.f0 == a1).map flR) []).2 : Int)) else none
theorem refTexts_eval (l : List (S50)) (a1 : Int) (hl : l.length ≤ 3518437208883) (d : Nat) : ∀ (i : Nat) (out : List ByteArray), l.length - i = d → i ≤ l.length → out.length ≤ i →
    ∃ k, agateref03_Texts.l0 k l a1 out i = some ((textsL (((l.drop i).filter fun x => x.f0 == a1).map flR) out).1, ((textsL (((l.drop i).filter fun x => x.f0 == a1).map flR) out).2 : Int)) := by
  induction d with
  | zero =>
    intro i out hd hi ho
    refine ⟨1, ?_⟩
    rw [agateref03_Texts.l0, if_neg (by omega), List.drop_of_length_le (by omega)]
    rfl
  | succ d ih =>
    intro i out hd hi ho
    have h0 : i < l.length := by omega
    have ew : wrap64 ((i : Int) + 1) = ((i + 1 : Nat) : Int) := by rw [wrap64_id (by omega) (by omega)]; omega
    have step : ∀ k, agateref03_Texts.l0 (k + 1) l a1 out i = if l[i].f0 = a1 then agateref03_Texts.j1 k l a1 out i (l[i].f1 != 2) else agateref03_Texts.j1 k l a1 out i false := by
      intro k
      rw [agateref03_Texts.l0, if_pos (by omega), if_pos (by omega)]
      simp only [rdR l i h0]
    have step2 : ∀ k, agateref03_Texts.j1 (k + 1) l a1 out i false = if l[i].f0 = a1 then agateref03_Texts.l0 k l a1 (out ++ [l[i].f3]) (wrap64 ((i : Int) + 1)) else agateref03_Texts.l0 k l a1 out (wrap64 ((i : Int) + 1)) := by
      intro k
      rw [agateref03_Texts.j1, if_neg (by decide), if_pos (by omega), if_pos (by omega)]
      simp only [rdR l i h0]
      by_cases hx : l[i].f0 = a1
      · rw [if_pos hx, if_pos hx, if_pos (by omega)]
      · rw [if_neg hx, if_neg hx]
    rw [List.drop_eq_getElem_cons h0]
    generalize l[i] = x at *
    by_cases hx : x.f0 = a1
    · rw [List.filter_cons_of_pos (by simp [hx]), List.map_cons, textsL]
      by_cases t2 : x.f1 = 2
      · rw [if_pos (show (flR x).2.1 = 2 from t2)]
        obtain ⟨k, hk⟩ := ih (i + 1) (out ++ [x.f3]) (by omega) (by omega) (by simp; omega)
        exact ⟨k + 2, by rw [step (k + 1), if_pos hx, show (x.f1 != 2) = false by simp [t2], step2 k, if_pos hx, ew]; exact hk⟩
      · rw [if_neg (show ¬ (flR x).2.1 = 2 from t2)]
        refine ⟨2, ?_⟩
        rw [step 1, if_pos hx, agateref03_Texts.j1, if_pos (by simp [t2])]; rfl
    · rw [List.filter_cons_of_neg (by simp [hx])]
      obtain ⟨k, hk⟩ := ih (i + 1) out (by omega) (by omega) (by omega)
      exact ⟨k + 2, by rw [step (k + 1), if_neg hx, step2 k, if_neg hx, ew]; exact hk⟩
theorem agateref03_Texts_s.ev (l0 : List (S50)) (a1 : Int) (r) (h : agateref03_Texts_s.f l0 a1 = some r) : ∃ k, agateref03_Texts.f k l0 a1 = some r := by
  unfold agateref03_Texts_s.f at h
  split at h
  · rename_i hs
    rw [← h]
    exact refTexts_eval l0 a1 hs l0.length 0 [] (by omega) (by omega) (by simp)
  · cases h

set_option maxHeartbeats 1000000 in
theorem agateref03_Texts_s.calls (A0 : Option Addr) (c0 : Nat) (l0 : List (S50)) (a1 : Int) (r1 : List ByteArray) (r2 : Int) (w : World) (hr0 : Kd.C k50 w A0 l0.length l0) (hc0 : l0.length ≤ c0) (h : agateref03_Texts_s.f l0 a1 = some (r1, r2)) :
    Calls Try.prog 39 #[.slice A0 l0.length c0, .int .i64 a1] w fun e w' => ∃ v0_ : Value, e = .returned (.tuple #[v0_, .int .i64 r2]) ∧ Kd.R Kd.string 9 w' w.heap.size (fun _ => True) v0_ r1 ∧ Below w.heap.size w w' := by
  obtain ⟨k, hk⟩ := agateref03_Texts_s.ev l0 a1 _ h
  exact agateref03_Texts.calls k A0 c0 l0 a1 r1 r2 w hr0 hc0 hk

end Go.Proofs.Ytohddbiedabmhaa.X
-- by xprint.py, a program of this session, over the kit's print.py
namespace Go.Proofs.Ytohddbiedabmhaa.X
open Go.RowKit Go.Proofs.YtohddbiedabmhaaW.PrintWords Go.Proofs.YtohddbiedabmhaaW.PrintLast Go.Proofs.YtohddbiedabmhaaW.PrintMore
attribute [local go_sem] max2_int min2_int max_two min_two max_three min_three max_four min_four   -- for this text's walks alone
set_option linter.unusedVariables false
set_option linter.unusedSimpArgs false

/-! ### pack_Texts: function 38 -/
def pack_Texts.l0 : Nat → List ByteArray → List (S47) → Int → Int → Option (List ByteArray × Int)
  | 0, _, _, _, _ => none
  | k + 1, x6, x11, x12, x13 => if x13 < x12 then (if 0 ≤ x13 then (if x13 < (x11.length : Int) then (if ((rd_T47 x11 x13).f1) = 2 then (if x6.length < 8796093022208 then (pack_Texts.l0 k (x6 ++ [(rd_T47 x11 x13).f3]) x11 x12 (wrap64 (x13 + 1))) else (none)) else (some (([] : List ByteArray), 3))) else (none)) else (none)) else (some (x6, 0))
def pack_Texts.f (k : Nat) (l0 : List (S47)) (a1 : Int) : Option (List ByteArray × Int) := (wire_All_s.f l0 a1).bind fun t101 => (pack_Texts.l0 k ([] : List ByteArray) t101 (t101.length : Int) 0)
theorem pack_Texts.mono_l : ∀ k, (∀ y0 y1 y2 y3, LeO (pack_Texts.l0 k y0 y1 y2 y3) (pack_Texts.l0 (k + 1) y0 y1 y2 y3))
  | 0 => fun _ _ _ _ r h => by simp [pack_Texts.l0] at h
  | k + 1 => by
    have ih0 := pack_Texts.mono_l k
    · intro y0 y1 y2 y3
      unfold pack_Texts.l0
      repeat' first
      | (with_reducible exact ih0 _ _ _ _)
      | (with_reducible exact LeO.refl _)
      | (with_reducible exact LeO.none _)
      | (with_reducible refine LeO.ite ?_ ?_)
      | (with_reducible refine LeO.bind ?_ (fun _ => ?_))
      | exact ih0 _ _ _ _
      | exact LeO.none _
      | refine LeO.ite ?_ ?_
      | refine LeO.bind ?_ (fun _ => ?_)
theorem pack_Texts.mono : ∀ a0 a1 k, LeO (pack_Texts.f k a0 a1) (pack_Texts.f (k + 1) a0 a1) := by
  intro a0 a1 k
  have ih0 := pack_Texts.mono_l k
  unfold pack_Texts.f
  repeat' first
      | (with_reducible exact ih0 _ _ _ _)
      | (with_reducible exact LeO.refl _)
      | (with_reducible exact LeO.none _)
      | (with_reducible refine LeO.ite ?_ ?_)
      | (with_reducible refine LeO.bind ?_ (fun _ => ?_))
      | exact ih0 _ _ _ _
      | exact LeO.none _
      | refine LeO.ite ?_ ?_
      | refine LeO.bind ?_ (fun _ => ?_)
set_option maxHeartbeats 8000000 in
set_option maxRecDepth 100000 in
theorem pack_Texts.calls (k : Nat) (A0 : Option Addr) (c0 : Nat) (l0 : List (S47)) (a1 : Int) (r1 : List ByteArray) (r2 : Int) (w : World) (hr0 : Kd.C k47 w A0 l0.length l0) (hc0 : l0.length ≤ c0) (h : pack_Texts.f k l0 a1 = some (r1, r2)) :
    Calls Try.prog 38 #[.slice A0 l0.length c0, .int .i64 a1] w fun e w' => ∃ v0_ : Value, e = .returned (.tuple #[v0_, .int .i64 r2]) ∧ Kd.R Kd.string 9 w' w.heap.size (fun _ => True) v0_ r1 ∧ Below w.heap.size w w' := by
  have hu47 := Try.underlying47
  have HR0 := Aside0.mk hr0
  have HC0 := Aside0.mk hc0
  clear hr0 hc0
  have HB := Aside0.mk (Below.refl w.heap.size w)
  have H : ((wire_All_s.f l0 a1).bind fun t101 => (pack_Texts.l0 k ([] : List ByteArray) t101 (t101.length : Int) 0)) = some (r1, r2) := h
  clear h
  replace H := Option.bind_eq_some_iff.mp H
  obtain ⟨t101, A30, H⟩ := H
  replace H : (pack_Texts.l0 k ([] : List ByteArray) t101 (t101.length : Int) 0) = some (r1, r2) := H
  have A3 := Aside0.mk A30
  clear A30
  have H' := Aside0.mk H
  clear H
  go_enter Try.func38, Try.ntmps38
  go_wp2_with (first | ((with_reducible refine gate_callee (f := 24) rfl ?_); refine goesL_ (some 11) rfl rfl Try.func24 (by kernel_rfl) rfl #[.slice A0 l0.length c0, .int .i64 a1] rfl (by (try simp only [List.map_toArray, List.map_cons, List.map_nil]); first | done | rfl | (simp only [List.length_drop, List.length_take]; rfl)) ?_; (with_reducible refine (wire_All_s.calls _ _ l0 a1 t101 _ ?side1 ?side2 A3.out).mono ?_); (case side1 => repeat (first | exact HR0.out | (with_reducible refine Kd.C_alloc ?_ _) | (with_reducible refine Kd.C_drewN ?_ _) | (with_reducible refine Kd.C_drew ?_))); (case side2 => exact HC0.out); rintro e w4 ⟨v102, rfl, ho0, hb⟩; refine ⟨_, rfl, ?_⟩; have n0_ := Aside0.mk (Kd.R_lower ho0 (below_size (by repeat (first | (with_reducible first | exact HB.out | apply below_alloc | apply pw_below_drewN | apply below_drew1) | exact HB.out)))); have n1_ := Aside0.mk (below_step (by repeat (first | (with_reducible first | exact HB.out | apply below_alloc | apply pw_below_drewN | apply below_drew1) | exact HB.out)) hb); clear HB; have HO103 := n0_; have HB := n1_; clear n0_ n1_; (try clear hb); (try clear hb2); (try clear hk); (try clear hi); (try clear ho0); obtain ⟨Ao5, co5, eo5⟩ := Kd.R_slice HO103.out; subst eo5))
  go_loopg [6, 13] k (fun kq v6 v13 w' => ∃ (x6_1 : List ByteArray) (x13_1 : Int), v13 = .int .i64 x13_1 ∧ Aside0 (pack_Texts.l0 kq x6_1 t101 (t101.length : Int) x13_1 = some (r1, r2)) ∧ Aside0 (kq ≤ k) ∧ Aside0 (Kd.R Kd.string 9 w' w.heap.size (fun _ => True) v6 x6_1) ∧ Aside0 (Kd.R k47 47 w' w.heap.size (fun _ => True) (.slice Ao5 t101.length co5) t101) ∧ Aside0 (Below w.heap.size w w'))
  case atStart => exact ⟨(([] : List ByteArray)), (0), (by first | rfl | (simp; done) | (simp [*]; done)), H', ⟨Nat.le_refl _⟩, ⟨by first | exact Kd.R_nil _ _ _ _ _ | exact Kd.N_nil _ _ _ _ _ | exact Kd.V_nil _ _ _ _ _ | exact Kd.Q_nil _ _ _ _ _ | exact Kd.S_nil _ _ _ _ _⟩, ⟨by (with_reducible repeat (first | apply Kd.R_alloc | apply Kd.R_drewN | apply Kd.R_drew)); exact HO103.out⟩, ⟨by repeat (first | (with_reducible first | exact HB.out | apply below_alloc | apply pw_below_drewN | apply below_drew1) | exact HB.out)⟩⟩
  case round =>
    clear H'
    try clear c2
    try clear p2
    try clear c3
    obtain ⟨x6_1, x13_1, rfl, HA, HK1, HO_6, HO_11, HB⟩ := hrel
    cases gk with
    | zero => exact absurd HA.out (by simp [pack_Texts.l0])
    | succ k1 =>
      have H := HA.out
      clear HA
      simp only [pack_Texts.l0] at H
      by_cases c6 : x13_1 < (t101.length : Int)
      · rw [if_pos c6] at H
        have c6b0 : decide (x13_1 < (t101.length : Int)) = true := decide_eq_true c6
        clear c6
        by_cases c7 : 0 ≤ x13_1
        · rw [if_pos c7] at H
          have c7b0 : decide (0 ≤ x13_1) = true := decide_eq_true c7
          clear c7
          by_cases c8 : x13_1 < (t101.length : Int)
          · rw [if_pos c8] at H
            have c8b0 : decide (x13_1 < (t101.length : Int)) = true := decide_eq_true c8
            clear c8
            by_cases c9 : ((rd_T47 t101 x13_1).f1) = 2
            · rw [if_pos c9] at H
              have c9b0 : (((rd_T47 t101 x13_1).f1) == 2) = true := beq_iff_eq.mpr c9
              have c9b1 : (((rd_T47 t101 x13_1).f1) != 2) = false := bne_eq_false_iff_eq.mpr c9
              clear c9
              by_cases c10 : x6_1.length < 8796093022208
              · rw [if_pos c10] at H
                have LMc10 := Aside0.mk c10
                clear c10
                obtain ⟨y106, hy106⟩ : ∃ y_ : List ByteArray, y_ = (x6_1 ++ [(rd_T47 t101 x13_1).f3]) := ⟨_, rfl⟩
                replace H : (pack_Texts.l0 k1 y106 t101 (t101.length : Int) (wrap64 (x13_1 + 1))) = some (r1, r2) := by first | (rw [hy106]; with_reducible exact H) | (have H2_ := (Option.bind_some _ _).symm.trans H; rw [hy106]; with_reducible exact H2_) | (have H2_ := (Option.bind_some _ _).symm.trans H; with_reducible exact H2_) | with_reducible exact H | (rw [hy106]; exact H) | exact H
                have Ny106 := Aside0.mk hy106
                clear hy106
                have H' := Aside0.mk H
                clear H
                have p104 : 0 ≤ (x13_1 : Int) := of_decide_eq_true (by first | (with_reducible assumption) | assumption)
                have q104 : x13_1 < (t101.length : Int) := of_decide_eq_true (by first | (with_reducible assumption) | assumption)
                obtain ⟨ad104, e104, hx104_0, hx104_1, hx104_2, hx104_3⟩ := at_T47 (Kd.R_reads' HO_11.out).2.2 x13_1 p104 q104
                cases e104
                replace p104 := eq_true p104
                replace q104 := eq_true q104
                go_wp2_with (first | ((with_reducible refine gate_dst (N := 8) rfl ?_); refine box_event ?hg (N := 8) ?hd (cs := #[.int .i64 0, .int .i64 0, .int .u64 0, .string (⟨#[]⟩ : ByteArray)]) (t := 47) ?hr ?_; (case hd => rfl); (case hg => rfl); (case hr => first | (go_simp; done) | (go_simp; rfl)); intro gb105 hg w11 hbox hb; have n0_ := Aside0.mk (Kd.R_below (by (with_reducible repeat (first | apply Kd.R_alloc | apply Kd.R_drewN | apply Kd.R_drew)); exact HO_6.out) hb); have n1_ := Aside0.mk (Kd.R_below (Kd.R_elderB (by (with_reducible repeat (first | apply Kd.R_alloc | apply Kd.R_drewN | apply Kd.R_drew)); exact HO_11.out) gb105 (Nat.le_of_eq hg.symm)) hb); have n2_ := Aside0.mk (below_step (by repeat (first | (with_reducible first | exact HB.out | apply below_alloc | apply pw_below_drewN | apply below_drew1) | exact HB.out)) hb); have n3_ := Aside0.mk (hbox); have n4_ := Aside0.mk ((by rw [hg]; exact (below_size (by repeat (first | (with_reducible first | exact HB.out | apply below_alloc | apply pw_below_drewN | apply below_drew1) | exact HB.out))) : w.heap.size ≤ gb105)); have n5_ := Aside0.mk ((by rw [hg]; exact (below_size (by repeat (first | (with_reducible first | exact HB.out | apply below_alloc | apply pw_below_drewN | apply below_drew1) | exact HB.out))) : w.heap.size ≤ gb105)); clear HO_6; clear HO_11; clear HB; have HO_6 := n0_; have HO_11 := n1_; have HB := n2_; have BK105 := n3_; have GW105 := n4_; have GE105 := n5_; clear n0_ n1_ n2_ n3_ n4_ n5_; clear hb hbox hg; have hcz12_0 : w11.cell? ⟨gb105, 0, none⟩ = some (.int .i64 0) := (blk_cell BK105.out 0).trans rfl; have hcz12_1 : w11.cell? ⟨gb105, 1, none⟩ = some (.int .i64 0) := (blk_cell BK105.out 1).trans rfl; have hcz12_2 : w11.cell? ⟨gb105, 2, none⟩ = some (.int .u64 0) := (blk_cell BK105.out 2).trans rfl; have hcz12_3 : w11.cell? ⟨gb105, 3, none⟩ = some (.string (⟨#[]⟩ : ByteArray)) := (blk_cell BK105.out 3).trans rfl; have hfz12_0 := blk_frozen BK105.out 0; have hfz12_1 := blk_frozen BK105.out 1; have hfz12_2 := blk_frozen BK105.out 2; have hfz12_3 := blk_frozen BK105.out 3) | ((with_reducible refine gate_builtin (b := .append) (xs := #[.tmp 20, .tmp 23]) rfl ?_); at_builtin; refine Kd.R_append Kd.string (w0 := w) w.heap.size rfl (.tmp 20) (.tmp 23) 64 9 (.string ⟨#[]⟩) 16 rfl Try.underlying64 info9 rfl (by decide) (by omega) u6 x6_1 ((rd_T47 t101 x13_1).f3) [.string ((rd_T47 t101 x13_1).f3)] (fun _ => True) (fun _ => False) rfl (by first | (go_simp; done) | (go_simp; rfl)) ?aP (fun _ hk => hk.elim) ?aF ?aO ?aB ?aS ?aL ?_; (case aP => exact rfl); (case aB => exact (by repeat (first | (with_reducible first | exact HB.out | apply below_alloc | apply pw_below_drewN | apply below_drew1 | refine below_set ?_ GE105.out) | exact HB.out))); (case aF => exact (fun _ _ => trivial)); (case aO => exact (by (with_reducible repeat (first | apply Kd.R_alloc | apply Kd.R_drewN | apply Kd.R_drew)); exact Kd.R_mono (Kd.R_far (p := ⟨gb105, 3, none⟩) (Kd.R_far (p := ⟨gb105, 2, none⟩) (Kd.R_far (p := ⟨gb105, 1, none⟩) (Kd.R_far (p := ⟨gb105, 0, none⟩) (Kd.R_types HO_6.out BK105.out (by decide)) (fun _ hk => hk.2) (.int .i64 ((rd_T47 t101 x13_1).f0))) (fun _ hk => hk.2) (.int .i64 ((rd_T47 t101 x13_1).f1))) (fun _ hk => hk.2) (.int .u64 ((rd_T47 t101 x13_1).f2))) (fun _ hk => hk.2) (.string ((rd_T47 t101 x13_1).f3))) (fun _ hk => trivial))); (case aS => exact (below_size (by repeat (first | (with_reducible first | exact HB.out | apply below_alloc | apply pw_below_drewN | apply below_drew1 | refine below_set ?_ GE105.out) | exact HB.out)))); (case aL => have := LMc10.out; omega); intro v107 w13 ho hb hg hat; rw [← Ny106.out] at ho; have n0_ := Aside0.mk (Kd.R_over' (by (with_reducible repeat (first | apply Kd.R_alloc | apply Kd.R_drewN | apply Kd.R_drew)); exact (Kd.R_mono (Kd.R_far (p := ⟨gb105, 3, none⟩) (Kd.R_far (p := ⟨gb105, 2, none⟩) (Kd.R_far (p := ⟨gb105, 1, none⟩) (Kd.R_far (p := ⟨gb105, 0, none⟩) (Kd.R_mono HO_11.out (fun k_ hk => (⟨hk, hk.2⟩ : _ ∧ k_ ≠ gb105))) (fun _ hk => hk.2) (.int .i64 ((rd_T47 t101 x13_1).f0))) (fun _ hk => hk.2) (.int .i64 ((rd_T47 t101 x13_1).f1))) (fun _ hk => hk.2) (.int .u64 ((rd_T47 t101 x13_1).f2))) (fun _ hk => hk.2) (.string ((rd_T47 t101 x13_1).f3))) (fun _ h_ => h_.1))) (Kd.R_typed (by (with_reducible repeat (first | apply Kd.R_alloc | apply Kd.R_drewN | apply Kd.R_drew)); exact (Kd.R_mono (Kd.R_far (p := ⟨gb105, 3, none⟩) (Kd.R_far (p := ⟨gb105, 2, none⟩) (Kd.R_far (p := ⟨gb105, 1, none⟩) (Kd.R_far (p := ⟨gb105, 0, none⟩) (Kd.R_types HO_6.out BK105.out (by decide)) (fun _ hk => hk.2) (.int .i64 ((rd_T47 t101 x13_1).f0))) (fun _ hk => hk.2) (.int .i64 ((rd_T47 t101 x13_1).f1))) (fun _ hk => hk.2) (.int .u64 ((rd_T47 t101 x13_1).f2))) (fun _ hk => hk.2) (.string ((rd_T47 t101 x13_1).f3))) (fun _ h_ => h_.1)))) (by decide) hg); have n1_ := Aside0.mk (blk_grown (g := gb105) (o := .cells #[.int .i64 ((rd_T47 t101 x13_1).f0), .int .i64 ((rd_T47 t101 x13_1).f1), .int .u64 ((rd_T47 t101 x13_1).f2), .string ((rd_T47 t101 x13_1).f3)] 47 (0, 0)) (by (with_reducible repeat (first | refine blk_drewN ?_ _ | refine blk_drew ?_ | refine blk_alloc ?_ _)); refine blk_put (cs := #[.int .i64 ((rd_T47 t101 x13_1).f0), .int .i64 ((rd_T47 t101 x13_1).f1), .int .u64 ((rd_T47 t101 x13_1).f2), .string (⟨#[]⟩ : ByteArray)]) ?_ 3 _ rfl; (with_reducible repeat (first | refine blk_drewN ?_ _ | refine blk_drew ?_ | refine blk_alloc ?_ _)); refine blk_put (cs := #[.int .i64 ((rd_T47 t101 x13_1).f0), .int .i64 ((rd_T47 t101 x13_1).f1), .int .u64 0, .string (⟨#[]⟩ : ByteArray)]) ?_ 2 _ rfl; (with_reducible repeat (first | refine blk_drewN ?_ _ | refine blk_drew ?_ | refine blk_alloc ?_ _)); refine blk_put (cs := #[.int .i64 ((rd_T47 t101 x13_1).f0), .int .i64 0, .int .u64 0, .string (⟨#[]⟩ : ByteArray)]) ?_ 1 _ rfl; (with_reducible repeat (first | refine blk_drewN ?_ _ | refine blk_drew ?_ | refine blk_alloc ?_ _)); refine blk_put (cs := #[.int .i64 0, .int .i64 0, .int .u64 0, .string (⟨#[]⟩ : ByteArray)]) ?_ 0 _ rfl; (with_reducible repeat (first | refine blk_drewN ?_ _ | refine blk_drew ?_ | refine blk_alloc ?_ _)); exact BK105.out) hg (Kd.R_ne HO_6.out BK105.out (by decide))); have n2_ := Aside0.mk (hb); have n3_ := Aside0.mk (ho); clear HO_11; clear BK105; clear HB; clear HO_6; have HO_11 := n0_; have BK105 := n1_; have HB := n2_; have HO108 := n3_; clear n0_ n1_ n2_ n3_; clear ho hb hg hat))
                go_roundg k1
                case measure => have := HK1.out; omega
                case rel => exact ⟨(y106), (wrap64 (x13_1 + 1)), (by first | rfl | (simp; done) | (simp [*]; done)), H', ⟨by have := HK1.out; omega⟩, ⟨by (with_reducible repeat (first | apply Kd.R_alloc | apply Kd.R_drewN | apply Kd.R_drew)); exact HO108.out⟩, ⟨by (with_reducible repeat (first | apply Kd.R_alloc | apply Kd.R_drewN | apply Kd.R_drew)); exact Kd.R_mono HO_11.out (fun _ hk => trivial)⟩, ⟨by repeat (first | (with_reducible first | exact HB.out | apply below_alloc | apply pw_below_drewN | apply below_drew1 | refine below_set ?_ GE105.out) | exact HB.out)⟩⟩
              · rw [if_neg c10] at H
                exact absurd H (by simp)
            · rw [if_neg c9] at H
              have c9b0 : (((rd_T47 t101 x13_1).f1) == 2) = false := beq_eq_false_iff_ne.mpr c9
              have c9b1 : (((rd_T47 t101 x13_1).f1) != 2) = true := bne_iff_ne.mpr c9
              simp only [Option.some.injEq, Prod.mk.injEq] at H
              obtain ⟨rfl, rfl⟩ := H
              have p104 : 0 ≤ (x13_1 : Int) := of_decide_eq_true (by first | (with_reducible assumption) | assumption)
              have q104 : x13_1 < (t101.length : Int) := of_decide_eq_true (by first | (with_reducible assumption) | assumption)
              obtain ⟨ad104, e104, hx104_0, hx104_1, hx104_2, hx104_3⟩ := at_T47 (Kd.R_reads' HO_11.out).2.2 x13_1 p104 q104
              cases e104
              replace p104 := eq_true p104
              replace q104 := eq_true q104
              go_wp2_with (first | ((with_reducible refine gate_dst (N := 8) rfl ?_); refine box_event ?hg (N := 8) ?hd (cs := #[.int .i64 0, .int .i64 0, .int .u64 0, .string (⟨#[]⟩ : ByteArray)]) (t := 47) ?hr ?_; (case hd => rfl); (case hg => rfl); (case hr => first | (go_simp; done) | (go_simp; rfl)); intro gb105 hg w14 hbox hb; have n0_ := Aside0.mk (Kd.R_below (by (with_reducible repeat (first | apply Kd.R_alloc | apply Kd.R_drewN | apply Kd.R_drew)); exact HO_6.out) hb); have n1_ := Aside0.mk (Kd.R_below (Kd.R_elderB (by (with_reducible repeat (first | apply Kd.R_alloc | apply Kd.R_drewN | apply Kd.R_drew)); exact HO_11.out) gb105 (Nat.le_of_eq hg.symm)) hb); have n2_ := Aside0.mk (below_step (by repeat (first | (with_reducible first | exact HB.out | apply below_alloc | apply pw_below_drewN | apply below_drew1) | exact HB.out)) hb); have n3_ := Aside0.mk (hbox); have n4_ := Aside0.mk ((by rw [hg]; exact (below_size (by repeat (first | (with_reducible first | exact HB.out | apply below_alloc | apply pw_below_drewN | apply below_drew1) | exact HB.out))) : w.heap.size ≤ gb105)); have n5_ := Aside0.mk ((by rw [hg]; exact (below_size (by repeat (first | (with_reducible first | exact HB.out | apply below_alloc | apply pw_below_drewN | apply below_drew1) | exact HB.out))) : w.heap.size ≤ gb105)); clear HO_6; clear HO_11; clear HB; have HO_6 := n0_; have HO_11 := n1_; have HB := n2_; have BK105 := n3_; have GW105 := n4_; have GE105 := n5_; clear n0_ n1_ n2_ n3_ n4_ n5_; clear hb hbox hg; have hcz15_0 : w14.cell? ⟨gb105, 0, none⟩ = some (.int .i64 0) := (blk_cell BK105.out 0).trans rfl; have hcz15_1 : w14.cell? ⟨gb105, 1, none⟩ = some (.int .i64 0) := (blk_cell BK105.out 1).trans rfl; have hcz15_2 : w14.cell? ⟨gb105, 2, none⟩ = some (.int .u64 0) := (blk_cell BK105.out 2).trans rfl; have hcz15_3 : w14.cell? ⟨gb105, 3, none⟩ = some (.string (⟨#[]⟩ : ByteArray)) := (blk_cell BK105.out 3).trans rfl; have hfz15_0 := blk_frozen BK105.out 0; have hfz15_1 := blk_frozen BK105.out 1; have hfz15_2 := blk_frozen BK105.out 2; have hfz15_3 := blk_frozen BK105.out 3))
              go_ret2
              exact ⟨_, by first | rfl | (simp [errW_none, errW_some] <;> rfl) | (simp [*, errW_none, errW_some] <;> rfl), by first | exact Kd.R_nil _ _ _ _ _ | exact Kd.N_nil _ _ _ _ _ | exact Kd.V_nil _ _ _ _ _ | exact Kd.Q_nil _ _ _ _ _ | exact Kd.S_nil _ _ _ _ _, by repeat (first | (with_reducible first | exact HB.out | apply below_alloc | apply pw_below_drewN | apply below_drew1 | refine below_set ?_ GE105.out) | exact HB.out)⟩
          · rw [if_neg c8] at H
            exact absurd H (by simp)
        · rw [if_neg c7] at H
          exact absurd H (by simp)
      · rw [if_neg c6] at H
        have c6b0 : decide (x13_1 < (t101.length : Int)) = false := decide_eq_false c6
        clear c6
        simp only [Option.some.injEq, Prod.mk.injEq] at H
        obtain ⟨rfl, rfl⟩ := H
        go_wp2
        go_ret2
        exact ⟨_, by first | rfl | (simp [errW_none, errW_some] <;> rfl) | (simp [*, errW_none, errW_some] <;> rfl), by (with_reducible repeat (first | apply Kd.R_alloc | apply Kd.R_drewN | apply Kd.R_drew)); exact HO_6.out, by repeat (first | (with_reducible first | exact HB.out | apply below_alloc | apply pw_below_drewN | apply below_drew1) | exact HB.out)⟩

end Go.Proofs.Ytohddbiedabmhaa.X
-- by xprint.py, a program of this session, over the kit's print.py
namespace Go.Proofs.Ytohddbiedabmhaa.X
open Go.RowKit Go.Proofs.YtohddbiedabmhaaW.PrintWords Go.Proofs.YtohddbiedabmhaaW.PrintLast Go.Proofs.YtohddbiedabmhaaW.PrintMore
attribute [local go_sem] max2_int min2_int max_two min_two max_three min_three max_four min_four   -- for this text's walks alone
set_option linter.unusedVariables false
set_option linter.unusedSimpArgs false

def pack_Texts_s.f (l0 : List (S47)) (a1 : Int) : Option (List ByteArray × Int) := if l0.length ≤ 3518437208883 then some ((textsL ((l0.filter fun x => x.f0 == a1).map flP) []).1, ((textsL ((l0.filter fun x => x.f0 == a1).map flP) []).2 : Int)) else none
theorem pack_Texts_eval (l : List (S47)) (hl : l.length ≤ 3518437208883) (d : Nat) : ∀ (k i : Nat) (out : List ByteArray), l.length - i = d → i ≤ l.length → out.length ≤ i → d < k →
    pack_Texts.l0 k out l l.length i = some ((textsL ((l.drop i).map flP) out).1, ((textsL ((l.drop i).map flP) out).2 : Int)) := by
  induction d with
  | zero =>
    intro k i out hd hi ho hk
    obtain ⟨k, rfl⟩ : ∃ m, k = m + 1 := ⟨k - 1, by omega⟩
    simp only [pack_Texts.l0]
    rw [if_neg (by omega), List.drop_of_length_le (by omega)]
    rfl
  | succ d ih =>
    intro k i out hd hi ho hk
    obtain ⟨k, rfl⟩ : ∃ m, k = m + 1 := ⟨k - 1, by omega⟩
    have h0 : i < l.length := by omega
    simp only [pack_Texts.l0, rdP l i h0]
    have ew : wrap64 ((i : Int) + 1) = ((i + 1 : Nat) : Int) := by rw [wrap64_id (by omega) (by omega)]; omega
    rw [if_pos (by omega), if_pos (by omega), if_pos (by omega), List.drop_eq_getElem_cons h0, List.map_cons, ew]
    clear ew
    generalize l[i] = x at *
    rw [textsL]
    by_cases t2 : x.f1 = 2
    · rw [if_pos t2, if_pos (show (flP x).2.1 = 2 from t2), if_pos (by omega)]
      exact ih k (i + 1) _ (by omega) (by omega) (by simp; omega) (by omega)
    · rw [if_neg t2, if_neg (show ¬ (flP x).2.1 = 2 from t2)]
      rfl
theorem pack_Texts_s.ev (l0 : List (S47)) (a1 : Int) (r) (h : pack_Texts_s.f l0 a1 = some r) : ∃ k, pack_Texts.f k l0 a1 = some r := by
  unfold pack_Texts_s.f at h
  split at h
  · rename_i hs
    rw [← h]
    have e : wire_All_s.f l0 a1 = some (l0.filter fun x => x.f0 == a1) := if_pos hs
    have hle : (l0.filter fun x => x.f0 == a1).length ≤ l0.length := List.length_filter_le _ _
    refine ⟨(l0.filter fun x => x.f0 == a1).length + 1, ?_⟩
    unfold pack_Texts.f
    rw [e, Option.bind_some]
    have := pack_Texts_eval (l0.filter fun x => x.f0 == a1) (by omega) _ ((l0.filter fun x => x.f0 == a1).length + 1) 0 [] rfl (by omega) (by simp) (by omega)
    simpa using this
  · cases h

set_option maxHeartbeats 1000000 in
theorem pack_Texts_s.calls (A0 : Option Addr) (c0 : Nat) (l0 : List (S47)) (a1 : Int) (r1 : List ByteArray) (r2 : Int) (w : World) (hr0 : Kd.C k47 w A0 l0.length l0) (hc0 : l0.length ≤ c0) (h : pack_Texts_s.f l0 a1 = some (r1, r2)) :
    Calls Try.prog 38 #[.slice A0 l0.length c0, .int .i64 a1] w fun e w' => ∃ v0_ : Value, e = .returned (.tuple #[v0_, .int .i64 r2]) ∧ Kd.R Kd.string 9 w' w.heap.size (fun _ => True) v0_ r1 ∧ Below w.heap.size w w' := by
  obtain ⟨k, hk⟩ := pack_Texts_s.ev l0 a1 _ h
  exact pack_Texts.calls k A0 c0 l0 a1 r1 r2 w hr0 hc0 hk

end Go.Proofs.Ytohddbiedabmhaa.X
