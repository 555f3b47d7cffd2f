import Derived.Test.YtpojamikfcmnoaaMShapePlaces0
import Derived.Test.YtpojamikfcmnoaaMShapePlaces5
import Derived.Test.YtpojamikfcmnoaaMShapePlaces2
-- by xprint.py, a program of this session, over the kit's print.py
namespace Go.Proofs.Ytpojamikfcmnoaa.X
open Go.RowKit Go.Proofs.YtpojamikfcmnoaaW.PrintWords Go.Proofs.YtpojamikfcmnoaaW.PrintLast Go.Proofs.YtpojamikfcmnoaaW.PrintMore
attribute [local go_sem] max2_int min2_int max_two min_two max_three min_three max_four min_four   -- for this text's walks alone
set_option linter.unusedVariables false
set_option linter.unusedSimpArgs false

def agatelaw05_Awake_s.f : Option Bool := some true
theorem agatelaw05_Awake_s.ev (r) (h : agatelaw05_Awake_s.f = some r) : ∃ k : Nat, agatelaw05_Awake.f = some r := by
  refine ⟨0, ?_⟩
  rw [← h]
  decide

set_option maxHeartbeats 1000000 in
theorem agatelaw05_Awake_s.calls  (r : Bool) (w : World) (h : agatelaw05_Awake_s.f  = some r) :
    Calls Try.prog 21 #[] w fun e w' => e = .returned (.bool r) ∧ Below w.heap.size w w' := by
  obtain ⟨k, hk⟩ := agatelaw05_Awake_s.ev  _ h
  exact agatelaw05_Awake.calls r w hk

end Go.Proofs.Ytpojamikfcmnoaa.X
-- by xprint.py, a program of this session, over the kit's print.py
namespace Go.Proofs.Ytpojamikfcmnoaa.X
open Go.RowKit Go.Proofs.YtpojamikfcmnoaaW.PrintWords Go.Proofs.YtpojamikfcmnoaaW.PrintLast Go.Proofs.YtpojamikfcmnoaaW.PrintMore
attribute [local go_sem] max2_int min2_int max_two min_two max_three min_three max_four min_four   -- for this text's walks alone
set_option linter.unusedVariables false
set_option linter.unusedSimpArgs false

/-! ### agateref05_Back: function 34 -/
def agateref05_Back.l0 : Nat → List Int → List Int → Int → Option (List Int)
  | 0, _, _, _ => none
  | k + 1, x0, x5, x6 => if x6 < (x0.length : Int) then (if 0 ≤ x6 then (if (rd x0 x6) = 1 then (if x6 < (x5.length : Int) then (agateref05_Back.l0 k x0 (x5.set (x6 : Int).toNat 0) (wrap64 (x6 + 1))) else (none)) else (agateref05_Back.l0 k x0 x5 (wrap64 (x6 + 1)))) else (none)) else (some x5)
def agateref05_Back.f (k : Nat) (l0 : List Int) (l1 : List Int) : Option (List Int) := (some (([] : List Int) : List Int)).bind fun y101 => (if 0 ≤ (wrap64 ((l1.length : Int) - (l0.length : Int))) then (if (wrap64 ((l1.length : Int) - (l0.length : Int))) ≤ (l1.length : Int) then (if y101.length + (l1.drop ((wrap64 ((l1.length : Int) - (l0.length : Int))) : Int).toNat).length < 17592186044416 then (agateref05_Back.l0 k l0 (y101 ++ (l1.drop ((wrap64 ((l1.length : Int) - (l0.length : Int))) : Int).toNat)) 0) else (none)) else (none)) else (none))
theorem agateref05_Back.mono_l : ∀ k, (∀ y0 y1 y2, LeO (agateref05_Back.l0 k y0 y1 y2) (agateref05_Back.l0 (k + 1) y0 y1 y2))
  | 0 => fun _ _ _ r h => by simp [agateref05_Back.l0] at h
  | k + 1 => by
    have ih0 := agateref05_Back.mono_l k
    · intro y0 y1 y2
      unfold agateref05_Back.l0
      repeat' first
      | (with_reducible exact ih0 _ _ _)
      | (with_reducible exact LeO.refl _)
      | (with_reducible exact LeO.none _)
      | (with_reducible refine LeO.ite ?_ ?_)
      | (with_reducible refine LeO.bind ?_ (fun _ => ?_))
      | exact ih0 _ _ _
      | exact LeO.none _
      | refine LeO.ite ?_ ?_
      | refine LeO.bind ?_ (fun _ => ?_)
theorem agateref05_Back.mono : ∀ a0 a1 k, LeO (agateref05_Back.f k a0 a1) (agateref05_Back.f (k + 1) a0 a1) := by
  intro a0 a1 k
  have ih0 := agateref05_Back.mono_l k
  unfold agateref05_Back.f
  repeat' first
      | (with_reducible exact ih0 _ _ _)
      | (with_reducible exact LeO.refl _)
      | (with_reducible exact LeO.none _)
      | (with_reducible refine LeO.ite ?_ ?_)
      | (with_reducible refine LeO.bind ?_ (fun _ => ?_))
      | exact ih0 _ _ _
      | exact LeO.none _
      | refine LeO.ite ?_ ?_
      | refine LeO.bind ?_ (fun _ => ?_)
set_option maxHeartbeats 8000000 in
set_option maxRecDepth 100000 in
theorem agateref05_Back.calls (k : Nat) (A0 : Option Addr) (c0 : Nat) (l0 : List Int) (A1 : Option Addr) (c1 : Nat) (l1 : List Int) (r : List Int) (w : World) (hr0 : Kd.C (Kd.int .i64) w A0 l0.length l0) (hc0 : l0.length ≤ c0) (hr1 : Kd.C (Kd.int .i64) w A1 l1.length l1) (hc1 : l1.length ≤ c1) (h : agateref05_Back.f k l0 l1 = some r) :
    Calls Try.prog 34 #[.slice A0 l0.length c0, .slice A1 l1.length c1] w fun e w' => ∃ v0_ : Value, e = .returned (v0_) ∧ Kd.R (Kd.int .i64) 2 w' w.heap.size (fun _ => True) v0_ r ∧ Below w.heap.size w w' := by
  have HR0 := Aside0.mk hr0
  have HC0 := Aside0.mk hc0
  clear hr0 hc0
  have HR1 := Aside0.mk hr1
  have HC1 := Aside0.mk hc1
  clear hr1 hc1
  have HB := Aside0.mk (Below.refl w.heap.size w)
  have H : ((some (([] : List Int) : List Int)).bind fun y101 => (if 0 ≤ (wrap64 ((l1.length : Int) - (l0.length : Int))) then (if (wrap64 ((l1.length : Int) - (l0.length : Int))) ≤ (l1.length : Int) then (if y101.length + (l1.drop ((wrap64 ((l1.length : Int) - (l0.length : Int))) : Int).toNat).length < 17592186044416 then (agateref05_Back.l0 k l0 (y101 ++ (l1.drop ((wrap64 ((l1.length : Int) - (l0.length : Int))) : Int).toNat)) 0) else (none)) else (none)) else (none))) = some r := h
  clear h
  obtain ⟨y101, hy101⟩ : ∃ y_ : List Int, y_ = (([] : List Int)) := ⟨_, rfl⟩
  replace H : (if 0 ≤ (wrap64 ((l1.length : Int) - (l0.length : Int))) then (if (wrap64 ((l1.length : Int) - (l0.length : Int))) ≤ (l1.length : Int) then (if y101.length + (l1.drop ((wrap64 ((l1.length : Int) - (l0.length : Int))) : Int).toNat).length < 17592186044416 then (agateref05_Back.l0 k l0 (y101 ++ (l1.drop ((wrap64 ((l1.length : Int) - (l0.length : Int))) : Int).toNat)) 0) else (none)) else (none)) else (none)) = some r := by first | (rw [hy101]; with_reducible exact H) | (have H2_ := (Option.bind_some _ _).symm.trans H; rw [hy101]; with_reducible exact H2_) | (have H2_ := (Option.bind_some _ _).symm.trans H; with_reducible exact H2_) | with_reducible exact H | (rw [hy101]; exact H) | exact H
  have Ny101 := Aside0.mk hy101
  clear hy101
  obtain ⟨ji3, hji3⟩ : ∃ j_ : Int, (wrap64 ((l1.length : Int) - (l0.length : Int))) = j_ := ⟨_, rfl⟩
  replace H : (if 0 ≤ (ji3) then (if (ji3) ≤ (l1.length : Int) then (if y101.length + (l1.drop ((ji3) : Int).toNat).length < 17592186044416 then (agateref05_Back.l0 k l0 (y101 ++ (l1.drop ((ji3) : Int).toNat)) 0) else (none)) else (none)) else (none)) = some r := by first | (rw [hji3] at H; exact H) | (simp only [hji3] at H ⊢; exact H)
  have hji3w : (IntKind.i64.wrap ((l1.length : Int) - (l0.length : Int))) = ji3 := (i64_w _).trans hji3
  by_cases c4 : 0 ≤ (ji3)
  · rw [if_pos c4] at H
    have c4b0 := eq_true c4
    have c4b1 : decide (0 ≤ (ji3)) = true := decide_eq_true c4
    clear c4
    by_cases c5 : (ji3) ≤ (l1.length : Int)
    · rw [if_pos c5] at H
      have c5b0 := eq_true c5
      have c5b1 : decide ((ji3) ≤ (l1.length : Int)) = true := decide_eq_true c5
      clear c5
      by_cases c6 : y101.length + (l1.drop ((ji3) : Int).toNat).length < 17592186044416
      · rw [if_pos c6] at H
        have LMc6 := Aside0.mk c6
        clear c6
        obtain ⟨y105, hy105⟩ : ∃ y_ : List Int, y_ = (y101 ++ (l1.drop ((ji3) : Int).toNat)) := ⟨_, rfl⟩
        replace H : (agateref05_Back.l0 k l0 y105 0) = some r := by first | (rw [hy105]; with_reducible exact H) | (have H2_ := (Option.bind_some _ _).symm.trans H; rw [hy105]; with_reducible exact H2_) | (have H2_ := (Option.bind_some _ _).symm.trans H; with_reducible exact H2_) | with_reducible exact H | (rw [hy105]; exact H) | exact H
        have Ny105 := Aside0.mk hy105
        clear hy105
        have H' := Aside0.mk H
        clear H
        go_enter Try.func34, Try.ntmps34
        go_wp2_with (first | ((with_reducible refine gate_dst (N := 7) rfl ?_); refine Kd.R_lit (Kd.int .i64) _ 2 ?hg (N := 7) ?hd (xs := ([] : List Int)) (inner := []) (ok := fun _ => True) (okp := fun _ => True) ?hr ?hp (fun _ hk => hk) trivial (Below.refl _ _) (Nat.le_refl _) (by simp) ?_; (case hd => rfl); (case hg => rfl); (case hr => first | (go_simp; done) | (go_simp; rfl)); (case hp => exact (Reps.none _ _)); intro v102 w7 ho8 hb hg_ hnew_; clear hg_ hnew_; (first | rw [← Ny101.out] at ho8 | (simp only [Int.reduceToNat] at ho8; rw [← Ny101.out] at ho8)); have n0_ := Aside0.mk (Kd.R_lower ho8 (below_size (by repeat (first | (with_reducible first | exact HB.out | apply below_alloc | apply pw_below_drewN | apply below_drew1) | exact HB.out)))); have n1_ := Aside0.mk (below_step (by repeat (first | (with_reducible first | exact HB.out | apply below_alloc | apply pw_below_drewN | apply below_drew1) | exact HB.out)) hb); clear HB; have HO103 := n0_; have HB := n1_; clear n0_ n1_; clear hb ho8; obtain ⟨i09, hi09, _, hsz9, _⟩ := info_parts info2; obtain ⟨A9, hcut9, hA9, hC9⟩ := print_drop_of (P := Try.prog) (Value.int .i64) 0 39 2 .i64 Try.underlying39 hi09 hsz9 A1 c1 l1 (ji3) (of_decide_eq_true (by first | (with_reducible assumption) | assumption)) (of_decide_eq_true (by first | (with_reducible assumption) | assumption)) HC1.out; have HR104 := Aside0.mk (Kd.C_of_reads (h1 := fun _ => rfl) (hA9 _ (Kd.reads_of_C HR1.out))); have HC104 := Aside0.mk hC9; clear hA9 hC9 hi09 hsz9) | ((with_reducible refine gate_builtin (b := .append) (xs := #[.tmp 7, .tmp 14]) rfl ?_); at_builtin; refine Kd.R_append_rows (Kd.int .i64) (w0 := w) w.heap.size rfl (.tmp 7) (.tmp 14) 39 2 (.int .i64 0) 8 rfl Try.underlying39 info2 rfl (by decide) (by omega) v102 y101 (l1.drop ((ji3) : Int).toNat) _ _ _ (fun _ => True) (fun _ => False) rfl rfl ?aO ?aR (fun _ _ h => h) (fun _ h => h.elim) ?aF ?aB ?aS ?aL ?_; (case aR => first | (rw [← show (l1.drop ((ji3) : Int).toNat).length = (l1.length - (ji3).toNat) from List.length_drop]; repeat (first | exact (Kd.C_below HR104.out HB.out) | (with_reducible refine Kd.C_alloc ?_ _) | (with_reducible refine Kd.C_drewN ?_ _) | (with_reducible refine Kd.C_drew ?_))) | (repeat (first | exact (Kd.C_below HR104.out HB.out) | (with_reducible refine Kd.C_alloc ?_ _) | (with_reducible refine Kd.C_drewN ?_ _) | (with_reducible refine Kd.C_drew ?_)))); (case aB => exact (by repeat (first | (with_reducible first | exact HB.out | apply below_alloc | apply pw_below_drewN | apply below_drew1) | exact HB.out))); (case aF => exact (fun _ _ => trivial)); (case aO => exact (by (with_reducible repeat (first | apply Kd.R_alloc | apply Kd.R_drewN | apply Kd.R_drew)); exact HO103.out)); (case aS => exact (below_size (by repeat (first | (with_reducible first | exact HB.out | apply below_alloc | apply pw_below_drewN | apply below_drew1) | exact HB.out)))); (case aL => have := LMc6.out; have hlx_ := (show (l1.drop ((ji3) : Int).toNat).length = (l1.length - (ji3).toNat) from List.length_drop); omega); intro v106 w10 ho hb hg hat; rw [← Ny105.out] at ho; have n0_ := Aside0.mk (hb); have n1_ := Aside0.mk (ho); clear HB; clear HO103; have HB := n0_; have HO107 := n1_; clear n0_ n1_; clear ho hb hg hat))
        go_loopg [6] k (fun kq v6 w' => ∃ (x5_1 : List Int) (x6_1 : Int), v6 = .int .i64 x6_1 ∧ Aside0 (agateref05_Back.l0 kq l0 x5_1 x6_1 = some r) ∧ Aside0 (kq ≤ k) ∧ Aside0 (Kd.R (Kd.int .i64) 2 w' w.heap.size (fun _ => True) v106 x5_1) ∧ Aside0 (Below w.heap.size w w'))
        case atStart => exact ⟨(y105), (0), (by first | rfl | (simp; done) | (simp [*]; done)), H', ⟨Nat.le_refl _⟩, ⟨by (with_reducible repeat (first | apply Kd.R_alloc | apply Kd.R_drewN | apply Kd.R_drew)); exact HO107.out⟩, ⟨by repeat (first | (with_reducible first | exact HB.out | apply below_alloc | apply pw_below_drewN | apply below_drew1) | exact HB.out)⟩⟩
        case round =>
          clear H'
          try clear c1
          try clear p2
          try clear c3
          try clear c4
          try clear c4b0
          try clear c4b1
          try clear c5
          try clear c5b0
          try clear c5b1
          try clear c6
          try clear p6
          obtain ⟨x5_1, x6_1, rfl, HA, HK1, HO_5, HB⟩ := hrel
          cases gk with
          | zero => exact absurd HA.out (by simp [agateref05_Back.l0])
          | succ k1 =>
            have H := HA.out
            clear HA
            simp only [agateref05_Back.l0] at H
            by_cases c11 : x6_1 < (l0.length : Int)
            · rw [if_pos c11] at H
              have c11b0 : decide (x6_1 < (l0.length : Int)) = true := decide_eq_true c11
              clear c11
              by_cases c12 : 0 ≤ x6_1
              · rw [if_pos c12] at H
                have c12b0 : decide (0 ≤ x6_1) = true := decide_eq_true c12
                clear c12
                by_cases c13 : (rd l0 x6_1) = 1
                · rw [if_pos c13] at H
                  have c13b0 : ((rd l0 x6_1) == 1) = true := beq_iff_eq.mpr c13
                  have c13b1 : ((rd l0 x6_1) != 1) = false := bne_eq_false_iff_eq.mpr c13
                  clear c13
                  by_cases c14 : x6_1 < (x5_1.length : Int)
                  · rw [if_pos c14] at H
                    have c14b0 : decide (x6_1 < (x5_1.length : Int)) = true := decide_eq_true c14
                    clear c14
                    obtain ⟨y109, hy109⟩ : ∃ y_ : List Int, y_ = (x5_1.set (x6_1 : Int).toNat 0) := ⟨_, rfl⟩
                    replace H : (agateref05_Back.l0 k1 l0 y109 (wrap64 (x6_1 + 1))) = some r := by first | (rw [hy109]; with_reducible exact H) | (have H2_ := (Option.bind_some _ _).symm.trans H; rw [hy109]; with_reducible exact H2_) | (have H2_ := (Option.bind_some _ _).symm.trans H; with_reducible exact H2_) | with_reducible exact H | (rw [hy109]; exact H) | exact H
                    have Ny109 := Aside0.mk hy109
                    clear hy109
                    have H' := Aside0.mk H
                    clear H
                    have p108 : 0 ≤ (x6_1 : Int) := of_decide_eq_true (by first | (with_reducible assumption) | assumption)
                    have q108 : x6_1 < (l0.length : Int) := of_decide_eq_true (by first | (with_reducible assumption) | assumption)
                    obtain ⟨ad108, e108, hx108_0⟩ := Kd.at_int HR0.out x6_1 p108 q108
                    cases e108
                    replace hx108_0 := (HB.out.cell (World.block_lt_of_cell? w _ hx108_0)).trans hx108_0
                    replace p108 := eq_true p108
                    replace q108 := eq_true q108
                    have p15 : 0 ≤ (x6_1 : Int) := of_decide_eq_true (by first | (with_reducible assumption) | assumption)
                    have q15 : (x6_1 : Int) < ((x5_1.length : Int) : Int) := of_decide_eq_true (by first | (with_reducible assumption) | assumption)
                    obtain ⟨go15, co15, eo15, gb15, gl15, cl15, HG15⟩ := Kd.R_form HO_5.out (by omega)
                    (first | cases eo15 | (injection eo15 with ea_ en_ ec_; (first | subst ea_ | (injection ea_ with ea_; subst ea_)); subst ec_; clear en_))
                    have GB15 := Aside0.mk gb15
                    have GG15 := Aside0.mk HG15
                    clear gb15 gl15 HG15
                    obtain ⟨hx15_0, hf15_0⟩ := Kd.R_celln 0 HO_5.out (x6_1 : Int) p15 q15
                    replace p15 := eq_true p15
                    replace q15 := eq_true q15
                    have HP16 := Kd.R_putg HO_5.out (x6_1 : Int) 0
                    go_wp2_with (first | ((with_reducible refine gate_store (t := 2) (p := 29) rfl ?_); refine store_event (t := 2) (p := 29) (v := ?vo_w17) (w1 := (wr.setCell ⟨go15, (x6_1 : Int).toNat, none⟩ (.int .i64 0))) ?hg ?ho ?hn ?hr ?_; (case ho => rfl); (case hg => rfl); (case hn => rfl); (case hr => first | (go_simp; done) | (go_simp; rfl)); intro w17 hw; have hg : wr.grownBy w17 (some go15) := (by rw [hw]; exact HP16.2); have hp_ : Kd.R (Kd.int .i64) 2 w17 w.heap.size (fun _ => True) (.slice (some ⟨go15, 0, none⟩) x5_1.length co15) y109 := (by rw [hw, Ny109.out]; exact HP16.1); clear HP16; have n0_ := Aside0.mk (hp_); have n1_ := Aside0.mk ((by rw [hw]; exact below_set (HB.out) GB15.out : Below w.heap.size w w17)); clear HO_5; clear HB; have HO_5 := n0_; have HB := n1_; clear n0_ n1_; clear hg hw hp_))
                    go_roundg k1
                    case measure => have := HK1.out; omega
                    case rel => exact ⟨(y109), (wrap64 (x6_1 + 1)), (by first | rfl | (simp; done) | (simp [*]; done)), H', ⟨by have := HK1.out; omega⟩, ⟨by (with_reducible repeat (first | apply Kd.R_alloc | apply Kd.R_drewN | apply Kd.R_drew)); exact HO_5.out⟩, ⟨by repeat (first | (with_reducible first | exact HB.out | apply below_alloc | apply pw_below_drewN | apply below_drew1) | exact HB.out)⟩⟩
                  · rw [if_neg c14] at H
                    exact absurd H (by simp)
                · rw [if_neg c13] at H
                  have c13b0 : ((rd l0 x6_1) == 1) = false := beq_eq_false_iff_ne.mpr c13
                  have c13b1 : ((rd l0 x6_1) != 1) = true := bne_iff_ne.mpr c13
                  have H' := Aside0.mk H
                  clear H
                  have p108 : 0 ≤ (x6_1 : Int) := of_decide_eq_true (by first | (with_reducible assumption) | assumption)
                  have q108 : x6_1 < (l0.length : Int) := of_decide_eq_true (by first | (with_reducible assumption) | assumption)
                  obtain ⟨ad108, e108, hx108_0⟩ := Kd.at_int HR0.out x6_1 p108 q108
                  cases e108
                  replace hx108_0 := (HB.out.cell (World.block_lt_of_cell? w _ hx108_0)).trans hx108_0
                  replace p108 := eq_true p108
                  replace q108 := eq_true q108
                  go_wp2
                  go_roundg k1
                  case measure => have := HK1.out; omega
                  case rel => exact ⟨(x5_1), (wrap64 (x6_1 + 1)), (by first | rfl | (simp; done) | (simp [*]; done)), H', ⟨by have := HK1.out; omega⟩, ⟨by (with_reducible repeat (first | apply Kd.R_alloc | apply Kd.R_drewN | apply Kd.R_drew)); exact HO_5.out⟩, ⟨by repeat (first | (with_reducible first | exact HB.out | apply below_alloc | apply pw_below_drewN | apply below_drew1) | exact HB.out)⟩⟩
              · rw [if_neg c12] at H
                exact absurd H (by simp)
            · rw [if_neg c11] at H
              have c11b0 : decide (x6_1 < (l0.length : Int)) = false := decide_eq_false c11
              clear c11
              obtain rfl := Option.some.inj H
              go_wp2
              go_ret
              exact ⟨_, by first | rfl | (simp [errW_none, errW_some] <;> rfl) | (simp only [← hji3]; first | rfl | (simp [errW_none, errW_some] <;> rfl)) | (simp [*, errW_none, errW_some] <;> rfl), by (with_reducible repeat (first | apply Kd.R_alloc | apply Kd.R_drewN | apply Kd.R_drew)); exact HO_5.out, by repeat (first | (with_reducible first | exact HB.out | apply below_alloc | apply pw_below_drewN | apply below_drew1) | exact HB.out)⟩
      · rw [if_neg c6] at H
        exact absurd H (by simp)
    · rw [if_neg c5] at H
      exact absurd H (by simp)
  · rw [if_neg c4] at H
    exact absurd H (by simp)

end Go.Proofs.Ytpojamikfcmnoaa.X
-- by xprint.py, a program of this session, over the kit's print.py
namespace Go.Proofs.Ytpojamikfcmnoaa.X
open Go.RowKit Go.Proofs.YtpojamikfcmnoaaW.PrintWords Go.Proofs.YtpojamikfcmnoaaW.PrintLast Go.Proofs.YtpojamikfcmnoaaW.PrintMore
attribute [local go_sem] max2_int min2_int max_two min_two max_three min_three max_four min_four   -- for this text's walks alone
set_option linter.unusedVariables false
set_option linter.unusedSimpArgs false

def agateref05_Back_s.f (l0 l1 : List Int) : Option (List Int) := if l0.length ≤ l1.length ∧ l1.length ≤ 1000000 then some (backL l0 (l1.drop (l1.length - l0.length))) else none
theorem ref05Back_l0 (ds : List Int) : ∀ (ps pre don : List Int) (k : Nat), ds.length < k → ds.length = ps.length → pre.length = don.length → pre.length + ds.length ≤ 1000000 →
    agateref05_Back.l0 k (pre ++ ds) (don ++ ps) (pre.length : Int) = some (don ++ backL ds ps) := by
  induction ds with
  | nil =>
    intro ps pre don k hk hl _ _
    obtain ⟨k, rfl⟩ : ∃ m, k = m + 1 := ⟨k - 1, by omega⟩
    rw [agateref05_Back.l0, if_neg (by simp)]
    rw [List.eq_nil_of_length_eq_zero hl.symm]; rfl
  | cons d ds ih =>
    intro ps pre don k hk hl hp hb
    rw [List.length_cons] at hk hb
    cases ps with
    | nil => cases hl
    | cons p ps =>
      obtain ⟨k, rfl⟩ : ∃ m, k = m + 1 := ⟨k - 1, by omega⟩
      have ew : wrap64 ((pre.length : Int) + 1) = (((pre ++ [d]).length : Nat) : Int) := by
        rw [wrap64_id (by omega) (by omega), List.length_append, List.length_singleton]; rfl
      have eq1 : pre ++ d :: ds = (pre ++ [d]) ++ ds := by simp
      have hl' : ds.length = ps.length := Nat.succ.inj hl
      rw [agateref05_Back.l0, if_pos (by rw [List.length_append, List.length_cons]; omega), if_pos (by omega), rd_mid pre d ds _ rfl, ew, backL]
      clear ew
      by_cases h : d = 1
      · rw [if_pos h, if_pos (by rw [List.length_append, List.length_cons]; omega), if_pos h, set_mid don p 0 ps _ (by omega), eq1]
        have := ih ps (pre ++ [d]) (don ++ [0]) k (by omega) hl' (by simp; omega) (by simp; omega)
        rw [show don ++ 0 :: ps = (don ++ [0]) ++ ps by simp, this]; simp
      · rw [if_neg h, if_neg h, eq1]
        have := ih ps (pre ++ [d]) (don ++ [p]) k (by omega) hl' (by simp; omega) (by simp; omega)
        rw [show don ++ p :: ps = (don ++ [p]) ++ ps by simp, this]; simp
theorem agateref05_Back_s.ev (l0 l1 : List Int) (r) (h : agateref05_Back_s.f l0 l1 = some r) : ∃ k, agateref05_Back.f k l0 l1 = some r := by
  unfold agateref05_Back_s.f at h
  split at h
  · rename_i hs
    obtain ⟨h0, h1⟩ := hs
    rw [← h]
    refine ⟨l0.length + 1, ?_⟩
    unfold agateref05_Back.f
    have em : wrap64 ((l1.length : Int) - (l0.length : Int)) = ((l1.length - l0.length : Nat) : Int) := by
      rw [wrap64_id (by omega) (by omega)]; omega
    rw [Option.bind_some, em, if_pos (by omega), if_pos (by omega), Int.toNat_natCast, if_pos (by rw [List.length_drop]; simp; omega), List.nil_append]
    exact ref05Back_l0 l0 _ [] [] _ (by omega) (by rw [List.length_drop]; omega) rfl (by simp; omega)
  · cases h

set_option maxHeartbeats 1000000 in
theorem agateref05_Back_s.calls (A0 : Option Addr) (c0 : Nat) (l0 : List Int) (A1 : Option Addr) (c1 : Nat) (l1 : List Int) (r : List Int) (w : World) (hr0 : Kd.C (Kd.int .i64) w A0 l0.length l0) (hc0 : l0.length ≤ c0) (hr1 : Kd.C (Kd.int .i64) w A1 l1.length l1) (hc1 : l1.length ≤ c1) (h : agateref05_Back_s.f l0 l1 = some r) :
    Calls Try.prog 34 #[.slice A0 l0.length c0, .slice A1 l1.length c1] w fun e w' => ∃ v0_ : Value, e = .returned (v0_) ∧ Kd.R (Kd.int .i64) 2 w' w.heap.size (fun _ => True) v0_ r ∧ Below w.heap.size w w' := by
  obtain ⟨k, hk⟩ := agateref05_Back_s.ev l0 l1 _ h
  exact agateref05_Back.calls k A0 c0 l0 A1 c1 l1 r w hr0 hc0 hr1 hc1 hk

end Go.Proofs.Ytpojamikfcmnoaa.X
