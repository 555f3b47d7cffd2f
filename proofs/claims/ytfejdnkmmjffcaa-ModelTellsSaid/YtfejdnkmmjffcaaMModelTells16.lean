import Derived.Test.YtfejdnkmmjffcaaMModelTells3
import Derived.Test.YtfejdnkmmjffcaaMModelTells5
import Derived.Test.YtfejdnkmmjffcaaMModelTells4
import Derived.Test.YtfejdnkmmjffcaaMModelTells15
namespace Go.Proofs.Ytfejdnkmmjffcaa.X
open Go.RowKit Go.Proofs.YtfejdnkmmjffcaaW.PrintWords Go.Proofs.YtfejdnkmmjffcaaW.PrintLast Go.Proofs.YtfejdnkmmjffcaaW.PrintMore
attribute [local go_sem] max2_int min2_int max_two min_two max_three min_three max_four min_four
set_option linter.unusedVariables false
set_option linter.unusedSimpArgs false
def model_Model_Clone_2.f (a0_0 : ByteArray) (a0_1 : Int) (l0_2 : List Int) (a0_3 : ByteArray) : Option (ByteArray × Int × List Int × ByteArray) := (slices_Clone_int64.f l0_2).bind fun t103 => (some (a0_0, a0_1, t103, a0_3))
set_option maxHeartbeats 8000000 in
set_option maxRecDepth 100000 in
theorem model_Model_Clone_2.calls (a0_0 : ByteArray) (a0_1 : Int) (A0_2 : Option Addr) (c0_2 : Nat) (l0_2 : List Int) (a0_3 : ByteArray) (r1 : ByteArray) (r2 : Int) (r3 : List Int) (r4 : ByteArray) (w : World) (hr0_2 : Kd.C (Kd.int .i64) w A0_2 l0_2.length l0_2) (hc0_2 : l0_2.length ≤ c0_2) (h : model_Model_Clone_2.f a0_0 a0_1 l0_2 a0_3 = some (r1, r2, r3, r4)) :
  Calls Try.prog 29 #[.agg #[.string a0_0, .int .i64 a0_1, .slice A0_2 l0_2.length c0_2, .string a0_3]] w fun e w' => ∃ v2_ : Value, e = .returned (.agg #[.string r1, .int .i64 r2, v2_, .string r4]) ∧ Kd.R (Kd.int .i64) 2 w' w.heap.size (fun _ => True) v2_ r3 ∧ Below w.heap.size w w' := by
 have hu42 := Try.underlying42; have HR0_2 := mk0 hr0_2; have HC0_2 := mk0 hc0_2; clear hr0_2 hc0_2; have HB := mk0 (Below.refl w.heap.size w); have H : ((slices_Clone_int64.f l0_2).bind fun t103 => (some (a0_0, a0_1, t103, a0_3))) = some (r1, r2, r3, r4) := h; clear h; replace H := bnd H; obtain ⟨t103, A2, H⟩ := H
 simp only [Option.some.injEq, Prod.mk.injEq] at H
 obtain ⟨rfl, rfl, rfl, rfl⟩ := H
 go_enter Try.func29, Try.ntmps29
 go_wp2_with (first | ((with_reducible refine gate_dst (N := 1) rfl ?_); refine boxE (N := 1) (cs := #[.string a0_0, .int .i64 a0_1, .slice A0_2 l0_2.length c0_2, .string a0_3]) (t := 42) ?_; intro gb101 hg w3 hbox hb; have BK101 := mk0 hbox; have GW101 := gwS HB hg; have GE101 := gwS HB hg; replace HB := hbS HB hb; clear hb hbox hg) | ((with_reducible refine gate_dst (N := 2) rfl ?_); refine boxE (N := 2) (cs := #[.string (⟨#[]⟩ : ByteArray), .int .i64 0, .slice none 0 0, .string (⟨#[]⟩ : ByteArray)]) (t := 42) ?_; intro gb102 hg w4 hbox hb; have BK102 := mk0 hbox; have GW102 := gwS HB hg; have GE102 := gwS HB hg; replace HB := hbS HB hb; have NB101_102 := neS BK101 hg; have NB102_101 := neT BK101 hg; replace BK101 := bkS BK101 hb; clear hb hbox hg; have hnb5 := NB101_102.out; have hnc5 := NB102_101.out; obtain ⟨hcz6_0, hcz6_1, hcz6_2, hcz6_3⟩ := cz4 BK101; have hfz6_0 := fz BK101 0; have hfz6_1 := fz BK101 1; have hfz6_2 := fz BK101 2; have hfz6_3 := fz BK101 3) | ((with_reducible refine gate_callee (f := 26) rfl ?_); refine glE (some 5) rfl rfl Try.func26 (by kernel_rfl) rfl #[.slice A0_2 l0_2.length c0_2] rfl ?_; (with_reducible refine (slices_Clone_int64.calls _ _ l0_2 t103 _ ?side1 ?side2 A2.out).mono ?_); (case side1 => repeat (first | exact (Kd.C_below HR0_2.out HB.out) | (with_reducible refine Kd.C_alloc ?_ _) | (with_reducible refine Kd.C_drewN ?_ _) | (with_reducible refine Kd.C_drew ?_))); (case side2 => exact HC0_2.out); rintro e w7 ⟨v104, rfl, ho0, hb⟩; refine ⟨_, rfl, ?_⟩; have HO105 := mk0 (Kd.R_lower ho0 (below_size (hbA HB))); replace BK101 := bkS BK101 hb; replace BK102 := bkS BK102 hb; replace HB := hbS HB hb; (try clear hb); (try clear ho0); obtain ⟨Ao8, co8, eo8⟩ := Kd.R_slice HO105.out; subst eo8; obtain ⟨hcz9_0, hcz9_1, hcz9_2, hcz9_3⟩ := cz4 BK101; have hfz9_0 := fz BK101 0; have hfz9_1 := fz BK101 1; have hfz9_2 := fz BK101 2; have hfz9_3 := fz BK101 3; obtain ⟨hcz10_0, hcz10_1, hcz10_2, hcz10_3⟩ := cz4 BK102; have hfz10_0 := fz BK102 0; have hfz10_1 := fz BK102 1; have hfz10_2 := fz BK102 2; have hfz10_3 := blk_frozen BK102.out 3))
 refine bodyPost_ret (results_cell_row rfl _ _ gb102 42 #[.string a0_0, .int .i64 a0_1, .slice Ao8 t103.length co8, .string a0_3] (0, 0) _ rfl (bkW BK102) Try.underlying42 rfl (by kernel_rfl)) rfl ?_
 exact ⟨_, cl3, by (with_reducible repeat (first | apply Kd.R_alloc | apply Kd.R_drewN | apply Kd.R_drew)); exact Kd.R_mono (Kd.R_far (p := ⟨gb102, 3, none⟩) (Kd.R_far (p := ⟨gb102, 2, none⟩) (Kd.R_far (p := ⟨gb102, 1, none⟩) (Kd.R_far (p := ⟨gb102, 0, none⟩) (Kd.R_far (p := ⟨gb101, 2, none⟩) (Kd.R_types (Kd.R_types HO105.out BK101.out (by decide)) BK102.out (by decide)) (fun _ hk => hk.1.2) (.slice Ao8 t103.length co8)) (fun _ hk => hk.2) (.string a0_0)) (fun _ hk => hk.2) (.int .i64 a0_1)) (fun _ hk => hk.2) (.slice Ao8 t103.length co8)) (fun _ hk => hk.2) (.string a0_3)) (fun _ hk => trivial), hbA HB⟩
def tensor_Tensor_28.l0 : Nat → List (S42) → List (S42) → Int → Int → Option ((List (S42)))
 | 0, _, _, _, _ => none
 | k + 1, x5, x8, x9, x10 => if x10 < x9 then (if 0 ≤ x10 then (if x10 < (x8.length : Int) then ((model_Model_Clone_2.f ((rd_T42 x8 x10).f0) ((rd_T42 x8 x10).f1) ((rd_T42 x8 x10).f2) ((rd_T42 x8 x10).f3)).bind fun bt103 => (if x5.length < 2199023255552 then (tensor_Tensor_28.l0 k (x5 ++ [(⟨bt103.1, bt103.2.1, bt103.2.2.1, bt103.2.2.2⟩ : S42)]) x8 x9 (wrap64 (x10 + 1))) else (none))) else (none)) else (none)) else (some x5)
def tensor_Tensor_28.f (k : Nat) (l0 : List (S42)) : Option ((List (S42))) := tensor_Tensor_28.l0 k ([] : List (S42)) l0 (l0.length : Int) 0
set_option maxHeartbeats 8000000 in
set_option maxRecDepth 100000 in
theorem tensor_Tensor_28.calls (k : Nat) (A0 : Option Addr) (c0 : Nat) (l0 : List (S42)) (r : List (S42)) (w : World) (hr0 : Kd.C k42 w A0 l0.length l0) (hc0 : l0.length ≤ c0) (h : tensor_Tensor_28.f k l0 = some r) :
  Calls Try.prog 28 #[.slice A0 l0.length c0, .func (Fn.func 29) #[] #[]] w fun e w' => ∃ v0_ : Value, e = .returned (v0_) ∧ Kd.S k42 42 w' w.heap.size (fun _ => True) v0_ r ∧ Below w.heap.size w w' := by
 have hu42 := Try.underlying42; have HR0 := mk0 hr0; have HC0 := mk0 hc0; clear hr0 hc0; have HB := mk0 (Below.refl w.heap.size w); have H : (tensor_Tensor_28.l0 k ([] : List (S42)) l0 (l0.length : Int) 0) = some r := h; clear h; have H' := mk0 H; clear H
 go_enter Try.func28, Try.ntmps28
 go_wp2
 go_loopg [5, 10] k (fun kq v5 v10 w' => ∃ (x5_1 : List (S42)) (x10_1 : Int), v10 = .int .i64 x10_1 ∧ Aside0 (tensor_Tensor_28.l0 kq x5_1 l0 (l0.length : Int) x10_1 = some r) ∧ Aside0 (kq ≤ k) ∧ Aside0 (Kd.S k42 42 w' w.heap.size (fun _ => True) v5 x5_1) ∧ Aside0 (Below w.heap.size w w'))
 case atStart => exact ⟨(([] : List (S42))), (0), cl0, H', ⟨Nat.le_refl _⟩, ⟨by first | exact Kd.S_nil _ _ _ _ _ | exact Kd.N_nil _ _ _ _ _ | exact Kd.V_nil _ _ _ _ _ | exact Kd.Q_nil _ _ _ _ _ | exact Kd.R_nil _ _ _ _ _⟩, ⟨hbA HB⟩⟩
 case round =>
  clear H'; obtain ⟨x5_1, x10_1, rfl, HA, HK1, HO_5, HB⟩ := hrel
  cases gk with
  | zero => exact absurd HA.out (by simp [tensor_Tensor_28.l0])
  | succ k1 =>
   have H := HA.out; clear HA
   simp only [tensor_Tensor_28.l0] at H
   by_cases c2 : x10_1 < (l0.length : Int)
   ·
    rw [if_pos c2] at H; have c2b0 := decide_eq_true c2; clear c2; replace H := ifS H; obtain ⟨c3, H⟩ := H; have c3b0 := decide_eq_true c3; clear c3
    by_cases c4 : x10_1 < (l0.length : Int)
    ·
     rw [if_pos c4] at H; have c4b0 := decide_eq_true c4; clear c4; replace H := Option.bind_eq_some_iff.mp H; obtain ⟨⟨t103, t104, t105, t108⟩, A50, H⟩ := H; replace H : (if x5_1.length < 2199023255552 then (tensor_Tensor_28.l0 k1 (x5_1 ++ [(⟨t103, t104, t105, t108⟩ : S42)]) l0 (l0.length : Int) (wrap64 (x10_1 + 1))) else (none)) = some r := H; have A5 := mk0 A50; clear A50; replace H := ifS H; obtain ⟨c6, H⟩ := H; have LMc6 := mk0 c6; clear c6; obtain ⟨y109, hy109⟩ : ∃ y_ : List (S42), y_ = (x5_1 ++ [(⟨t103, t104, t105, t108⟩ : S42)]) := ⟨_, rfl⟩; replace H : (tensor_Tensor_28.l0 k1 y109 l0 (l0.length : Int) (wrap64 (x10_1 + 1))) = some r := by first | (rw [hy109]; with_reducible exact H) | (have H2_ := (Option.bind_some _ _).symm.trans H; rw [hy109]; with_reducible exact H2_) | (have H2_ := (Option.bind_some _ _).symm.trans H; with_reducible exact H2_) | with_reducible exact H | (rw [hy109]; exact H) | exact H
     have Ny109 := mk0 hy109; clear hy109; have H' := mk0 H; clear H; have p101 : 0 ≤ (x10_1 : Int) := ofd; have q101 : x10_1 < (l0.length : Int) := ofd; obtain ⟨ad101, A101_2, c101_2, e101, hx101_0, hx101_1, hx101_2, hx101_3, hl101_2, hi101_2⟩ := at_T42 HR0.out x10_1 p101 q101; cases e101; replace hx101_0 := hbc HB hx101_0; replace hx101_1 := hbc HB hx101_1; replace hx101_2 := hbc HB hx101_2; replace hx101_3 := hbc HB hx101_3; have HR101_2 := mk0 hi101_2; have HC101_2 := mk0 hl101_2; clear hi101_2 hl101_2; replace p101 := eq_true p101; replace q101 := eq_true q101
     go_wp2_with (first | ((with_reducible refine gate_dst (N := 7) rfl ?_); refine boxE (N := 7) (cs := #[.string (⟨#[]⟩ : ByteArray), .int .i64 0, .slice none 0 0, .string (⟨#[]⟩ : ByteArray)]) (t := 42) ?_; intro gb102 hg w7 hbox hb; replace HO_5 := mk0 (Kd.S_below (Kd.S_elderB (by (with_reducible repeat (first | apply Kd.S_alloc | apply Kd.S_drewN | apply Kd.S_drew)); exact HO_5.out) gb102 (Nat.le_of_eq hg.symm)) hb); have BK102 := mk0 hbox; have GW102 := gwS HB hg; have GE102 := gwS HB hg; replace HB := hbS HB hb; clear hb hbox hg; obtain ⟨hcz8_0, hcz8_1, hcz8_2, hcz8_3⟩ := cz4 BK102; have hfz8_0 := fz BK102 0; have hfz8_1 := fz BK102 1; have hfz8_2 := fz BK102 2; have hfz8_3 := fz BK102 3) | ((with_reducible refine gate_calleeV (c := 15) rfl ?_); refine goesLV_ (some 17) rfl rfl (c := 15) (by rfl) Try.func29 (by kernel_rfl) rfl #[.agg #[.string ((rd_T42 l0 x10_1).f0), .int .i64 ((rd_T42 l0 x10_1).f1), .slice A101_2 ((rd_T42 l0 x10_1).f2).length c101_2, .string ((rd_T42 l0 x10_1).f3)]] rfl (by (try simp only [List.map_toArray, List.map_cons, List.map_nil]); first | done | rfl | (simp only [List.length_drop, List.length_take]; rfl)) ?_; (with_reducible refine (model_Model_Clone_2.calls ((rd_T42 l0 x10_1).f0) ((rd_T42 l0 x10_1).f1) _ _ ((rd_T42 l0 x10_1).f2) ((rd_T42 l0 x10_1).f3) t103 t104 t105 t108 _ ?side1 ?side2 A5.out).mono ?_); (case side1 => exact Kd.C_below HR101_2.out (hbA HB)); (case side2 => exact HC101_2.out); rintro e w9 ⟨v106, rfl, ho0, hb⟩; refine ⟨_, rfl, ?_⟩; replace HO_5 := mk0 (Kd.S_elder' (by (with_reducible repeat (first | apply Kd.S_alloc | apply Kd.S_drewN | apply Kd.S_drew)); exact (Kd.S_mono (Kd.S_far (p := ⟨gb102, 3, none⟩) (Kd.S_far (p := ⟨gb102, 2, none⟩) (Kd.S_far (p := ⟨gb102, 1, none⟩) (Kd.S_far (p := ⟨gb102, 0, none⟩) (Kd.S_mono HO_5.out (fun k_ hk => (⟨hk, hk.2⟩ : _ ∧ k_ ≠ gb102))) (fun _ hk => hk.2) (.string ((rd_T42 l0 x10_1).f0))) (fun _ hk => hk.2) (.int .i64 ((rd_T42 l0 x10_1).f1))) (fun _ hk => hk.2) (.slice A101_2 ((rd_T42 l0 x10_1).f2).length c101_2)) (fun _ hk => hk.2) (.string ((rd_T42 l0 x10_1).f3))) (fun _ h_ => h_.1))) (Kd.R_base ho0) hb); have HO107 := mk0 (Kd.R_lower ho0 (below_size (hbA HB))); replace BK102 := mk0 (blk_below (g := gb102) (o := .cells #[.string ((rd_T42 l0 x10_1).f0), .int .i64 ((rd_T42 l0 x10_1).f1), .slice A101_2 ((rd_T42 l0 x10_1).f2).length c101_2, .string ((rd_T42 l0 x10_1).f3)] 42 (0, 0)) (bkW BK102) hb); replace HB := hbS HB hb; (try clear hb); (try clear hk); (try clear ho0); obtain ⟨Ao11, co11, eo11⟩ := Kd.R_slice HO107.out; subst eo11) | ((with_reducible refine gate_builtin (b := .append) (xs := #[.tmp 14, .tmp 18]) rfl ?_); at_builtin; refine Kd.S_append k42 (w0 := w) w.heap.size rfl (.tmp 14) (.tmp 18) 23 42 (.agg #[(.string ⟨#[]⟩), (.int .i64 0), (.slice none 0 0), (.string ⟨#[]⟩)]) 64 rfl Try.underlying23 info42 rfl (by decide) (by omega) u5 x5_1 (⟨t103, t104, t105, t108⟩ : S42) [.string t103, .int .i64 t104, .slice Ao11 t105.length co11, .string t108] (fun k_ => k_ ≠ gb102) (fun k_ => some k_ = (.slice Ao11 t105.length co11 : Value).ownBlock) rfl rfl ?aP (fun k_ hk_ => ((Kd.R_mono (ok' := fun k_ => ((fun k_ => k_ ≠ gb102)) k_ ∧ some k_ ≠ (u5 : Value).ownBlock) (Kd.R_types (Kd.R_apart' (HO107.out) (Kd.S_typed HO_5.out) (by decide)) BK102.out (by decide)) (fun k_ hk => ⟨hk.2, hk.1.2⟩))).1 k_ hk_.symm) ?aF ?aO ?aB ?aS ?aL ?_; (case aP => exact k42_mkM _ _ _ (⟨t103, t104, t105, t108⟩ : S42) (Kd.R_mono (Kd.R_tight rfl (Kd.R_mono (ok' := fun k_ => ((fun k_ => k_ ≠ gb102)) k_ ∧ some k_ ≠ (u5 : Value).ownBlock) (Kd.R_types (Kd.R_apart' (HO107.out) (Kd.S_typed HO_5.out) (by decide)) BK102.out (by decide)) (fun k_ hk => ⟨hk.2, hk.1.2⟩))) (fun _ h_ => h_))); (case aB => exact (hbA HB)); (case aF => exact (fun k_ hk => Kd.freshB (g := gb102) (bkA BK102) k_ hk)); (case aO => exact (by (with_reducible repeat (first | apply Kd.S_alloc | apply Kd.S_drewN | apply Kd.S_drew)); exact Kd.S_mono HO_5.out (fun k_ hk => ⟨hk.1.2, fun e_ => hk.2 e_⟩))); (case aS => exact (below_size (hbA HB))); (case aL => have := LMc6.out; omega); intro v110 w10 ho hb hg hat; rw [← Ny109.out] at ho; replace BK102 := mk0 (blk_grown (g := gb102) (bkA BK102) hg (Kd.S_away HO_5.out (fun _ hk => hk.1.2))); replace HB := mk0 hb; have HO111 := mk0 ho; clear HO_5 HO107; clear ho hb hg hat))
     go_roundg k1
     case measure => have := HK1.out; omega
     case rel => exact ⟨(y109), (wrap64 (x10_1 + 1)), cl0, H', cl2 HK1, ⟨by (with_reducible repeat (first | apply Kd.S_alloc | apply Kd.S_drewN | apply Kd.S_drew)); exact Kd.S_mono HO111.out (fun _ hk => trivial)⟩, ⟨hbA HB⟩⟩
    ·
     exact absurd (of_decide_eq_true c2b0) c4
   ·
    rw [if_neg c2] at H; have c2b0 := decide_eq_false c2; clear c2; obtain rfl := Option.some.inj H
    go_wp2
    go_ret
    exact ⟨_, cl3, by (with_reducible repeat (first | apply Kd.S_alloc | apply Kd.S_drewN | apply Kd.S_drew)); exact HO_5.out, hbA HB⟩
def model_Model_Clone.f (k : Nat) (a0_0 : Int) (l0_1 : List (S40)) (l0_2 : List (S40)) (l0_3 : List (S42)) (l0_4 : List (S46)) : Option (Int × (List (S40)) × (List (S40)) × (List (S42)) × (List (S46))) := (model_Info_27.f k l0_1).bind fun t103 => ((model_Info_27.f k l0_2).bind fun t106 => ((tensor_Tensor_28.f k l0_3).bind fun t109 => ((model_Node_30.f k l0_4).bind fun t112 => (some (a0_0, t103, t106, t109, t112)))))
def model_Model_Clone.T2 : Bool × List (List Nat × List Nat) := (true, [([], []), ([0], [0]), ([], []), ([1, 2], [1, 2]), ([], []), ([4], [4]), ([], []), ([5, 6, 3], [5, 6]), ([0, 1, 2, 3, 4, 5], []), ([8, 3, 7, 0, 1, 2, 3, 4, 5], [3, 8]), ([0, 1, 2, 3, 4, 5, 6, 7, 8, 9], []), ([10, 7, 9, 0, 1, 2, 3, 4, 5, 6, 7, 8, 9], [7, 10])])
def model_Model_Clone.B2 : List Nat := [0, 1, 0, 7, 0, 16, 0, 127, 63, 511, 1023, 2047]
theorem model_Model_Clone.tab2 : rtab .any (opsOf Try.f9 2) = model_Model_Clone.T2 := by kernel_rfl
theorem model_Model_Clone.bits2 : waitsOk model_Model_Clone.T2.2 model_Model_Clone.B2 = true := by kernel_rfl
set_option maxHeartbeats 8000000 in
set_option maxRecDepth 100000 in
theorem model_Model_Clone.calls (k : Nat) (a0_0 : Int) (A0_1 : Option Addr) (c0_1 : Nat) (l0_1 : List (S40)) (A0_2 : Option Addr) (c0_2 : Nat) (l0_2 : List (S40)) (A0_3 : Option Addr) (c0_3 : Nat) (l0_3 : List (S42)) (A0_4 : Option Addr) (c0_4 : Nat) (l0_4 : List (S46)) (r1 : Int) (r2 : List (S40)) (r3 : List (S40)) (r4 : List (S42)) (r5 : List (S46)) (w : World) (hr0_1 : Kd.C k40 w A0_1 l0_1.length l0_1) (hc0_1 : l0_1.length ≤ c0_1) (hr0_2 : Kd.C k40 w A0_2 l0_2.length l0_2) (hc0_2 : l0_2.length ≤ c0_2) (hr0_3 : Kd.C k42 w A0_3 l0_3.length l0_3) (hc0_3 : l0_3.length ≤ c0_3) (hr0_4 : Kd.C k46 w A0_4 l0_4.length l0_4) (hc0_4 : l0_4.length ≤ c0_4) (h : model_Model_Clone.f k a0_0 l0_1 l0_2 l0_3 l0_4 = some (r1, r2, r3, r4, r5)) :
  Calls Try.prog 9 #[.agg #[.int .i64 a0_0, .slice A0_1 l0_1.length c0_1, .slice A0_2 l0_2.length c0_2, .slice A0_3 l0_3.length c0_3, .slice A0_4 l0_4.length c0_4]] w fun e w' => ∃ v1_ v2_ v3_ v4_ : Value, e = .returned (.agg #[.int .i64 r1, v1_, v2_, v3_, v4_]) ∧ Kd.S k40 40 w' w.heap.size (fun k_ => some k_ ≠ (v2_ : Value).ownBlock) v1_ r2 ∧ Kd.S k40 40 w' w.heap.size (fun k_ => some k_ ≠ (v1_ : Value).ownBlock) v2_ r3 ∧ Kd.S k42 42 w' w.heap.size (fun _ => True) v3_ r4 ∧ Kd.R k46 46 w' w.heap.size (fun _ => True) v4_ r5 ∧ Below w.heap.size w w' := by
 have hu26 := Try.underlying26; have HR0_1 := mk0 hr0_1; have HC0_1 := mk0 hc0_1; clear hr0_1 hc0_1; have HR0_2 := mk0 hr0_2; have HC0_2 := mk0 hc0_2; clear hr0_2 hc0_2; have HR0_3 := mk0 hr0_3; have HC0_3 := mk0 hc0_3; clear hr0_3 hc0_3; have HR0_4 := mk0 hr0_4; have HC0_4 := mk0 hc0_4; clear hr0_4 hc0_4; have HB := mk0 (Below.refl w.heap.size w); have H : ((model_Info_27.f k l0_1).bind fun t103 => ((model_Info_27.f k l0_2).bind fun t106 => ((tensor_Tensor_28.f k l0_3).bind fun t109 => ((model_Node_30.f k l0_4).bind fun t112 => (some (a0_0, t103, t106, t109, t112)))))) = some (r1, r2, r3, r4, r5) := h; clear h; replace H := bnd H; obtain ⟨t103, A2, H⟩ := H; replace H := bnd H; obtain ⟨t106, A3, H⟩ := H; replace H := bnd H; obtain ⟨t109, A4, H⟩ := H; replace H := bnd H; obtain ⟨t112, A5, H⟩ := H
 simp only [Option.some.injEq, Prod.mk.injEq] at H
 obtain ⟨rfl, rfl, rfl, rfl, rfl⟩ := H
 go_enter Try.func9, Try.ntmps9
 try go_wp2_with (first | ((with_reducible refine gate_dst (N := 1) rfl ?_); refine boxE (N := 1) (cs := #[.int .i64 a0_0, .slice A0_1 l0_1.length c0_1, .slice A0_2 l0_2.length c0_2, .slice A0_3 l0_3.length c0_3, .slice A0_4 l0_4.length c0_4]) (t := 26) ?_; intro gb101 hg w6 hbox hb; have BK101 := mk0 hbox; have GW101 := gwS HB hg; have GE101 := gwS HB hg; replace HB := hbS HB hb; clear hb hbox hg) | ((with_reducible refine gate_dst (N := 2) rfl ?_); refine boxE (N := 2) (cs := #[.int .i64 0, .slice none 0 0, .slice none 0 0, .slice none 0 0, .slice none 0 0]) (t := 26) ?_; intro gb102 hg w7 hbox hb; have BK102 := mk0 hbox; have GW102 := gwS HB hg; have GE102 := gwS HB hg; replace HB := hbS HB hb; have NB101_102 := neS BK101 hg; have NB102_101 := neT BK101 hg; replace BK101 := bkS BK101 hb; clear hb hbox hg)); replace BK101 := mk0 (blk_drew BK101.out); replace BK102 := mk0 (blk_drew BK102.out); replace HB := mk0 (below_drew1 HB.out)
 refine start_ (n := 12) (S := fun w' => w'.cell? ⟨gb101, 0, none⟩ = some (.int .i64 a0_0) ∧ w'.cell? ⟨gb101, 1, none⟩ = some (.slice A0_1 l0_1.length c0_1) ∧ w'.cell? ⟨gb101, 2, none⟩ = some (.slice A0_2 l0_2.length c0_2) ∧ w'.cell? ⟨gb101, 3, none⟩ = some (.slice A0_3 l0_3.length c0_3) ∧ w'.cell? ⟨gb101, 4, none⟩ = some (.slice A0_4 l0_4.length c0_4)) (ds := [9, 11]) (bA 12 0) (by kernel_rfl) rfl rfl ⟨bcA BK101 0, bcA BK101 1, bcA BK101 2, bcA BK101 3, bcA BK101 4⟩ (fun hHeld => ?_); refine with_tabW model_Model_Clone.tab2 model_Model_Clone.bits2 (fun HT_ HW_ => ?_)
 generalize w7.drew = w8 at BK101 BK102 HB hHeld ⊢
 refine puE (i := 0) (N := some 4) (bA 12 1) HT_ ?_
 refine puE (i := 2) (N := some 6) (bA 12 5) HT_ ?_
 refine puE (i := 4) (N := some 8) (bA 12 21) HT_ ?_
 refine puE (i := 6) (N := some 10) (bA 12 85) HT_ ?_
 refine taE (i := 1) (N := some 5) (bA 12 87) HT_ HW_ hHeld ?_
 refine taE (i := 5) (N := some 9) (bA 12 119) HT_ HW_ hHeld ?_
 refine one_ (i := 3) (N := some 7) (bA 12 127) rfl rfl (one_of HT_.out (by kernel_rfl)) (by decide) (fun K hK => ?_)
 refine goE Try.func27 (by kernel_rfl) rfl #[.slice A0_1 l0_1.length c0_1, .func (Fn.func 25) #[] #[]] (by rfl) rfl rfl ?_
 with_reducible refine (model_Info_27.calls k _ _ l0_1 t103 _ ?side1 ?side2 A2.out).mono ?_
 (case side1 => repeat (first | exact (Kd.C_below HR0_1.out HB.out) | (with_reducible refine Kd.C_alloc ?_ _) | (with_reducible refine Kd.C_drewN ?_ _) | (with_reducible refine Kd.C_drew ?_)))
 (case side2 => exact HC0_1.out)
 rintro e w9 ⟨v104, rfl, ho0, hb⟩
 refine ⟨_, rfl, ?_⟩
 have HO105 := mk0 (Kd.S_lower ho0 (below_size (hbA HB))); replace BK101 := bkS BK101 hb; replace BK102 := bkS BK102 hb; replace HB := hbS HB hb; try clear hb; try clear ho0
 refine hK.out _ _ ⟨bcA BK101 0, bcA BK101 1, bcA BK101 2, bcA BK101 3, bcA BK101 4⟩ (fun hHeld => ?_)
 clear hK K
 refine noE 7 ?_
 refine puE (i := 8) (N := some 12) (bA 12 383) HT_ ?_
 refine one_ (i := 7) (N := some 11) (bA 12 511) rfl rfl (one_of HT_.out (by kernel_rfl)) (by decide) (fun K hK => ?_)
 refine goE Try.func27 (by kernel_rfl) rfl #[.slice A0_2 l0_2.length c0_2, .func (Fn.func 25) #[] #[]] (by rfl) rfl rfl ?_
 with_reducible refine (model_Info_27.calls k _ _ l0_2 t106 _ ?side1 ?side2 A3.out).mono ?_
 (case side1 => repeat (first | exact (Kd.C_below HR0_2.out HB.out) | (with_reducible refine Kd.C_alloc ?_ _) | (with_reducible refine Kd.C_drewN ?_ _) | (with_reducible refine Kd.C_drew ?_)))
 (case side2 => exact HC0_2.out)
 rintro e w10 ⟨v107, rfl, ho0, hb⟩
 refine ⟨_, rfl, ?_⟩
 have HO108 := mk0 (Kd.S_lower (Kd.S_new' ho0 (Kd.S_lt (by (with_reducible repeat (first | apply Kd.S_alloc | apply Kd.S_drewN | apply Kd.S_drew)); exact HO105.out))) (below_size (hbA HB))); replace HO105 := mk0 (Kd.S_elder' (by (with_reducible repeat (first | apply Kd.S_alloc | apply Kd.S_drewN | apply Kd.S_drew)); exact HO105.out) (Kd.S_base ho0) hb); replace BK101 := bkS BK101 hb; replace BK102 := bkS BK102 hb; replace HB := hbS HB hb; try clear hb; try clear ho0
 obtain ⟨Ao11, co11, eo11⟩ := Kd.S_slice HO105.out
 (first | subst eo11 | (injection eo11 with f1_ f2_ f3_; have f4_ := f1_.symm; have f5_ := f3_.symm; clear f1_ f2_ f3_; subst f4_; subst f5_))
 obtain ⟨Ao13, co13, eo13⟩ := Kd.S_slice HO108.out
 (first | subst eo13 | (injection eo13 with f1_ f2_ f3_; have f4_ := f1_.symm; have f5_ := f3_.symm; clear f1_ f2_ f3_; subst f4_; subst f5_))
 refine hK.out _ _ ⟨bcA BK101 0, bcA BK101 1, bcA BK101 2, bcA BK101 3, bcA BK101 4⟩ (fun hHeld => ?_)
 clear hK K
 refine noE 11 ?_
 refine last_ (i := 9) (N := none) (bA 12 1023) rfl rfl (one_of HT_.out (by kernel_rfl)) (by decide) (fun K hK => ?_)
 have hs12 : w10.cell? ⟨gb101, 1, none⟩ = some (.slice A0_1 l0_1.length c0_1) := bcA BK101 1; have hfs12 := blk_frozen BK101.out 1; have hns12_1 := NB102_101.out; have hms12_1 := NB101_102.out
 refine skip_ (w1 := ?_) (by rfl) rfl ?_ ?_
 rotate_left
 ·
  go_simp
  rfl
 refine hK.out _ _ ?_
 clear hK K
 refine puE (i := 10) (N := some 13) (bA 12 2047) HT_ ?_
 refine last_ (i := 11) (N := none) (bA 12 4095) rfl rfl (one_of HT_.out (by kernel_rfl)) (by decide) (fun K hK => ?_)
 have hs14 : w10.cell? ⟨gb101, 2, none⟩ = some (.slice A0_2 l0_2.length c0_2) := bcA BK101 2; have hfs14 := blk_frozen BK101.out 2; have hns14_1 := NB102_101.out; have hms14_1 := NB101_102.out
 refine skip_ (w1 := ?_) (by rfl) rfl ?_ ?_
 rotate_left
 ·
  go_simp
  rfl
 refine hK.out _ _ ?_
 clear hK K
 refine done_ (done_of HT_.out (by kernel_rfl)) ?_
 have hnb15 := NB101_102.out; have hnc15 := NB102_101.out; obtain ⟨hcz16_0, hcz16_1, hcz16_2, hcz16_3, hcz16_4⟩ := cz5 BK101; have hfz16_0 := fz BK101 0; have hfz16_1 := fz BK101 1; have hfz16_2 := fz BK101 2; have hfz16_3 := fz BK101 3; have hfz16_4 := fz BK101 4
 try go_wp2_with (first | ((with_reducible refine gate_callee (f := 28) rfl ?_); refine glE (some 16) rfl rfl Try.func28 (by kernel_rfl) rfl #[.slice A0_3 l0_3.length c0_3, .func (Fn.func 29) #[] #[]] rfl ?_; (with_reducible refine (tensor_Tensor_28.calls k _ _ l0_3 t109 _ ?side1 ?side2 A4.out).mono ?_); (case side1 => exact Kd.C_below HR0_3.out (hbA HB)); (case side2 => exact HC0_3.out); rintro e w17 ⟨v110, rfl, ho0, hb⟩; refine ⟨_, rfl, ?_⟩; replace HO105 := mk0 (Kd.S_below (by (with_reducible repeat (first | apply Kd.S_alloc | apply Kd.S_drewN | apply Kd.S_drew)); exact (Kd.S_mono (Kd.S_far (p := ⟨gb101, 2, none⟩) (Kd.S_far (p := ⟨gb101, 1, none⟩) (Kd.S_types HO105.out BK101.out (by decide)) (fun _ hk => hk.2) (.slice Ao11 t103.length co11)) (fun _ hk => hk.2) (.slice Ao13 t106.length co13)) (fun _ h_ => h_.1))) hb); replace HO108 := mk0 (Kd.S_below (by (with_reducible repeat (first | apply Kd.S_alloc | apply Kd.S_drewN | apply Kd.S_drew)); exact (Kd.S_mono (Kd.S_far (p := ⟨gb101, 2, none⟩) (Kd.S_far (p := ⟨gb101, 1, none⟩) (Kd.S_types HO108.out BK101.out (by decide)) (fun _ hk => hk.2) (.slice Ao11 t103.length co11)) (fun _ hk => hk.2) (.slice Ao13 t106.length co13)) (fun _ h_ => h_.1))) hb); have HO111 := mk0 (Kd.S_lower ho0 (below_size (hbA HB))); replace BK101 := mk0 (blk_below (g := gb101) (o := .cells #[.int .i64 a0_0, .slice Ao11 t103.length co11, .slice Ao13 t106.length co13, .slice A0_3 l0_3.length c0_3, .slice A0_4 l0_4.length c0_4] 26 (0, 0)) (bkW BK101) hb); replace BK102 := mk0 (blk_below (g := gb102) (o := .cells #[.int .i64 0, .slice none 0 0, .slice none 0 0, .slice none 0 0, .slice none 0 0] 26 (0, 0)) (bkW BK102) hb); replace HB := hbS HB hb; (try clear hb); (try clear hk); (try clear ho0); obtain ⟨Ao18, co18, eo18⟩ := Kd.S_slice HO111.out; subst eo18; obtain ⟨hcz19_0, hcz19_1, hcz19_2, hcz19_3, hcz19_4⟩ := cz5 BK101; have hfz19_0 := fz BK101 0; have hfz19_1 := fz BK101 1; have hfz19_2 := fz BK101 2; have hfz19_3 := fz BK101 3; have hfz19_4 := fz BK101 4) | ((with_reducible refine gate_callee (f := 30) rfl ?_); refine glE (some 20) rfl rfl Try.func30 (by kernel_rfl) rfl #[.slice A0_4 l0_4.length c0_4, .func (Fn.func 31) #[] #[]] rfl ?_; (with_reducible refine (model_Node_30.calls k _ _ l0_4 t112 _ ?side1 ?side2 A5.out).mono ?_); (case side1 => exact Kd.C_below HR0_4.out (hbA HB)); (case side2 => exact HC0_4.out); rintro e w20 ⟨v113, rfl, ho0, hb⟩; refine ⟨_, rfl, ?_⟩; replace HO105 := mk0 (Kd.S_below (by (with_reducible repeat (first | apply Kd.S_alloc | apply Kd.S_drewN | apply Kd.S_drew)); exact (Kd.S_mono (Kd.S_far (p := ⟨gb101, 3, none⟩) (Kd.S_types HO105.out BK101.out (by decide)) (fun _ hk => hk.2) (.slice Ao18 t109.length co18)) (fun _ h_ => h_.1))) hb); replace HO108 := mk0 (Kd.S_below (by (with_reducible repeat (first | apply Kd.S_alloc | apply Kd.S_drewN | apply Kd.S_drew)); exact (Kd.S_mono (Kd.S_far (p := ⟨gb101, 3, none⟩) (Kd.S_types HO108.out BK101.out (by decide)) (fun _ hk => hk.2) (.slice Ao18 t109.length co18)) (fun _ h_ => h_.1))) hb); replace HO111 := mk0 (Kd.S_below (by (with_reducible repeat (first | apply Kd.S_alloc | apply Kd.S_drewN | apply Kd.S_drew)); exact (Kd.S_mono (Kd.S_far (p := ⟨gb101, 3, none⟩) (Kd.S_types HO111.out BK101.out (by decide)) (fun _ hk => hk.2) (.slice Ao18 t109.length co18)) (fun _ h_ => h_.1))) hb); have HO114 := mk0 (Kd.R_lower ho0 (below_size (hbA HB))); replace BK101 := mk0 (blk_below (g := gb101) (o := .cells #[.int .i64 a0_0, .slice Ao11 t103.length co11, .slice Ao13 t106.length co13, .slice Ao18 t109.length co18, .slice A0_4 l0_4.length c0_4] 26 (0, 0)) (bkW BK101) hb); replace BK102 := mk0 (blk_below (g := gb102) (o := .cells #[.int .i64 0, .slice none 0 0, .slice none 0 0, .slice none 0 0, .slice none 0 0] 26 (0, 0)) (bkW BK102) hb); replace HB := hbS HB hb; (try clear hb); (try clear hk); (try clear ho0); obtain ⟨Ao21, co21, eo21⟩ := Kd.R_slice HO114.out; subst eo21; obtain ⟨hcz22_0, hcz22_1, hcz22_2, hcz22_3, hcz22_4⟩ := cz5 BK101; have hfz22_0 := fz BK101 0; have hfz22_1 := fz BK101 1; have hfz22_2 := fz BK101 2; have hfz22_3 := fz BK101 3; have hfz22_4 := fz BK101 4; obtain ⟨hcz23_0, hcz23_1, hcz23_2, hcz23_3, hcz23_4⟩ := cz5 BK102; have hfz23_0 := fz BK102 0; have hfz23_1 := fz BK102 1; have hfz23_2 := fz BK102 2; have hfz23_3 := fz BK102 3; have hfz23_4 := blk_frozen BK102.out 4))
 refine bodyPost_ret (results_cell_row rfl _ _ gb102 26 #[.int .i64 a0_0, .slice Ao11 t103.length co11, .slice Ao13 t106.length co13, .slice Ao18 t109.length co18, .slice Ao21 t112.length co21] (0, 0) _ rfl (bkW BK102) Try.underlying26 rfl (by kernel_rfl)) rfl ?_
 exact ⟨_, _, _, _, cl3, by (with_reducible repeat (first | apply Kd.S_alloc | apply Kd.S_drewN | apply Kd.S_drew)); exact Kd.S_mono (Kd.S_far (p := ⟨gb102, 4, none⟩) (Kd.S_far (p := ⟨gb102, 3, none⟩) (Kd.S_far (p := ⟨gb102, 2, none⟩) (Kd.S_far (p := ⟨gb102, 1, none⟩) (Kd.S_far (p := ⟨gb102, 0, none⟩) (Kd.S_far (p := ⟨gb101, 4, none⟩) (Kd.S_types (Kd.S_types HO105.out BK101.out (by decide)) BK102.out (by decide)) (fun _ hk => hk.1.2) (.slice Ao21 t112.length co21)) (fun _ hk => hk.2) (.int .i64 a0_0)) (fun _ hk => hk.2) (.slice Ao11 t103.length co11)) (fun _ hk => hk.2) (.slice Ao13 t106.length co13)) (fun _ hk => hk.2) (.slice Ao18 t109.length co18)) (fun _ hk => hk.2) (.slice Ao21 t112.length co21)) (fun _ hk => hk.1.1.2), by (with_reducible repeat (first | apply Kd.S_alloc | apply Kd.S_drewN | apply Kd.S_drew)); exact Kd.S_mono (Kd.S_far (p := ⟨gb102, 4, none⟩) (Kd.S_far (p := ⟨gb102, 3, none⟩) (Kd.S_far (p := ⟨gb102, 2, none⟩) (Kd.S_far (p := ⟨gb102, 1, none⟩) (Kd.S_far (p := ⟨gb102, 0, none⟩) (Kd.S_far (p := ⟨gb101, 4, none⟩) (Kd.S_types (Kd.S_types HO108.out BK101.out (by decide)) BK102.out (by decide)) (fun _ hk => hk.1.2) (.slice Ao21 t112.length co21)) (fun _ hk => hk.2) (.int .i64 a0_0)) (fun _ hk => hk.2) (.slice Ao11 t103.length co11)) (fun _ hk => hk.2) (.slice Ao13 t106.length co13)) (fun _ hk => hk.2) (.slice Ao18 t109.length co18)) (fun _ hk => hk.2) (.slice Ao21 t112.length co21)) (fun _ hk => hk.1.1.2), by (with_reducible repeat (first | apply Kd.S_alloc | apply Kd.S_drewN | apply Kd.S_drew)); exact Kd.S_mono (Kd.S_far (p := ⟨gb102, 4, none⟩) (Kd.S_far (p := ⟨gb102, 3, none⟩) (Kd.S_far (p := ⟨gb102, 2, none⟩) (Kd.S_far (p := ⟨gb102, 1, none⟩) (Kd.S_far (p := ⟨gb102, 0, none⟩) (Kd.S_far (p := ⟨gb101, 4, none⟩) (Kd.S_types (Kd.S_types HO111.out BK101.out (by decide)) BK102.out (by decide)) (fun _ hk => hk.1.2) (.slice Ao21 t112.length co21)) (fun _ hk => hk.2) (.int .i64 a0_0)) (fun _ hk => hk.2) (.slice Ao11 t103.length co11)) (fun _ hk => hk.2) (.slice Ao13 t106.length co13)) (fun _ hk => hk.2) (.slice Ao18 t109.length co18)) (fun _ hk => hk.2) (.slice Ao21 t112.length co21)) (fun _ hk => trivial), by (with_reducible repeat (first | apply Kd.R_alloc | apply Kd.R_drewN | apply Kd.R_drew)); exact Kd.R_mono (Kd.R_far (p := ⟨gb102, 4, none⟩) (Kd.R_far (p := ⟨gb102, 3, none⟩) (Kd.R_far (p := ⟨gb102, 2, none⟩) (Kd.R_far (p := ⟨gb102, 1, none⟩) (Kd.R_far (p := ⟨gb102, 0, none⟩) (Kd.R_far (p := ⟨gb101, 4, none⟩) (Kd.R_types (Kd.R_types HO114.out BK101.out (by decide)) BK102.out (by decide)) (fun _ hk => hk.1.2) (.slice Ao21 t112.length co21)) (fun _ hk => hk.2) (.int .i64 a0_0)) (fun _ hk => hk.2) (.slice Ao11 t103.length co11)) (fun _ hk => hk.2) (.slice Ao13 t106.length co13)) (fun _ hk => hk.2) (.slice Ao18 t109.length co18)) (fun _ hk => hk.2) (.slice Ao21 t112.length co21)) (fun _ hk => trivial), hbA HB⟩
def slices_Equal_int64_int64.l0 : Nat → List Int → List Int → Int → Int → Option (Bool)
 | 0, _, _, _, _ => none
 | k + 1, x0, x1, x12, x13 => if x13 < x12 then (if 0 ≤ x13 then (if x13 < (x0.length : Int) then (if x13 < (x1.length : Int) then (if (rd x0 x13) = (rd x1 x13) then (slices_Equal_int64_int64.l0 k x0 x1 x12 (wrap64 (x13 + 1))) else (some false)) else (none)) else (none)) else (none)) else (some true)
def slices_Equal_int64_int64.f (k : Nat) (l0 : List Int) (l1 : List Int) : Option (Bool) := if (l0.length : Int) = (l1.length : Int) then (slices_Equal_int64_int64.l0 k l0 l1 (l0.length : Int) 0) else (some false)
set_option maxHeartbeats 8000000 in
set_option maxRecDepth 100000 in
theorem slices_Equal_int64_int64.calls (k : Nat) (A0 : Option Addr) (c0 : Nat) (l0 : List Int) (A1 : Option Addr) (c1 : Nat) (l1 : List Int) (r : Bool) (w : World) (hr0 : Kd.C (Kd.int .i64) w A0 l0.length l0) (hc0 : l0.length ≤ c0) (hr1 : Kd.C (Kd.int .i64) w A1 l1.length l1) (hc1 : l1.length ≤ c1) (h : slices_Equal_int64_int64.f k l0 l1 = some r) :
  Calls Try.prog 41 #[.slice A0 l0.length c0, .slice A1 l1.length c1] w fun e w' => e = .returned (.bool r) ∧ Drawn0 w w' := by
 have HR0 := mk0 hr0; have HC0 := mk0 hc0; clear hr0 hc0; have HR1 := mk0 hr1; have HC1 := mk0 hc1; clear hr1 hc1; have H : (if (l0.length : Int) = (l1.length : Int) then (slices_Equal_int64_int64.l0 k l0 l1 (l0.length : Int) 0) else (some false)) = some r := h; clear h
 by_cases c3 : (l0.length : Int) = (l1.length : Int)
 ·
  rw [if_pos c3] at H; have c3b0 := beq_iff_eq.mpr c3; have c3b1 := bne_eq_false_iff_eq.mpr c3; have c3b2 : (l0.length == l1.length) = true := by first | simpa using c3 | (simp at c3 ⊢; omega)
  clear c3; have H' := mk0 H; clear H
  go_enter Try.func41, Try.ntmps41
  go_wp2
  repeat (go_quiet (fail); try go_wp2)
  go_loopg [13] k (fun kq v13 w' => ∃ (x13_1 : Int), v13 = .int .i64 x13_1 ∧ Aside0 (slices_Equal_int64_int64.l0 kq l0 l1 (l0.length : Int) x13_1 = some r) ∧ Aside0 (kq ≤ k) ∧ Drawn0 w w')
  case atStart => exact ⟨(0), cl0, H', ⟨Nat.le_refl _⟩, by repeat (first | exact Drawn0.refl _ | apply Drawn0.step)⟩
  case round =>
   clear H'; try clear c1; try clear c3; try clear c3b0; try clear c3b1; try clear c3b2
   obtain ⟨x13_1, rfl, HA, HK1, ⟨m1, rfl⟩⟩ := hrel
   cases gk with
   | zero => exact absurd HA.out (by simp [slices_Equal_int64_int64.l0])
   | succ k1 =>
    have H := HA.out; clear HA
    simp only [slices_Equal_int64_int64.l0] at H
    by_cases c4 : x13_1 < (l0.length : Int)
    ·
     rw [if_pos c4] at H; have c4b0 := decide_eq_true c4; clear c4; replace H := ifS H; obtain ⟨c5, H⟩ := H; have c5b0 := decide_eq_true c5; clear c5
     by_cases c6 : x13_1 < (l0.length : Int)
     ·
      rw [if_pos c6] at H; have c6b0 := decide_eq_true c6; clear c6; replace H := ifS H; obtain ⟨c7, H⟩ := H; have c7b0 := decide_eq_true c7; clear c7
      by_cases c8 : (rd l0 x13_1) = (rd l1 x13_1)
      ·
       rw [if_pos c8] at H; have c8b0 := beq_iff_eq.mpr c8; have c8b1 := bne_eq_false_iff_eq.mpr c8; clear c8; have H' := mk0 H; clear H; have p101 : 0 ≤ (x13_1 : Int) := ofd; have q101 : x13_1 < (l0.length : Int) := ofd; obtain ⟨ad101, e101, hx101_0⟩ := Kd.at_int HR0.out x13_1 p101 q101; cases e101; replace p101 := eq_true p101; replace q101 := eq_true q101; have p102 : 0 ≤ (x13_1 : Int) := ofd; have q102 : x13_1 < (l1.length : Int) := ofd; obtain ⟨ad102, e102, hx102_0⟩ := Kd.at_int HR1.out x13_1 p102 q102; cases e102; replace p102 := eq_true p102; replace q102 := eq_true q102
       go_wp2
       repeat (go_quiet (fail); try go_wp2)
       go_roundg k1
       case measure => have := HK1.out; omega
       case rel => exact ⟨(wrap64 (x13_1 + 1)), cl0, H', cl2 HK1, by repeat (first | exact Drawn0.refl _ | apply Drawn0.step)⟩
      ·
       rw [if_neg c8] at H; have c8b0 := beq_eq_false_iff_ne.mpr c8; have c8b1 := bne_iff_ne.mpr c8; obtain rfl := Option.some.inj H; have p101 : 0 ≤ (x13_1 : Int) := ofd; have q101 : x13_1 < (l0.length : Int) := ofd; obtain ⟨ad101, e101, hx101_0⟩ := Kd.at_int HR0.out x13_1 p101 q101; cases e101; replace p101 := eq_true p101; replace q101 := eq_true q101; have p102 : 0 ≤ (x13_1 : Int) := ofd; have q102 : x13_1 < (l1.length : Int) := ofd; obtain ⟨ad102, e102, hx102_0⟩ := Kd.at_int HR1.out x13_1 p102 q102; cases e102; replace p102 := eq_true p102; replace q102 := eq_true q102
       go_wp2
       repeat (go_quiet (fail); try go_wp2)
       go_ret
       exact ⟨by first | rfl | (simp; done) | (simp [*]; done), by repeat (first | exact Drawn0.refl _ | apply Drawn0.step)⟩
     ·
      exact absurd (of_decide_eq_true c4b0) c6
    ·
     rw [if_neg c4] at H; have c4b0 := decide_eq_false c4; clear c4; obtain rfl := Option.some.inj H
     go_wp2
     repeat (go_quiet (fail); try go_wp2)
     go_ret
     exact ⟨by first | rfl | (simp; done) | (simp [*]; done), by repeat (first | exact Drawn0.refl _ | apply Drawn0.step)⟩
 ·
  rw [if_neg c3] at H; have c3b0 := beq_eq_false_iff_ne.mpr c3; have c3b1 := bne_iff_ne.mpr c3; have c3b2 : (l0.length == l1.length) = false := by first | simpa using c3 | (simp at c3 ⊢; omega)
  obtain rfl := Option.some.inj H
  go_enter Try.func41, Try.ntmps41
  go_wp2
  repeat (go_quiet (fail); try go_wp2)
  go_ret
  exact ⟨by first | rfl | (simp; done) | (simp [*]; done), by repeat (first | exact Drawn0.refl _ | apply Drawn0.step)⟩
theorem rd_mid (pre : List Int) (d : Int) (ds : List Int) (i : Int) (h : i = (pre.length : Int)) : rd (pre ++ d :: ds) i = d := by
  subst h; unfold rd; simp
def slices_Equal_int64_int64_s.f (l0 l1 : List Int) : Option Bool := if l0.length ≤ 1000000000000000000 then some (decide (l0 = l1)) else none
theorem slicesEqual_l0 (xs : List Int) : ∀ (ys pre qre : List Int) (k : Nat), xs.length < k → pre.length = qre.length → xs.length = ys.length → pre.length + xs.length ≤ 1000000000000000000 →
    slices_Equal_int64_int64.l0 k (pre ++ xs) (qre ++ ys) ((pre ++ xs).length : Int) (pre.length : Int) = some (decide (xs = ys)) := by
  induction xs with
  | nil =>
    intro ys pre qre k hk hp hl hb
    obtain ⟨k, rfl⟩ : ∃ m, k = m + 1 := ⟨k - 1, by omega⟩
    rw [slices_Equal_int64_int64.l0, if_neg (by simp), List.eq_nil_of_length_eq_zero hl.symm]; rfl
  | cons x xs ih =>
    intro ys pre qre k hk hp hl hb
    rw [List.length_cons] at hk hb
    obtain ⟨k, rfl⟩ : ∃ m, k = m + 1 := ⟨k - 1, by omega⟩
    cases ys with
    | nil => cases hl
    | cons y ys =>
      have hl' : xs.length = ys.length := Nat.succ.inj hl
      have ew : wrap64 ((pre.length : Int) + 1) = (((pre ++ [x]).length : Nat) : Int) := by
        rw [wrap64_id (by omega) (by omega), List.length_append, List.length_singleton]; rfl
      rw [slices_Equal_int64_int64.l0, if_pos (by rw [List.length_append, List.length_cons]; omega), if_pos (by omega), if_pos (by rw [List.length_append, List.length_cons]; omega), if_pos (by rw [List.length_append, List.length_cons]; omega), rd_mid pre x xs _ rfl, rd_mid qre y ys _ (by omega), ew]
      clear ew
      by_cases h : x = y
      · rw [if_pos h, show pre ++ x :: xs = (pre ++ [x]) ++ xs by simp, show qre ++ y :: ys = (qre ++ [y]) ++ ys by simp, ih ys _ _ k (by omega) (by simp; omega) hl' (by simp; omega)]
        congr 1
        rw [decide_eq_decide]
        exact ⟨fun g => by rw [h, g], fun g => (List.cons.inj g).2⟩
      · rw [if_neg h, decide_eq_false (fun g => h (List.cons.inj g).1)]
theorem slices_Equal_int64_int64_s.ev (l0 l1 : List Int) (r) (h : slices_Equal_int64_int64_s.f l0 l1 = some r) : ∃ k, slices_Equal_int64_int64.f k l0 l1 = some r := by
  unfold slices_Equal_int64_int64_s.f at h
  split at h
  · rename_i hs
    rw [← h]
    refine ⟨l0.length + 1, ?_⟩
    unfold slices_Equal_int64_int64.f
    by_cases hl : l0.length = l1.length
    · rw [if_pos (by omega)]
      exact slicesEqual_l0 l0 l1 [] [] _ (by omega) rfl hl (by simp; omega)
    · rw [if_neg (by omega), decide_eq_false (fun g => hl (by rw [g]))]
  · cases h
set_option maxHeartbeats 1000000 in
theorem slices_Equal_int64_int64_s.calls (A0 : Option Addr) (c0 : Nat) (l0 : List Int) (A1 : Option Addr) (c1 : Nat) (l1 : List Int) (r : Bool) (w : World) (hr0 : Kd.C (Kd.int .i64) w A0 l0.length l0) (hc0 : l0.length ≤ c0) (hr1 : Kd.C (Kd.int .i64) w A1 l1.length l1) (hc1 : l1.length ≤ c1) (h : slices_Equal_int64_int64_s.f l0 l1 = some r) :
    Calls Try.prog 41 #[.slice A0 l0.length c0, .slice A1 l1.length c1] w fun e w' => e = .returned (.bool r) ∧ Drawn0 w w' := by
  obtain ⟨k, hk⟩ := slices_Equal_int64_int64_s.ev l0 l1 _ h
  exact slices_Equal_int64_int64.calls k A0 c0 l0 A1 c1 l1 r w hr0 hc0 hr1 hc1 hk
def model_Info_same.f (a0_0 : ByteArray) (a0_1 : Int) (l0_2 : List Int) (a1_0 : ByteArray) (a1_1 : Int) (l1_2 : List Int) : Option (Bool) := if a0_0.toList = a1_0.toList then (if a0_1 = a1_1 then ((slices_Equal_int64_int64_s.f l0_2 l1_2).bind fun t103 => (some t103)) else (some false)) else (some false)
set_option maxHeartbeats 8000000 in
set_option maxRecDepth 100000 in
theorem model_Info_same.calls (a0_0 : ByteArray) (a0_1 : Int) (A0_2 : Option Addr) (c0_2 : Nat) (l0_2 : List Int) (a1_0 : ByteArray) (a1_1 : Int) (A1_2 : Option Addr) (c1_2 : Nat) (l1_2 : List Int) (r : Bool) (w : World) (hr0_2 : Kd.C (Kd.int .i64) w A0_2 l0_2.length l0_2) (hc0_2 : l0_2.length ≤ c0_2) (hr1_2 : Kd.C (Kd.int .i64) w A1_2 l1_2.length l1_2) (hc1_2 : l1_2.length ≤ c1_2) (h : model_Info_same.f a0_0 a0_1 l0_2 a1_0 a1_1 l1_2 = some r) :
  Calls Try.prog 17 #[.agg #[.string a0_0, .int .i64 a0_1, .slice A0_2 l0_2.length c0_2], .agg #[.string a1_0, .int .i64 a1_1, .slice A1_2 l1_2.length c1_2]] w fun e w' => e = .returned (.bool r) ∧ Below w.heap.size w w' := by
 have hu40 := Try.underlying40; have HR0_2 := mk0 hr0_2; have HC0_2 := mk0 hc0_2; clear hr0_2 hc0_2; have HR1_2 := mk0 hr1_2; have HC1_2 := mk0 hc1_2; clear hr1_2 hc1_2; have HB := mk0 (Below.refl w.heap.size w); have H : (if a0_0.toList = a1_0.toList then (if a0_1 = a1_1 then ((slices_Equal_int64_int64_s.f l0_2 l1_2).bind fun t103 => (some t103)) else (some false)) else (some false)) = some r := h; clear h
 by_cases c3 : a0_0.toList = a1_0.toList
 ·
  rw [if_pos c3] at H; have c3b0 := beq_iff_eq.mpr c3; have c3b1 := bne_eq_false_iff_eq.mpr c3; clear c3
  by_cases c4 : a0_1 = a1_1
  ·
   rw [if_pos c4] at H; have c4b0 := beq_iff_eq.mpr c4; have c4b1 := bne_eq_false_iff_eq.mpr c4; clear c4; replace H := bnd H; obtain ⟨t103, A5, H⟩ := H; obtain rfl := Option.some.inj H
   go_enter Try.func17, Try.ntmps17
   go_wp2_with (first | ((with_reducible refine gate_dst (N := 2) rfl ?_); refine boxE (N := 2) (cs := #[.string a0_0, .int .i64 a0_1, .slice A0_2 l0_2.length c0_2]) (t := 40) ?_; intro gb101 hg w6 hbox hb; have BK101 := mk0 hbox; have GW101 := gwS HB hg; have GE101 := gwS HB hg; replace HB := hbS HB hb; clear hb hbox hg) | ((with_reducible refine gate_dst (N := 3) rfl ?_); refine boxE (N := 3) (cs := #[.string a1_0, .int .i64 a1_1, .slice A1_2 l1_2.length c1_2]) (t := 40) ?_; intro gb102 hg w7 hbox hb; have BK102 := mk0 hbox; have GW102 := gwS HB hg; have GE102 := gwS HB hg; replace HB := hbS HB hb; have NB101_102 := neS BK101 hg; have NB102_101 := neT BK101 hg; replace BK101 := bkS BK101 hb; clear hb hbox hg; have hnb8 := NB101_102.out; have hnc8 := NB102_101.out; obtain ⟨hcz9_0, hcz9_1, hcz9_2⟩ := cz3 BK101; have hfz9_0 := fz BK101 0; have hfz9_1 := fz BK101 1; have hfz9_2 := fz BK101 2; obtain ⟨hcz10_0, hcz10_1, hcz10_2⟩ := cz3 BK102; have hfz10_0 := fz BK102 0; have hfz10_1 := fz BK102 1; have hfz10_2 := fz BK102 2) | (go_at_call 41; (with_reducible refine (slices_Equal_int64_int64_s.calls _ _ l0_2 _ _ l1_2 t103 _ ?side1 ?side2 ?side3 ?side4 A5.out).mono ?_); (case side1 => repeat (first | exact (Kd.C_below HR0_2.out HB.out) | (with_reducible refine Kd.C_alloc ?_ _) | (with_reducible refine Kd.C_drewN ?_ _) | (with_reducible refine Kd.C_drew ?_))); (case side2 => exact HC0_2.out); (case side3 => repeat (first | exact (Kd.C_below HR1_2.out HB.out) | (with_reducible refine Kd.C_alloc ?_ _) | (with_reducible refine Kd.C_drewN ?_ _) | (with_reducible refine Kd.C_drew ?_))); (case side4 => exact HC1_2.out); rintro e w' ⟨rfl, ⟨nd, rfl⟩⟩))
   go_ret
   exact ⟨cl3, hbA HB⟩
  ·
   rw [if_neg c4] at H; have c4b0 := beq_eq_false_iff_ne.mpr c4; have c4b1 := bne_iff_ne.mpr c4; obtain rfl := Option.some.inj H
   go_enter Try.func17, Try.ntmps17
   go_wp2_with (first | ((with_reducible refine gate_dst (N := 2) rfl ?_); refine boxE (N := 2) (cs := #[.string a0_0, .int .i64 a0_1, .slice A0_2 l0_2.length c0_2]) (t := 40) ?_; intro gb101 hg w11 hbox hb; have BK101 := mk0 hbox; have GW101 := gwS HB hg; have GE101 := gwS HB hg; replace HB := hbS HB hb; clear hb hbox hg) | ((with_reducible refine gate_dst (N := 3) rfl ?_); refine boxE (N := 3) (cs := #[.string a1_0, .int .i64 a1_1, .slice A1_2 l1_2.length c1_2]) (t := 40) ?_; intro gb102 hg w12 hbox hb; have BK102 := mk0 hbox; have GW102 := gwS HB hg; have GE102 := gwS HB hg; replace HB := hbS HB hb; have NB101_102 := neS BK101 hg; have NB102_101 := neT BK101 hg; replace BK101 := bkS BK101 hb; clear hb hbox hg; have hnb13 := NB101_102.out; have hnc13 := NB102_101.out; obtain ⟨hcz14_0, hcz14_1, hcz14_2⟩ := cz3 BK101; have hfz14_0 := fz BK101 0; have hfz14_1 := fz BK101 1; have hfz14_2 := fz BK101 2; obtain ⟨hcz15_0, hcz15_1, hcz15_2⟩ := cz3 BK102; have hfz15_0 := fz BK102 0; have hfz15_1 := fz BK102 1; have hfz15_2 := blk_frozen BK102.out 2))
   go_ret
   exact ⟨cl3, hbA HB⟩
 ·
  rw [if_neg c3] at H; have c3b0 := beq_eq_false_iff_ne.mpr c3; have c3b1 := bne_iff_ne.mpr c3; obtain rfl := Option.some.inj H
  go_enter Try.func17, Try.ntmps17
  go_wp2_with (first | ((with_reducible refine gate_dst (N := 2) rfl ?_); refine boxE (N := 2) (cs := #[.string a0_0, .int .i64 a0_1, .slice A0_2 l0_2.length c0_2]) (t := 40) ?_; intro gb101 hg w16 hbox hb; have BK101 := mk0 hbox; have GW101 := gwS HB hg; have GE101 := gwS HB hg; replace HB := hbS HB hb; clear hb hbox hg) | ((with_reducible refine gate_dst (N := 3) rfl ?_); refine boxE (N := 3) (cs := #[.string a1_0, .int .i64 a1_1, .slice A1_2 l1_2.length c1_2]) (t := 40) ?_; intro gb102 hg w17 hbox hb; have BK102 := mk0 hbox; have GW102 := gwS HB hg; have GE102 := gwS HB hg; replace HB := hbS HB hb; have NB101_102 := neS BK101 hg; have NB102_101 := neT BK101 hg; replace BK101 := bkS BK101 hb; clear hb hbox hg; have hnb18 := NB101_102.out; have hnc18 := NB102_101.out; obtain ⟨hcz19_0, hcz19_1, hcz19_2⟩ := cz3 BK101; have hfz19_0 := fz BK101 0; have hfz19_1 := fz BK101 1; have hfz19_2 := fz BK101 2; obtain ⟨hcz20_0, hcz20_1, hcz20_2⟩ := cz3 BK102; have hfz20_0 := fz BK102 0; have hfz20_1 := fz BK102 1; have hfz20_2 := blk_frozen BK102.out 2))
  go_ret
  exact ⟨cl3, hbA HB⟩
end Go.Proofs.Ytfejdnkmmjffcaa.X
