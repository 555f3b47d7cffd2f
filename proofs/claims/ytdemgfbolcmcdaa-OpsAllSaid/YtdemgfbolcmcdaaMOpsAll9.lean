import Derived.Test.YtdemgfbolcmcdaaMOpsAll3
import Derived.Test.YtdemgfbolcmcdaaMOpsAll4
import Derived.Test.YtdemgfbolcmcdaaMOpsAll6
namespace Go.Proofs.Ytdemgfbolcmcdaa.X
open Go.RowKit Go.Proofs.YtdemgfbolcmcdaaW.PrintWords Go.Proofs.YtdemgfbolcmcdaaW.PrintLast Go.Proofs.YtdemgfbolcmcdaaW.PrintMore
attribute [local go_sem] max2_int min2_int max_two min_two max_three min_three max_four min_four
set_option linter.unusedVariables false
set_option linter.unusedSimpArgs false
def shape_wide.l0 : Nat → List Int → List Int → Int → Int → Option (List Int)
 | 0, _, _, _, _ => none
 | k + 1, x0, x5, x9, x10 => if x10 < x9 then (if x5.length < 17592186044416 then (shape_wide.l0 k x0 (x5 ++ [1]) x9 (wrap64 (x10 + 1))) else (none)) else (if x5.length + x0.length < 17592186044416 then (some (x5 ++ x0)) else (none))
def shape_wide.f (k : Nat) (l0 : List Int) (a1 : Int) : Option (List Int) := shape_wide.l0 k l0 ([] : List Int) (wrap64 (a1 - (l0.length : Int))) 0
set_option maxHeartbeats 8000000 in
set_option maxRecDepth 100000 in
theorem shape_wide.calls (k : Nat) (A0 : Option Addr) (c0 : Nat) (l0 : List Int) (a1 : Int) (r : List Int) (w : World) (hr0 : Kd.C (Kd.int .i64) w A0 l0.length l0) (hc0 : l0.length ≤ c0) (h : shape_wide.f k l0 a1 = some r) :
  Calls Try.prog 88 #[.slice A0 l0.length c0, .int .i64 a1] w fun e w' => ∃ v0_ : Value, e = .returned (v0_) ∧ Kd.R (Kd.int .i64) 2 w' w.heap.size (fun _ => True) v0_ r ∧ Below w.heap.size w w' := by
 have HR0 := Aside0.mk hr0
 have HC0 := Aside0.mk hc0
 clear hr0 hc0
 have HB := Aside0.mk (Below.refl w.heap.size w)
 have H : (shape_wide.l0 k l0 ([] : List Int) (wrap64 (a1 - (l0.length : Int))) 0) = some r := h
 clear h
 have H' := Aside0.mk H
 clear H
 go_enter Try.func88, Try.ntmps88
 go_wp2
 go_loopg [5, 10] k (fun kq v5 v10 w' => ∃ (x5_1 : List Int) (x10_1 : Int), v10 = .int .i64 x10_1 ∧ Aside0 (shape_wide.l0 kq l0 x5_1 (wrap64 (a1 - (l0.length : Int))) x10_1 = some r) ∧ Aside0 (kq ≤ k) ∧ Aside0 (Kd.R (Kd.int .i64) 2 w' w.heap.size (fun _ => True) v5 x5_1) ∧ Aside0 (Below w.heap.size w w'))
 case atStart => exact ⟨(([] : List Int)), (0), (by first | rfl | (simp; done) | (simp [*]; done)), H', ⟨Nat.le_refl _⟩, ⟨by first | exact Kd.R_nil _ _ _ _ _ | exact Kd.N_nil _ _ _ _ _ | exact Kd.V_nil _ _ _ _ _ | exact Kd.Q_nil _ _ _ _ _ | exact Kd.S_nil _ _ _ _ _⟩, ⟨hbA HB⟩⟩
 case round =>
  clear H'
  obtain ⟨x5_1, x10_1, rfl, HA, HK1, HO_5, HB⟩ := hrel
  cases gk with
  | zero => exact absurd HA.out (by simp [shape_wide.l0])
  | succ k1 =>
   have H := HA.out; clear HA
   simp only [shape_wide.l0] at H
   by_cases c3 : x10_1 < (wrap64 (a1 - (l0.length : Int)))
   ·
    rw [if_pos c3] at H
    have c3b0 : decide (x10_1 < (wrap64 (a1 - (l0.length : Int)))) = true := decide_eq_true c3
    clear c3
    by_cases c4 : x5_1.length < 17592186044416
    ·
     rw [if_pos c4] at H
     have LMc4 := Aside0.mk c4
     clear c4
     obtain ⟨y101, hy101⟩ : ∃ y_ : List Int, y_ = (x5_1 ++ [1]) := ⟨_, rfl⟩
     replace H : (shape_wide.l0 k1 l0 y101 (wrap64 (a1 - (l0.length : Int))) (wrap64 (x10_1 + 1))) = some r := by first | (rw [hy101]; with_reducible exact H) | (have H2_ := (Option.bind_some _ _).symm.trans H; rw [hy101]; with_reducible exact H2_) | (have H2_ := (Option.bind_some _ _).symm.trans H; with_reducible exact H2_) | with_reducible exact H | (rw [hy101]; exact H) | exact H
     have Ny101 := Aside0.mk hy101
     clear hy101
     have H' := Aside0.mk H
     clear H
     go_wp2_with (first | ((with_reducible refine gate_builtin (b := .append) (xs := #[.tmp 12, .tmp 13]) rfl ?_); at_builtin; refine Kd.R_append (Kd.int .i64) (w0 := w) w.heap.size rfl (.tmp 12) (.tmp 13) 27 2 (.int .i64 0) 8 rfl Try.underlying27 info2 rfl (by decide) (by omega) u5 x5_1 1 [.int .i64 1] (fun _ => True) (fun _ => False) rfl rfl ?aP (fun _ hk => hk.elim) ?aF ?aO ?aB ?aS ?aL ?_; (case aP => exact rfl); (case aB => exact (hbA HB)); (case aF => exact (fun _ _ => trivial)); (case aO => exact (krA HO_5)); (case aS => exact (below_size (hbA HB))); (case aL => have := LMc4.out; omega); intro v102 w5 ho hb hg hat; rw [← Ny101.out] at ho; have n0_ := Aside0.mk (hb); have n1_ := Aside0.mk (ho); clear HB; clear HO_5; have HB := n0_; have HO103 := n1_; clear n0_ n1_; clear ho hb hg hat))
     go_roundg k1
     case measure => have := HK1.out; omega
     case rel => exact ⟨(y101), (wrap64 (x10_1 + 1)), (by first | rfl | (simp; done) | (simp [*]; done)), H', ⟨by have := HK1.out; omega⟩, ⟨krA HO103⟩, ⟨hbA HB⟩⟩
    ·
     rw [if_neg c4] at H
     exact absurd H (by simp)
   ·
    rw [if_neg c3] at H
    have c3b0 : decide (x10_1 < (wrap64 (a1 - (l0.length : Int)))) = false := decide_eq_false c3
    clear c3
    by_cases c6 : x5_1.length + l0.length < 17592186044416
    ·
     rw [if_pos c6] at H
     have LMc6 := Aside0.mk c6
     clear c6
     obtain ⟨y104, hy104⟩ : ∃ y_ : List Int, y_ = (x5_1 ++ l0) := ⟨_, rfl⟩
     replace H : (some y104) = some r := by first | (rw [hy104]; with_reducible exact H) | (have H2_ := (Option.bind_some _ _).symm.trans H; rw [hy104]; with_reducible exact H2_) | (have H2_ := (Option.bind_some _ _).symm.trans H; with_reducible exact H2_) | with_reducible exact H | (rw [hy104]; exact H) | exact H
     have Ny104 := Aside0.mk hy104
     clear hy104
     obtain rfl := Option.some.inj H
     go_wp2_with (first | ((with_reducible refine gate_builtin (b := .append) (xs := #[.tmp 16, .tmp 17]) rfl ?_); at_builtin; refine Kd.R_append_rows (Kd.int .i64) (w0 := w) w.heap.size rfl (.tmp 16) (.tmp 17) 27 2 (.int .i64 0) 8 rfl Try.underlying27 info2 rfl (by decide) (by omega) u5 x5_1 l0 _ _ _ (fun _ => True) (fun _ => False) rfl rfl ?aO ?aR (fun _ _ h => h) (fun _ h => h.elim) ?aF ?aB ?aS ?aL ?_; (case aR => repeat (first | exact (Kd.C_below HR0.out HB.out) | (with_reducible refine Kd.C_alloc ?_ _) | (with_reducible refine Kd.C_drewN ?_ _) | (with_reducible refine Kd.C_drew ?_))); (case aB => exact (hbA HB)); (case aF => exact (fun _ _ => trivial)); (case aO => exact (krA HO_5)); (case aS => exact (below_size (hbA HB))); (case aL => have := LMc6.out; omega); intro v105 w7 ho hb hg hat; rw [← Ny104.out] at ho; have n0_ := Aside0.mk (hb); have n1_ := Aside0.mk (ho); clear HB; clear HO_5; have HB := n0_; have HO106 := n1_; clear n0_ n1_; clear ho hb hg hat))
     go_ret
     exact ⟨_, by first | rfl | (simp [errW_none, errW_some] <;> rfl) | (simp [*, errW_none, errW_some] <;> rfl), krA HO106, hbA HB⟩
    ·
     rw [if_neg c6] at H
     exact absurd H (by simp)
end Go.Proofs.Ytdemgfbolcmcdaa.X
namespace Go.Proofs.Ytdemgfbolcmcdaa.X
open Go.RowKit Go.Proofs.YtdemgfbolcmcdaaW.PrintWords Go.Proofs.YtdemgfbolcmcdaaW.PrintLast Go.Proofs.YtdemgfbolcmcdaaW.PrintMore
attribute [local go_sem] max2_int min2_int max_two min_two max_three min_three max_four min_four
set_option linter.unusedVariables false
set_option linter.unusedSimpArgs false
def shape_wide_s.f (l0 : List Int) (a1 : Int) : Option (List Int) := if 0 ≤ a1 ∧ a1 ≤ 1000000 ∧ l0.length ≤ 1000000 then some (List.replicate (a1.toNat - l0.length) 1 ++ l0) else none
theorem shapeWide_l0 (l : List Int) (hl : l.length ≤ 1000000) (m : Nat) (hm : m ≤ 1000000) (d : Nat) : ∀ (k i : Nat), m - i = d → i ≤ m → d < k →
    shape_wide.l0 k l (List.replicate i 1) (m : Int) i = some (List.replicate m 1 ++ l) := by
  induction d with
  | zero =>
    intro k i hd hi hk
    obtain ⟨k, rfl⟩ : ∃ m, k = m + 1 := ⟨k - 1, by omega⟩
    obtain rfl : i = m := by omega
    rw [shape_wide.l0, if_neg (by omega), if_pos (by rw [List.length_replicate]; omega)]
  | succ d ih =>
    intro k i hd hi hk
    obtain ⟨k, rfl⟩ : ∃ m, k = m + 1 := ⟨k - 1, by omega⟩
    have ew : wrap64 ((i : Int) + 1) = ((i + 1 : Nat) : Int) := by rw [wrap64_id (by omega) (by omega)]; omega
    rw [shape_wide.l0, if_pos (by omega), if_pos (by rw [List.length_replicate]; omega), ew, ← List.replicate_succ']
    clear ew
    exact ih k (i + 1) (by omega) (by omega) (by omega)
theorem shape_wide_s.ev (l0 : List Int) (a1 : Int) (r) (h : shape_wide_s.f l0 a1 = some r) : ∃ k, shape_wide.f k l0 a1 = some r := by
  unfold shape_wide_s.f at h
  split at h
  · rename_i hs
    obtain ⟨h0, h1, h2⟩ := hs
    rw [← h]
    refine ⟨a1.toNat + 1, ?_⟩
    unfold shape_wide.f
    rw [wrap64_id (by omega) (by omega)]
    by_cases hc : (l0.length : Int) ≤ a1
    · have e : a1 - (l0.length : Int) = ((a1.toNat - l0.length : Nat) : Int) := by omega
      rw [e]
      exact shapeWide_l0 l0 h2 _ (by omega) _ (a1.toNat + 1) 0 rfl (by omega) (by omega)
    · have e : a1.toNat - l0.length = 0 := by omega
      rw [shape_wide.l0, if_neg (by omega), if_pos (by simp; omega), e]
      rfl
  · cases h
set_option maxHeartbeats 1000000 in
theorem shape_wide_s.calls (A0 : Option Addr) (c0 : Nat) (l0 : List Int) (a1 : Int) (r : List Int) (w : World) (hr0 : Kd.C (Kd.int .i64) w A0 l0.length l0) (hc0 : l0.length ≤ c0) (h : shape_wide_s.f l0 a1 = some r) :
    Calls Try.prog 88 #[.slice A0 l0.length c0, .int .i64 a1] w fun e w' => ∃ v0_ : Value, e = .returned (v0_) ∧ Kd.R (Kd.int .i64) 2 w' w.heap.size (fun _ => True) v0_ r ∧ Below w.heap.size w w' := by
  obtain ⟨k, hk⟩ := shape_wide_s.ev l0 a1 _ h
  exact shape_wide.calls k A0 c0 l0 a1 r w hr0 hc0 hk
end Go.Proofs.Ytdemgfbolcmcdaa.X
namespace Go.Proofs.Ytdemgfbolcmcdaa.X
open Go.RowKit Go.Proofs.YtdemgfbolcmcdaaW.PrintWords Go.Proofs.YtdemgfbolcmcdaaW.PrintLast Go.Proofs.YtdemgfbolcmcdaaW.PrintMore
attribute [local go_sem] max2_int min2_int max_two min_two max_three min_three max_four min_four
set_option linter.unusedVariables false
set_option linter.unusedSimpArgs false
mutual
def shape_Broadcast.l0 : Nat → List Int → List Int → List (List Int) → Int → Int → Option (List Int × Int)
 | 0, _, _, _, _, _ => none
 | k + 1, x0, x1, x19, x20, x21 => if x21 < x20 then (if 0 ≤ x21 then (if x21 < (x19.length : Int) then ((shape_Size_s.f (rd_L2 x19 x21)).bind fun bt105 => (if bt105.2 = 0 then (shape_Broadcast.l0 k x0 x1 x19 x20 (wrap64 (x21 + 1))) else (some (([] : List Int), bt105.2)))) else (none)) else (none)) else ((shape_wide_s.f x0 (mx (x0.length : Int) (x1.length : Int))).bind fun t107 => ((shape_wide_s.f x1 (mx (x0.length : Int) (x1.length : Int))).bind fun t110 => (shape_Broadcast.l1 k t107 t110 ([] : List Int) (mx (x0.length : Int) (x1.length : Int)) 0)))
def shape_Broadcast.l1 : Nat → List Int → List Int → List Int → Int → Int → Option (List Int × Int)
 | 0, _, _, _, _, _ => none
 | k + 1, x11, x12, x13, x45, x46 => if x46 < x45 then (if 0 ≤ x46 then (if x46 < (x11.length : Int) then (if x46 < (x12.length : Int) then (if (rd x11 x46) = (rd x12 x46) then (shape_Broadcast.j2 k x11 x12 x13 x46 x45 x46 true) else (shape_Broadcast.j2 k x11 x12 x13 x46 x45 x46 ((rd x12 x46) == 1))) else (none)) else (none)) else (none)) else ((shape_Size_s.f x13).bind fun bt113 => (if bt113.2 = 0 then (some (x13, 0)) else (some (([] : List Int), bt113.2))))
def shape_Broadcast.j2 : Nat → List Int → List Int → List Int → Int → Int → Int → Bool → Option (List Int × Int)
 | 0, _, _, _, _, _, _, _ => none
 | k + 1, x11, x12, x13, x14, x45, x46, x49 => if x49 = true then (if 0 ≤ x14 then (if x14 < (x11.length : Int) then (if x13.length < 17592186044416 then (shape_Broadcast.l1 k x11 x12 (x13 ++ [rd x11 x14]) x45 (wrap64 (x46 + 1))) else (none)) else (none)) else (none)) else (if 0 ≤ x14 then (if x14 < (x11.length : Int) then (if (rd x11 x14) = 1 then (if x14 < (x12.length : Int) then (if x13.length < 17592186044416 then (shape_Broadcast.l1 k x11 x12 (x13 ++ [rd x12 x14]) x45 (wrap64 (x46 + 1))) else (none)) else (none)) else (some (([] : List Int), 6))) else (none)) else (none))
end
def shape_Broadcast.f (k : Nat) (l0 : List Int) (l1 : List Int) : Option (List Int × Int) := (some (([l0, l1] : List (List Int)) : List (List Int))).bind fun y101 => (shape_Broadcast.l0 k l0 l1 y101 (y101.length : Int) 0)
attribute [local irreducible] Calls
set_option maxHeartbeats 8000000 in
set_option maxRecDepth 100000 in
theorem shape_Broadcast.calls (k : Nat) (P0_ : Nat → Prop) (A0 : Option Addr) (c0 : Nat) (l0 : List Int) (P1_ : Nat → Prop) (A1 : Option Addr) (c1 : Nat) (l1 : List Int) (r1 : List Int) (r2 : Int) (w : World) (hs0 : Kd.V (Kd.int .i64) 2 w w.heap.size (fun k_ => P0_ k_) (.slice A0 l0.length c0) l0) (hs1 : Kd.V (Kd.int .i64) 2 w w.heap.size (fun k_ => P1_ k_) (.slice A1 l1.length c1) l1) (h : shape_Broadcast.f k l0 l1 = some (r1, r2)) :
  Calls Try.prog 78 #[.slice A0 l0.length c0, .slice A1 l1.length c1] w fun e w' => ∃ v0_ : Value, e = .returned (.tuple #[v0_, .int .i64 r2]) ∧ Kd.R (Kd.int .i64) 2 w' w.heap.size (fun k_ => (w.heap.size ≤ k_)) v0_ r1 ∧ Below w.heap.size w w' := by
 have HO0 := Aside0.mk (show Kd.V (Kd.int .i64) 2 w w.heap.size (fun k_ => ((P0_ k_ ∨ P1_ k_) ∨ w.heap.size ≤ k_)) (.slice A0 l0.length c0) l0 from Kd.V_mono hs0 (fun k_ hk => .inl (.inl hk)))
 have HO1 := Aside0.mk (show Kd.V (Kd.int .i64) 2 w w.heap.size (fun k_ => ((P0_ k_ ∨ P1_ k_) ∨ w.heap.size ≤ k_)) (.slice A1 l1.length c1) l1 from Kd.V_mono hs1 (fun k_ hk => .inl (.inr hk)))
 have HB := Aside0.mk (Below.refl w.heap.size w)
 have H : ((some (([l0, l1] : List (List Int)) : List (List Int))).bind fun y101 => (shape_Broadcast.l0 k l0 l1 y101 (y101.length : Int) 0)) = some (r1, r2) := h
 clear h
 obtain ⟨y101, hy101⟩ : ∃ y_ : List (List Int), y_ = (([l0, l1] : List (List Int))) := ⟨_, rfl⟩
 replace H : (shape_Broadcast.l0 k l0 l1 y101 (y101.length : Int) 0) = some (r1, r2) := by first | (rw [hy101]; with_reducible exact H) | (have H2_ := (Option.bind_some _ _).symm.trans H; rw [hy101]; with_reducible exact H2_) | (have H2_ := (Option.bind_some _ _).symm.trans H; with_reducible exact H2_) | with_reducible exact H | (rw [hy101]; exact H) | exact H
 have Ny101 := Aside0.mk hy101
 clear hy101
 have H' := Aside0.mk H
 clear H
 go_enter Try.func78, Try.ntmps78
 go_wp2_with (first | ((with_reducible refine gate_dst (N := 19) rfl ?_); refine Kd.N_lit (Kd.slice 2 (Kd.int .i64)) _ 27 ?hg (N' := 19) ?hd (xs := ([l0, l1] : List (List Int))) (inner := [.slice A0 l0.length c0, .slice A1 l1.length c1]) (ok := (fun k_ => ((P0_ k_ ∨ P1_ k_) ∨ w.heap.size ≤ k_))) (okp := (fun k_ => ((P0_ k_ ∨ P1_ k_) ∨ w.heap.size ≤ k_))) ?hr ?hp (fun _ hk => hk) ((show ∀ k_, w.heap.size ≤ k_ → (fun k_ => ((P0_ k_ ∨ P1_ k_) ∨ w.heap.size ≤ k_)) k_ from fun k_ hk => (.inr (Nat.le_trans (below_size (hbA HB)) hk))) _ (Nat.le_refl _)) (Below.refl _ _) (Nat.le_refl _) (by simp) ?_; (case hd => rfl); (case hg => rfl); (case hr => first | (go_simp; done) | (go_simp; rfl)); (case hp => exact (Reps.one (show Kd.FK (Kd.slice 2 (Kd.int .i64)) _ _ l0 [.slice A0 l0.length c0] from (Kd.FK_slice_mk (Kd.V_reads' (Kd.V_mono (ok' := (fun k_ => ((P0_ k_ ∨ P1_ k_) ∨ w.heap.size ≤ k_))) (HO0.out) (fun k_ hk => hk))).2.1 (Kd.V_F (Kd.V_mono (ok' := (fun k_ => ((P0_ k_ ∨ P1_ k_) ∨ w.heap.size ≤ k_))) (HO0.out) (fun k_ hk => hk))))) (Reps.one (show Kd.FK (Kd.slice 2 (Kd.int .i64)) _ _ l1 [.slice A1 l1.length c1] from (Kd.FK_slice_mk (Kd.V_reads' (Kd.V_mono (ok' := (fun k_ => ((P0_ k_ ∨ P1_ k_) ∨ w.heap.size ≤ k_))) (HO1.out) (fun k_ hk => hk))).2.1 (Kd.V_F (Kd.V_mono (ok' := (fun k_ => ((P0_ k_ ∨ P1_ k_) ∨ w.heap.size ≤ k_))) (HO1.out) (fun k_ hk => hk))))) (Reps.none _ _)))); intro v102 w3 ho4 hb hg_ hnew_; clear hg_ hnew_; (first | rw [← Ny101.out] at ho4 | (simp only [Int.reduceToNat] at ho4; rw [← Ny101.out] at ho4)); have n0_ := Aside0.mk (Kd.V_elder' (by (with_reducible repeat (first | apply Kd.V_alloc | apply Kd.V_drewN | apply Kd.V_drew)); exact HO0.out) (Kd.N_base ho4) hb); have n1_ := Aside0.mk (Kd.V_elder' (by (with_reducible repeat (first | apply Kd.V_alloc | apply Kd.V_drewN | apply Kd.V_drew)); exact HO1.out) (Kd.N_base ho4) hb); have n2_ := Aside0.mk (Kd.N_lower ho4 (below_size (hbA HB))); have n3_ := Aside0.mk (below_step (hbA HB) hb); clear HO0; clear HO1; clear HB; have HO0 := n0_; have HO1 := n1_; have HO103 := n2_; have HB := n3_; clear n0_ n1_ n2_ n3_; clear hb ho4; obtain ⟨Ao5, co5, eo5⟩ := Kd.N_slice HO103.out; subst eo5))
 repeat (go_quiet (first | ((with_reducible refine gate_dst (N := 19) rfl ?_); refine Kd.N_lit (Kd.slice 2 (Kd.int .i64)) _ 27 ?hg (N' := 19) ?hd (xs := ([l0, l1] : List (List Int))) (inner := [.slice A0 l0.length c0, .slice A1 l1.length c1]) (ok := (fun k_ => ((P0_ k_ ∨ P1_ k_) ∨ w.heap.size ≤ k_))) (okp := (fun k_ => ((P0_ k_ ∨ P1_ k_) ∨ w.heap.size ≤ k_))) ?hr ?hp (fun _ hk => hk) ((show ∀ k_, w.heap.size ≤ k_ → (fun k_ => ((P0_ k_ ∨ P1_ k_) ∨ w.heap.size ≤ k_)) k_ from fun k_ hk => (.inr (Nat.le_trans (below_size (hbA HB)) hk))) _ (Nat.le_refl _)) (Below.refl _ _) (Nat.le_refl _) (by simp) ?_; (case hd => rfl); (case hg => rfl); (case hr => first | (go_simp; done) | (go_simp; rfl)); (case hp => exact (Reps.one (show Kd.FK (Kd.slice 2 (Kd.int .i64)) _ _ l0 [.slice A0 l0.length c0] from (Kd.FK_slice_mk (Kd.V_reads' (Kd.V_mono (ok' := (fun k_ => ((P0_ k_ ∨ P1_ k_) ∨ w.heap.size ≤ k_))) (HO0.out) (fun k_ hk => hk))).2.1 (Kd.V_F (Kd.V_mono (ok' := (fun k_ => ((P0_ k_ ∨ P1_ k_) ∨ w.heap.size ≤ k_))) (HO0.out) (fun k_ hk => hk))))) (Reps.one (show Kd.FK (Kd.slice 2 (Kd.int .i64)) _ _ l1 [.slice A1 l1.length c1] from (Kd.FK_slice_mk (Kd.V_reads' (Kd.V_mono (ok' := (fun k_ => ((P0_ k_ ∨ P1_ k_) ∨ w.heap.size ≤ k_))) (HO1.out) (fun k_ hk => hk))).2.1 (Kd.V_F (Kd.V_mono (ok' := (fun k_ => ((P0_ k_ ∨ P1_ k_) ∨ w.heap.size ≤ k_))) (HO1.out) (fun k_ hk => hk))))) (Reps.none _ _)))); intro v102 w3 ho4 hb hg_ hnew_; clear hg_ hnew_; (first | rw [← Ny101.out] at ho4 | (simp only [Int.reduceToNat] at ho4; rw [← Ny101.out] at ho4)); have n0_ := Aside0.mk (Kd.V_elder' (by (with_reducible repeat (first | apply Kd.V_alloc | apply Kd.V_drewN | apply Kd.V_drew)); exact HO0.out) (Kd.N_base ho4) hb); have n1_ := Aside0.mk (Kd.V_elder' (by (with_reducible repeat (first | apply Kd.V_alloc | apply Kd.V_drewN | apply Kd.V_drew)); exact HO1.out) (Kd.N_base ho4) hb); have n2_ := Aside0.mk (Kd.N_lower ho4 (below_size (hbA HB))); have n3_ := Aside0.mk (below_step (hbA HB) hb); clear HO0; clear HO1; clear HB; have HO0 := n0_; have HO1 := n1_; have HO103 := n2_; have HB := n3_; clear n0_ n1_ n2_ n3_; clear hb ho4; obtain ⟨Ao5, co5, eo5⟩ := Kd.N_slice HO103.out; subst eo5)); try go_wp2_with (first | ((with_reducible refine gate_dst (N := 19) rfl ?_); refine Kd.N_lit (Kd.slice 2 (Kd.int .i64)) _ 27 ?hg (N' := 19) ?hd (xs := ([l0, l1] : List (List Int))) (inner := [.slice A0 l0.length c0, .slice A1 l1.length c1]) (ok := (fun k_ => ((P0_ k_ ∨ P1_ k_) ∨ w.heap.size ≤ k_))) (okp := (fun k_ => ((P0_ k_ ∨ P1_ k_) ∨ w.heap.size ≤ k_))) ?hr ?hp (fun _ hk => hk) ((show ∀ k_, w.heap.size ≤ k_ → (fun k_ => ((P0_ k_ ∨ P1_ k_) ∨ w.heap.size ≤ k_)) k_ from fun k_ hk => (.inr (Nat.le_trans (below_size (hbA HB)) hk))) _ (Nat.le_refl _)) (Below.refl _ _) (Nat.le_refl _) (by simp) ?_; (case hd => rfl); (case hg => rfl); (case hr => first | (go_simp; done) | (go_simp; rfl)); (case hp => exact (Reps.one (show Kd.FK (Kd.slice 2 (Kd.int .i64)) _ _ l0 [.slice A0 l0.length c0] from (Kd.FK_slice_mk (Kd.V_reads' (Kd.V_mono (ok' := (fun k_ => ((P0_ k_ ∨ P1_ k_) ∨ w.heap.size ≤ k_))) (HO0.out) (fun k_ hk => hk))).2.1 (Kd.V_F (Kd.V_mono (ok' := (fun k_ => ((P0_ k_ ∨ P1_ k_) ∨ w.heap.size ≤ k_))) (HO0.out) (fun k_ hk => hk))))) (Reps.one (show Kd.FK (Kd.slice 2 (Kd.int .i64)) _ _ l1 [.slice A1 l1.length c1] from (Kd.FK_slice_mk (Kd.V_reads' (Kd.V_mono (ok' := (fun k_ => ((P0_ k_ ∨ P1_ k_) ∨ w.heap.size ≤ k_))) (HO1.out) (fun k_ hk => hk))).2.1 (Kd.V_F (Kd.V_mono (ok' := (fun k_ => ((P0_ k_ ∨ P1_ k_) ∨ w.heap.size ≤ k_))) (HO1.out) (fun k_ hk => hk))))) (Reps.none _ _)))); intro v102 w3 ho4 hb hg_ hnew_; clear hg_ hnew_; (first | rw [← Ny101.out] at ho4 | (simp only [Int.reduceToNat] at ho4; rw [← Ny101.out] at ho4)); have n0_ := Aside0.mk (Kd.V_elder' (by (with_reducible repeat (first | apply Kd.V_alloc | apply Kd.V_drewN | apply Kd.V_drew)); exact HO0.out) (Kd.N_base ho4) hb); have n1_ := Aside0.mk (Kd.V_elder' (by (with_reducible repeat (first | apply Kd.V_alloc | apply Kd.V_drewN | apply Kd.V_drew)); exact HO1.out) (Kd.N_base ho4) hb); have n2_ := Aside0.mk (Kd.N_lower ho4 (below_size (hbA HB))); have n3_ := Aside0.mk (below_step (hbA HB) hb); clear HO0; clear HO1; clear HB; have HO0 := n0_; have HO1 := n1_; have HO103 := n2_; have HB := n3_; clear n0_ n1_ n2_ n3_; clear hb ho4; obtain ⟨Ao5, co5, eo5⟩ := Kd.N_slice HO103.out; subst eo5)))
 go_loopg [21] k (fun kq v21 w' => ∃ (x21_1 : Int), v21 = .int .i64 x21_1 ∧ Aside0 (shape_Broadcast.l0 kq l0 l1 y101 (y101.length : Int) x21_1 = some (r1, r2)) ∧ Aside0 (kq ≤ k) ∧ Aside0 (Kd.V (Kd.int .i64) 2 w' w.heap.size (fun k_ => ((P0_ k_ ∨ P1_ k_) ∨ w.heap.size ≤ k_) ∧ some k_ ≠ ((.slice Ao5 y101.length co5) : Value).ownBlock) (.slice A0 l0.length c0) l0) ∧ Aside0 (Kd.V (Kd.int .i64) 2 w' w.heap.size (fun k_ => ((P0_ k_ ∨ P1_ k_) ∨ w.heap.size ≤ k_) ∧ some k_ ≠ ((.slice Ao5 y101.length co5) : Value).ownBlock) (.slice A1 l1.length c1) l1) ∧ Aside0 (Kd.N (Kd.slice 2 (Kd.int .i64)) 27 w' w.heap.size (fun k_ => ((P0_ k_ ∨ P1_ k_) ∨ w.heap.size ≤ k_)) (.slice Ao5 y101.length co5) y101) ∧ Aside0 (Below w.heap.size w w'))
 case atStart => exact ⟨(0), (by first | rfl | (simp; done) | (simp [*]; done)), H', ⟨Nat.le_refl _⟩, ⟨by (with_reducible repeat (first | apply Kd.V_alloc | apply Kd.V_drewN | apply Kd.V_drew)); exact HO0.out⟩, ⟨by (with_reducible repeat (first | apply Kd.V_alloc | apply Kd.V_drewN | apply Kd.V_drew)); exact HO1.out⟩, ⟨by (with_reducible repeat (first | apply Kd.N_alloc | apply Kd.N_drewN | apply Kd.N_drew)); exact HO103.out⟩, ⟨hbA HB⟩⟩
 case round =>
  clear H'
  try clear c1
  obtain ⟨x21_1, rfl, HA, HK1, HO_0, HO_1, HO_19, HB⟩ := hrel
  cases gk with
  | zero => exact absurd HA.out (by simp [shape_Broadcast.l0])
  | succ k1 =>
   have H := HA.out; clear HA
   simp only [shape_Broadcast.l0] at H
   by_cases c6 : x21_1 < (y101.length : Int)
   ·
    rw [if_pos c6] at H
    have c6b0 : decide (x21_1 < (y101.length : Int)) = true := decide_eq_true c6
    clear c6
    by_cases c7 : 0 ≤ x21_1
    ·
     rw [if_pos c7] at H
     have c7b0 : decide (0 ≤ x21_1) = true := decide_eq_true c7
     clear c7
     by_cases c8 : x21_1 < (y101.length : Int)
     ·
      rw [if_pos c8] at H
      have c8b0 : decide (x21_1 < (y101.length : Int)) = true := decide_eq_true c8
      clear c8
      replace H := Option.bind_eq_some_iff.mp H
      obtain ⟨⟨t105, t106⟩, A90, H⟩ := H
      replace H : (if t106 = 0 then (shape_Broadcast.l0 k1 l0 l1 y101 (y101.length : Int) (wrap64 (x21_1 + 1))) else (some (([] : List Int), t106))) = some (r1, r2) := H
      have A9 := Aside0.mk A90
      clear A90
      by_cases c10 : t106 = 0
      ·
       rw [if_pos c10] at H
       have c10b0 : (t106 == 0) = true := beq_iff_eq.mpr c10
       have c10b1 : (t106 != 0) = false := bne_eq_false_iff_eq.mpr c10
       clear c10
       have H' := Aside0.mk H
       clear H
       have p104 : 0 ≤ (x21_1 : Int) := of_decide_eq_true (by first | (with_reducible assumption) | assumption)
       have q104 : x21_1 < (y101.length : Int) := of_decide_eq_true (by first | (with_reducible assumption) | assumption)
       obtain ⟨ad104, A104_0, c104_0, e104, hx104_0, hl104_0, hi104_0⟩ := at_L2 (Kd.N_reads' HO_19.out).2.2 x21_1 p104 q104
       cases e104
       obtain ⟨ce104, hce104, hMe104, hcc104⟩ := Kd.N_get HO_19.out [] x21_1 p104 (by first | exact q104 | exact of_decide_eq_true (by first | (with_reducible assumption) | assumption) | (have e_ := (Kd.N_reads' HO_19.out).1; omega))
       obtain ⟨ua104_0, uc104_0, rfl, ul104_0, ge104_0⟩ := Kd.FK_slice_open hMe104
       have hv104_0 := hcc104 0 _ rfl
       rw [Nat.add_zero, show ((Kd.slice 2 (Kd.int .i64))).sz = 1 from rfl, Nat.mul_one] at hv104_0
       replace hv104_0 := Option.some.inj (hv104_0.symm.trans hx104_0)
       injection hv104_0 with hva_ hvn_ hvc_
       rw [hva_] at ge104_0
       rw [hvc_] at ul104_0
       have HL104_0 := Aside0.mk (show Kd.V (Kd.int .i64) 2 _ w.heap.size _ _ (rd_L2 y101 x21_1) from Kd.V_mk ul104_0 ge104_0)
       clear hva_ hvn_ hvc_ ge104_0 ul104_0; clear hcc104 hce104
       have HR104_0 := Aside0.mk hi104_0
       have HC104_0 := Aside0.mk hl104_0
       clear hi104_0 hl104_0
       replace p104 := eq_true p104
       replace q104 := eq_true q104
       go_wp2_with (first | (go_at_call 82; (with_reducible refine (shape_Size_s.calls _ _ (rd_L2 y101 x21_1) t105 t106 _ ?side1 ?side2 A9.out).mono ?_); (case side1 => repeat (first | exact (by repeat (first | (with_reducible exact HR104_0.out) | (with_reducible refine Kd.C_alloc ?_ _) | (with_reducible refine Kd.C_drewN ?_ _) | (with_reducible refine Kd.C_drew ?_) | exact HR104_0.out)) | (with_reducible refine Kd.C_alloc ?_ _) | (with_reducible refine Kd.C_drewN ?_ _) | (with_reducible refine Kd.C_drew ?_))); (case side2 => exact HC104_0.out); rintro e w11 ⟨rfl, hb⟩; have n0_ := Aside0.mk (Kd.V_below (by (with_reducible repeat (first | apply Kd.V_alloc | apply Kd.V_drewN | apply Kd.V_drew)); exact HO_0.out) hb); have n1_ := Aside0.mk (Kd.V_below (by (with_reducible repeat (first | apply Kd.V_alloc | apply Kd.V_drewN | apply Kd.V_drew)); exact HO_1.out) hb); have n2_ := Aside0.mk (Kd.N_below (by (with_reducible repeat (first | apply Kd.N_alloc | apply Kd.N_drewN | apply Kd.N_drew)); exact HO_19.out) hb); have n3_ := Aside0.mk (Kd.V_below (by (with_reducible repeat (first | apply Kd.V_alloc | apply Kd.V_drewN | apply Kd.V_drew)); exact HL104_0.out) hb); have n4_ := Aside0.mk (Kd.C_below (by repeat (first | (with_reducible exact HR104_0.out) | (with_reducible refine Kd.C_alloc ?_ _) | (with_reducible refine Kd.C_drewN ?_ _) | (with_reducible refine Kd.C_drew ?_) | exact HR104_0.out)) hb); have n5_ := Aside0.mk (below_step (hbA HB) hb); clear HO_0; clear HO_1; clear HO_19; clear HL104_0; clear HR104_0; clear HB; have HO_0 := n0_; have HO_1 := n1_; have HO_19 := n2_; have HL104_0 := n3_; have HR104_0 := n4_; have HB := n5_; clear n0_ n1_ n2_ n3_ n4_ n5_; (try clear hb); (try clear hb2); (try clear hk); (try clear hi)))
       repeat (go_quiet (first | (go_at_call 82; (with_reducible refine (shape_Size_s.calls _ _ (rd_L2 y101 x21_1) t105 t106 _ ?side1 ?side2 A9.out).mono ?_); (case side1 => repeat (first | exact (by repeat (first | (with_reducible exact HR104_0.out) | (with_reducible refine Kd.C_alloc ?_ _) | (with_reducible refine Kd.C_drewN ?_ _) | (with_reducible refine Kd.C_drew ?_) | exact HR104_0.out)) | (with_reducible refine Kd.C_alloc ?_ _) | (with_reducible refine Kd.C_drewN ?_ _) | (with_reducible refine Kd.C_drew ?_))); (case side2 => exact HC104_0.out); rintro e w11 ⟨rfl, hb⟩; have n0_ := Aside0.mk (Kd.V_below (by (with_reducible repeat (first | apply Kd.V_alloc | apply Kd.V_drewN | apply Kd.V_drew)); exact HO_0.out) hb); have n1_ := Aside0.mk (Kd.V_below (by (with_reducible repeat (first | apply Kd.V_alloc | apply Kd.V_drewN | apply Kd.V_drew)); exact HO_1.out) hb); have n2_ := Aside0.mk (Kd.N_below (by (with_reducible repeat (first | apply Kd.N_alloc | apply Kd.N_drewN | apply Kd.N_drew)); exact HO_19.out) hb); have n3_ := Aside0.mk (Kd.V_below (by (with_reducible repeat (first | apply Kd.V_alloc | apply Kd.V_drewN | apply Kd.V_drew)); exact HL104_0.out) hb); have n4_ := Aside0.mk (Kd.C_below (by repeat (first | (with_reducible exact HR104_0.out) | (with_reducible refine Kd.C_alloc ?_ _) | (with_reducible refine Kd.C_drewN ?_ _) | (with_reducible refine Kd.C_drew ?_) | exact HR104_0.out)) hb); have n5_ := Aside0.mk (below_step (hbA HB) hb); clear HO_0; clear HO_1; clear HO_19; clear HL104_0; clear HR104_0; clear HB; have HO_0 := n0_; have HO_1 := n1_; have HO_19 := n2_; have HL104_0 := n3_; have HR104_0 := n4_; have HB := n5_; clear n0_ n1_ n2_ n3_ n4_ n5_; (try clear hb); (try clear hb2); (try clear hk); (try clear hi))); try go_wp2_with (first | (go_at_call 82; (with_reducible refine (shape_Size_s.calls _ _ (rd_L2 y101 x21_1) t105 t106 _ ?side1 ?side2 A9.out).mono ?_); (case side1 => repeat (first | exact (by repeat (first | (with_reducible exact HR104_0.out) | (with_reducible refine Kd.C_alloc ?_ _) | (with_reducible refine Kd.C_drewN ?_ _) | (with_reducible refine Kd.C_drew ?_) | exact HR104_0.out)) | (with_reducible refine Kd.C_alloc ?_ _) | (with_reducible refine Kd.C_drewN ?_ _) | (with_reducible refine Kd.C_drew ?_))); (case side2 => exact HC104_0.out); rintro e w11 ⟨rfl, hb⟩; have n0_ := Aside0.mk (Kd.V_below (by (with_reducible repeat (first | apply Kd.V_alloc | apply Kd.V_drewN | apply Kd.V_drew)); exact HO_0.out) hb); have n1_ := Aside0.mk (Kd.V_below (by (with_reducible repeat (first | apply Kd.V_alloc | apply Kd.V_drewN | apply Kd.V_drew)); exact HO_1.out) hb); have n2_ := Aside0.mk (Kd.N_below (by (with_reducible repeat (first | apply Kd.N_alloc | apply Kd.N_drewN | apply Kd.N_drew)); exact HO_19.out) hb); have n3_ := Aside0.mk (Kd.V_below (by (with_reducible repeat (first | apply Kd.V_alloc | apply Kd.V_drewN | apply Kd.V_drew)); exact HL104_0.out) hb); have n4_ := Aside0.mk (Kd.C_below (by repeat (first | (with_reducible exact HR104_0.out) | (with_reducible refine Kd.C_alloc ?_ _) | (with_reducible refine Kd.C_drewN ?_ _) | (with_reducible refine Kd.C_drew ?_) | exact HR104_0.out)) hb); have n5_ := Aside0.mk (below_step (hbA HB) hb); clear HO_0; clear HO_1; clear HO_19; clear HL104_0; clear HR104_0; clear HB; have HO_0 := n0_; have HO_1 := n1_; have HO_19 := n2_; have HL104_0 := n3_; have HR104_0 := n4_; have HB := n5_; clear n0_ n1_ n2_ n3_ n4_ n5_; (try clear hb); (try clear hb2); (try clear hk); (try clear hi))))
       go_roundg k1
       case measure => have := HK1.out; omega
       case rel => exact ⟨(wrap64 (x21_1 + 1)), (by first | rfl | (simp; done) | (simp [*]; done)), H', ⟨by have := HK1.out; omega⟩, ⟨by (with_reducible repeat (first | apply Kd.V_alloc | apply Kd.V_drewN | apply Kd.V_drew)); exact HO_0.out⟩, ⟨by (with_reducible repeat (first | apply Kd.V_alloc | apply Kd.V_drewN | apply Kd.V_drew)); exact HO_1.out⟩, ⟨by (with_reducible repeat (first | apply Kd.N_alloc | apply Kd.N_drewN | apply Kd.N_drew)); exact HO_19.out⟩, ⟨hbA HB⟩⟩
      ·
       rw [if_neg c10] at H
       have c10b0 : (t106 == 0) = false := beq_eq_false_iff_ne.mpr c10
       have c10b1 : (t106 != 0) = true := bne_iff_ne.mpr c10
       simp only [Option.some.injEq, Prod.mk.injEq] at H
       obtain ⟨rfl, rfl⟩ := H
       have p104 : 0 ≤ (x21_1 : Int) := of_decide_eq_true (by first | (with_reducible assumption) | assumption)
       have q104 : x21_1 < (y101.length : Int) := of_decide_eq_true (by first | (with_reducible assumption) | assumption)
       obtain ⟨ad104, A104_0, c104_0, e104, hx104_0, hl104_0, hi104_0⟩ := at_L2 (Kd.N_reads' HO_19.out).2.2 x21_1 p104 q104
       cases e104
       obtain ⟨ce104, hce104, hMe104, hcc104⟩ := Kd.N_get HO_19.out [] x21_1 p104 (by first | exact q104 | exact of_decide_eq_true (by first | (with_reducible assumption) | assumption) | (have e_ := (Kd.N_reads' HO_19.out).1; omega))
       obtain ⟨ua104_0, uc104_0, rfl, ul104_0, ge104_0⟩ := Kd.FK_slice_open hMe104
       have hv104_0 := hcc104 0 _ rfl
       rw [Nat.add_zero, show ((Kd.slice 2 (Kd.int .i64))).sz = 1 from rfl, Nat.mul_one] at hv104_0
       replace hv104_0 := Option.some.inj (hv104_0.symm.trans hx104_0)
       injection hv104_0 with hva_ hvn_ hvc_
       rw [hva_] at ge104_0
       rw [hvc_] at ul104_0
       have HL104_0 := Aside0.mk (show Kd.V (Kd.int .i64) 2 _ w.heap.size _ _ (rd_L2 y101 x21_1) from Kd.V_mk ul104_0 ge104_0)
       clear hva_ hvn_ hvc_ ge104_0 ul104_0; clear hcc104 hce104
       have HR104_0 := Aside0.mk hi104_0
       have HC104_0 := Aside0.mk hl104_0
       clear hi104_0 hl104_0
       replace p104 := eq_true p104
       replace q104 := eq_true q104
       go_wp2_with (first | (go_at_call 82; (with_reducible refine (shape_Size_s.calls _ _ (rd_L2 y101 x21_1) t105 t106 _ ?side1 ?side2 A9.out).mono ?_); (case side1 => repeat (first | exact (by repeat (first | (with_reducible exact HR104_0.out) | (with_reducible refine Kd.C_alloc ?_ _) | (with_reducible refine Kd.C_drewN ?_ _) | (with_reducible refine Kd.C_drew ?_) | exact HR104_0.out)) | (with_reducible refine Kd.C_alloc ?_ _) | (with_reducible refine Kd.C_drewN ?_ _) | (with_reducible refine Kd.C_drew ?_))); (case side2 => exact HC104_0.out); rintro e w12 ⟨rfl, hb⟩; have n0_ := Aside0.mk (Kd.V_below (by (with_reducible repeat (first | apply Kd.V_alloc | apply Kd.V_drewN | apply Kd.V_drew)); exact HO_0.out) hb); have n1_ := Aside0.mk (Kd.V_below (by (with_reducible repeat (first | apply Kd.V_alloc | apply Kd.V_drewN | apply Kd.V_drew)); exact HO_1.out) hb); have n2_ := Aside0.mk (Kd.N_below (by (with_reducible repeat (first | apply Kd.N_alloc | apply Kd.N_drewN | apply Kd.N_drew)); exact HO_19.out) hb); have n3_ := Aside0.mk (Kd.V_below (by (with_reducible repeat (first | apply Kd.V_alloc | apply Kd.V_drewN | apply Kd.V_drew)); exact HL104_0.out) hb); have n4_ := Aside0.mk (Kd.C_below (by repeat (first | (with_reducible exact HR104_0.out) | (with_reducible refine Kd.C_alloc ?_ _) | (with_reducible refine Kd.C_drewN ?_ _) | (with_reducible refine Kd.C_drew ?_) | exact HR104_0.out)) hb); have n5_ := Aside0.mk (below_step (hbA HB) hb); clear HO_0; clear HO_1; clear HO_19; clear HL104_0; clear HR104_0; clear HB; have HO_0 := n0_; have HO_1 := n1_; have HO_19 := n2_; have HL104_0 := n3_; have HR104_0 := n4_; have HB := n5_; clear n0_ n1_ n2_ n3_ n4_ n5_; (try clear hb); (try clear hb2); (try clear hk); (try clear hi)))
       repeat (go_quiet (first | (go_at_call 82; (with_reducible refine (shape_Size_s.calls _ _ (rd_L2 y101 x21_1) t105 t106 _ ?side1 ?side2 A9.out).mono ?_); (case side1 => repeat (first | exact (by repeat (first | (with_reducible exact HR104_0.out) | (with_reducible refine Kd.C_alloc ?_ _) | (with_reducible refine Kd.C_drewN ?_ _) | (with_reducible refine Kd.C_drew ?_) | exact HR104_0.out)) | (with_reducible refine Kd.C_alloc ?_ _) | (with_reducible refine Kd.C_drewN ?_ _) | (with_reducible refine Kd.C_drew ?_))); (case side2 => exact HC104_0.out); rintro e w12 ⟨rfl, hb⟩; have n0_ := Aside0.mk (Kd.V_below (by (with_reducible repeat (first | apply Kd.V_alloc | apply Kd.V_drewN | apply Kd.V_drew)); exact HO_0.out) hb); have n1_ := Aside0.mk (Kd.V_below (by (with_reducible repeat (first | apply Kd.V_alloc | apply Kd.V_drewN | apply Kd.V_drew)); exact HO_1.out) hb); have n2_ := Aside0.mk (Kd.N_below (by (with_reducible repeat (first | apply Kd.N_alloc | apply Kd.N_drewN | apply Kd.N_drew)); exact HO_19.out) hb); have n3_ := Aside0.mk (Kd.V_below (by (with_reducible repeat (first | apply Kd.V_alloc | apply Kd.V_drewN | apply Kd.V_drew)); exact HL104_0.out) hb); have n4_ := Aside0.mk (Kd.C_below (by repeat (first | (with_reducible exact HR104_0.out) | (with_reducible refine Kd.C_alloc ?_ _) | (with_reducible refine Kd.C_drewN ?_ _) | (with_reducible refine Kd.C_drew ?_) | exact HR104_0.out)) hb); have n5_ := Aside0.mk (below_step (hbA HB) hb); clear HO_0; clear HO_1; clear HO_19; clear HL104_0; clear HR104_0; clear HB; have HO_0 := n0_; have HO_1 := n1_; have HO_19 := n2_; have HL104_0 := n3_; have HR104_0 := n4_; have HB := n5_; clear n0_ n1_ n2_ n3_ n4_ n5_; (try clear hb); (try clear hb2); (try clear hk); (try clear hi))); try go_wp2_with (first | (go_at_call 82; (with_reducible refine (shape_Size_s.calls _ _ (rd_L2 y101 x21_1) t105 t106 _ ?side1 ?side2 A9.out).mono ?_); (case side1 => repeat (first | exact (by repeat (first | (with_reducible exact HR104_0.out) | (with_reducible refine Kd.C_alloc ?_ _) | (with_reducible refine Kd.C_drewN ?_ _) | (with_reducible refine Kd.C_drew ?_) | exact HR104_0.out)) | (with_reducible refine Kd.C_alloc ?_ _) | (with_reducible refine Kd.C_drewN ?_ _) | (with_reducible refine Kd.C_drew ?_))); (case side2 => exact HC104_0.out); rintro e w12 ⟨rfl, hb⟩; have n0_ := Aside0.mk (Kd.V_below (by (with_reducible repeat (first | apply Kd.V_alloc | apply Kd.V_drewN | apply Kd.V_drew)); exact HO_0.out) hb); have n1_ := Aside0.mk (Kd.V_below (by (with_reducible repeat (first | apply Kd.V_alloc | apply Kd.V_drewN | apply Kd.V_drew)); exact HO_1.out) hb); have n2_ := Aside0.mk (Kd.N_below (by (with_reducible repeat (first | apply Kd.N_alloc | apply Kd.N_drewN | apply Kd.N_drew)); exact HO_19.out) hb); have n3_ := Aside0.mk (Kd.V_below (by (with_reducible repeat (first | apply Kd.V_alloc | apply Kd.V_drewN | apply Kd.V_drew)); exact HL104_0.out) hb); have n4_ := Aside0.mk (Kd.C_below (by repeat (first | (with_reducible exact HR104_0.out) | (with_reducible refine Kd.C_alloc ?_ _) | (with_reducible refine Kd.C_drewN ?_ _) | (with_reducible refine Kd.C_drew ?_) | exact HR104_0.out)) hb); have n5_ := Aside0.mk (below_step (hbA HB) hb); clear HO_0; clear HO_1; clear HO_19; clear HL104_0; clear HR104_0; clear HB; have HO_0 := n0_; have HO_1 := n1_; have HO_19 := n2_; have HL104_0 := n3_; have HR104_0 := n4_; have HB := n5_; clear n0_ n1_ n2_ n3_ n4_ n5_; (try clear hb); (try clear hb2); (try clear hk); (try clear hi))))
       go_ret2
       exact ⟨_, by first | rfl | (simp [errW_none, errW_some] <;> rfl) | (simp [*, errW_none, errW_some] <;> rfl), by first | exact Kd.R_nil _ _ _ _ _ | exact Kd.N_nil _ _ _ _ _ | exact Kd.V_nil _ _ _ _ _ | exact Kd.Q_nil _ _ _ _ _ | exact Kd.S_nil _ _ _ _ _, hbA HB⟩
     ·
      exact absurd (of_decide_eq_true c6b0) c8
    ·
     rw [if_neg c7] at H
     exact absurd H (by simp)
   ·
    rw [if_neg c6] at H
    have c6b0 : decide (x21_1 < (y101.length : Int)) = false := decide_eq_false c6
    clear c6
    obtain ⟨ji13, hji13⟩ : ∃ j_ : Int, (mx (l0.length : Int) (l1.length : Int)) = j_ := ⟨_, rfl⟩
    replace H : ((shape_wide_s.f l0 (ji13)).bind fun t107 => ((shape_wide_s.f l1 (ji13)).bind fun t110 => (shape_Broadcast.l1 k1 t107 t110 ([] : List Int) ji13 0))) = some (r1, r2) := by first | (rw [hji13] at H; exact H) | (simp only [hji13] at H ⊢; exact H)
    have hji13_ : (if (l0.length : Int) < (l1.length : Int) then (l1.length : Int) else (l0.length : Int)) = ji13 := hji13
    have hji13N : (if l0.length < l1.length then (l1.length : Int) else (l0.length : Int)) = ji13 := by have h_ := hji13_; simp only [Int.ofNat_lt] at h_; exact h_
    replace H := Option.bind_eq_some_iff.mp H
    obtain ⟨t107, A140, H⟩ := H
    replace H : ((shape_wide_s.f l1 (ji13)).bind fun t110 => (shape_Broadcast.l1 k1 t107 t110 ([] : List Int) ji13 0)) = some (r1, r2) := H
    have A14 := Aside0.mk A140
    clear A140
    replace H := Option.bind_eq_some_iff.mp H
    obtain ⟨t110, A150, H⟩ := H
    replace H : (shape_Broadcast.l1 k1 t107 t110 ([] : List Int) ji13 0) = some (r1, r2) := H
    have A15 := Aside0.mk A150
    clear A150
    have H' := Aside0.mk H
    clear H
    go_wp2_with (first | (go_at_call 88; (with_reducible refine (shape_wide_s.calls _ _ l0 ji13 t107 _ ?side1 ?side2 A14.out).mono ?_); (case side1 => repeat (first | exact (Kd.V_reads' HO_0.out).2.2 | (with_reducible refine Kd.C_alloc ?_ _) | (with_reducible refine Kd.C_drewN ?_ _) | (with_reducible refine Kd.C_drew ?_))); (case side2 => exact (Kd.V_reads' HO_0.out).2.1); rintro e w16 ⟨v108, rfl, ho0, hb⟩; have n0_ := Aside0.mk (Kd.V_elder' (by (with_reducible repeat (first | apply Kd.V_alloc | apply Kd.V_drewN | apply Kd.V_drew)); exact HO_0.out) (Kd.R_base ho0) hb); have n1_ := Aside0.mk (Kd.V_elder' (by (with_reducible repeat (first | apply Kd.V_alloc | apply Kd.V_drewN | apply Kd.V_drew)); exact HO_1.out) (Kd.R_base ho0) hb); have n2_ := Aside0.mk (Kd.N_elder' (by (with_reducible repeat (first | apply Kd.N_alloc | apply Kd.N_drewN | apply Kd.N_drew)); exact HO_19.out) (Kd.R_base ho0) hb); have n3_ := Aside0.mk (Kd.R_lower (Kd.R_newM (M := fun k_ => (w.heap.size ≤ k_)) ho0 (below_size (hbA HB)) (fun k_ h_ => h_)) (below_size (hbA HB))); have n4_ := Aside0.mk (below_step (hbA HB) hb); clear HO_0; clear HO_1; clear HO_19; clear HB; have HO_0 := n0_; have HO_1 := n1_; have HO_19 := n2_; have HO109 := n3_; have HB := n4_; clear n0_ n1_ n2_ n3_ n4_; (try clear hb); (try clear hb2); (try clear hk); (try clear hi); (try clear ho0)) | (go_at_call 88; (with_reducible refine (shape_wide_s.calls _ _ l1 ji13 t110 _ ?side1 ?side2 A15.out).mono ?_); (case side1 => repeat (first | exact (Kd.V_reads' HO_1.out).2.2 | (with_reducible refine Kd.C_alloc ?_ _) | (with_reducible refine Kd.C_drewN ?_ _) | (with_reducible refine Kd.C_drew ?_))); (case side2 => exact (Kd.V_reads' HO_1.out).2.1); rintro e w17 ⟨v111, rfl, ho0, hb⟩; have n0_ := Aside0.mk (Kd.V_elder' (by (with_reducible repeat (first | apply Kd.V_alloc | apply Kd.V_drewN | apply Kd.V_drew)); exact HO_0.out) (Kd.R_base ho0) hb); have n1_ := Aside0.mk (Kd.V_elder' (by (with_reducible repeat (first | apply Kd.V_alloc | apply Kd.V_drewN | apply Kd.V_drew)); exact HO_1.out) (Kd.R_base ho0) hb); have n2_ := Aside0.mk (Kd.N_elder' (by (with_reducible repeat (first | apply Kd.N_alloc | apply Kd.N_drewN | apply Kd.N_drew)); exact HO_19.out) (Kd.R_base ho0) hb); have n3_ := Aside0.mk (Kd.R_elder' (krA HO109) (Kd.R_base ho0) hb); have n4_ := Aside0.mk (Kd.R_lower (Kd.R_new' (Kd.R_newM (M := fun k_ => (w.heap.size ≤ k_)) ho0 (below_size (hbA HB)) (fun k_ h_ => h_)) (Kd.R_lt (krA HO109))) (below_size (hbA HB))); have n5_ := Aside0.mk (below_step (hbA HB) hb); clear HO_0; clear HO_1; clear HO_19; clear HO109; clear HB; have HO_0 := n0_; have HO_1 := n1_; have HO_19 := n2_; have HO109 := n3_; have HO112 := n4_; have HB := n5_; clear n0_ n1_ n2_ n3_ n4_ n5_; (try clear hb); (try clear hb2); (try clear hk); (try clear hi); (try clear ho0)))
    repeat (go_quiet (first | (go_at_call 88; (with_reducible refine (shape_wide_s.calls _ _ l0 ji13 t107 _ ?side1 ?side2 A14.out).mono ?_); (case side1 => repeat (first | exact (Kd.V_reads' HO_0.out).2.2 | (with_reducible refine Kd.C_alloc ?_ _) | (with_reducible refine Kd.C_drewN ?_ _) | (with_reducible refine Kd.C_drew ?_))); (case side2 => exact (Kd.V_reads' HO_0.out).2.1); rintro e w16 ⟨v108, rfl, ho0, hb⟩; have n0_ := Aside0.mk (Kd.V_elder' (by (with_reducible repeat (first | apply Kd.V_alloc | apply Kd.V_drewN | apply Kd.V_drew)); exact HO_0.out) (Kd.R_base ho0) hb); have n1_ := Aside0.mk (Kd.V_elder' (by (with_reducible repeat (first | apply Kd.V_alloc | apply Kd.V_drewN | apply Kd.V_drew)); exact HO_1.out) (Kd.R_base ho0) hb); have n2_ := Aside0.mk (Kd.N_elder' (by (with_reducible repeat (first | apply Kd.N_alloc | apply Kd.N_drewN | apply Kd.N_drew)); exact HO_19.out) (Kd.R_base ho0) hb); have n3_ := Aside0.mk (Kd.R_lower (Kd.R_newM (M := fun k_ => (w.heap.size ≤ k_)) ho0 (below_size (hbA HB)) (fun k_ h_ => h_)) (below_size (hbA HB))); have n4_ := Aside0.mk (below_step (hbA HB) hb); clear HO_0; clear HO_1; clear HO_19; clear HB; have HO_0 := n0_; have HO_1 := n1_; have HO_19 := n2_; have HO109 := n3_; have HB := n4_; clear n0_ n1_ n2_ n3_ n4_; (try clear hb); (try clear hb2); (try clear hk); (try clear hi); (try clear ho0)) | (go_at_call 88; (with_reducible refine (shape_wide_s.calls _ _ l1 ji13 t110 _ ?side1 ?side2 A15.out).mono ?_); (case side1 => repeat (first | exact (Kd.V_reads' HO_1.out).2.2 | (with_reducible refine Kd.C_alloc ?_ _) | (with_reducible refine Kd.C_drewN ?_ _) | (with_reducible refine Kd.C_drew ?_))); (case side2 => exact (Kd.V_reads' HO_1.out).2.1); rintro e w17 ⟨v111, rfl, ho0, hb⟩; have n0_ := Aside0.mk (Kd.V_elder' (by (with_reducible repeat (first | apply Kd.V_alloc | apply Kd.V_drewN | apply Kd.V_drew)); exact HO_0.out) (Kd.R_base ho0) hb); have n1_ := Aside0.mk (Kd.V_elder' (by (with_reducible repeat (first | apply Kd.V_alloc | apply Kd.V_drewN | apply Kd.V_drew)); exact HO_1.out) (Kd.R_base ho0) hb); have n2_ := Aside0.mk (Kd.N_elder' (by (with_reducible repeat (first | apply Kd.N_alloc | apply Kd.N_drewN | apply Kd.N_drew)); exact HO_19.out) (Kd.R_base ho0) hb); have n3_ := Aside0.mk (Kd.R_elder' (krA HO109) (Kd.R_base ho0) hb); have n4_ := Aside0.mk (Kd.R_lower (Kd.R_new' (Kd.R_newM (M := fun k_ => (w.heap.size ≤ k_)) ho0 (below_size (hbA HB)) (fun k_ h_ => h_)) (Kd.R_lt (krA HO109))) (below_size (hbA HB))); have n5_ := Aside0.mk (below_step (hbA HB) hb); clear HO_0; clear HO_1; clear HO_19; clear HO109; clear HB; have HO_0 := n0_; have HO_1 := n1_; have HO_19 := n2_; have HO109 := n3_; have HO112 := n4_; have HB := n5_; clear n0_ n1_ n2_ n3_ n4_ n5_; (try clear hb); (try clear hb2); (try clear hk); (try clear hi); (try clear ho0))); try go_wp2_with (first | (go_at_call 88; (with_reducible refine (shape_wide_s.calls _ _ l0 ji13 t107 _ ?side1 ?side2 A14.out).mono ?_); (case side1 => repeat (first | exact (Kd.V_reads' HO_0.out).2.2 | (with_reducible refine Kd.C_alloc ?_ _) | (with_reducible refine Kd.C_drewN ?_ _) | (with_reducible refine Kd.C_drew ?_))); (case side2 => exact (Kd.V_reads' HO_0.out).2.1); rintro e w16 ⟨v108, rfl, ho0, hb⟩; have n0_ := Aside0.mk (Kd.V_elder' (by (with_reducible repeat (first | apply Kd.V_alloc | apply Kd.V_drewN | apply Kd.V_drew)); exact HO_0.out) (Kd.R_base ho0) hb); have n1_ := Aside0.mk (Kd.V_elder' (by (with_reducible repeat (first | apply Kd.V_alloc | apply Kd.V_drewN | apply Kd.V_drew)); exact HO_1.out) (Kd.R_base ho0) hb); have n2_ := Aside0.mk (Kd.N_elder' (by (with_reducible repeat (first | apply Kd.N_alloc | apply Kd.N_drewN | apply Kd.N_drew)); exact HO_19.out) (Kd.R_base ho0) hb); have n3_ := Aside0.mk (Kd.R_lower (Kd.R_newM (M := fun k_ => (w.heap.size ≤ k_)) ho0 (below_size (hbA HB)) (fun k_ h_ => h_)) (below_size (hbA HB))); have n4_ := Aside0.mk (below_step (hbA HB) hb); clear HO_0; clear HO_1; clear HO_19; clear HB; have HO_0 := n0_; have HO_1 := n1_; have HO_19 := n2_; have HO109 := n3_; have HB := n4_; clear n0_ n1_ n2_ n3_ n4_; (try clear hb); (try clear hb2); (try clear hk); (try clear hi); (try clear ho0)) | (go_at_call 88; (with_reducible refine (shape_wide_s.calls _ _ l1 ji13 t110 _ ?side1 ?side2 A15.out).mono ?_); (case side1 => repeat (first | exact (Kd.V_reads' HO_1.out).2.2 | (with_reducible refine Kd.C_alloc ?_ _) | (with_reducible refine Kd.C_drewN ?_ _) | (with_reducible refine Kd.C_drew ?_))); (case side2 => exact (Kd.V_reads' HO_1.out).2.1); rintro e w17 ⟨v111, rfl, ho0, hb⟩; have n0_ := Aside0.mk (Kd.V_elder' (by (with_reducible repeat (first | apply Kd.V_alloc | apply Kd.V_drewN | apply Kd.V_drew)); exact HO_0.out) (Kd.R_base ho0) hb); have n1_ := Aside0.mk (Kd.V_elder' (by (with_reducible repeat (first | apply Kd.V_alloc | apply Kd.V_drewN | apply Kd.V_drew)); exact HO_1.out) (Kd.R_base ho0) hb); have n2_ := Aside0.mk (Kd.N_elder' (by (with_reducible repeat (first | apply Kd.N_alloc | apply Kd.N_drewN | apply Kd.N_drew)); exact HO_19.out) (Kd.R_base ho0) hb); have n3_ := Aside0.mk (Kd.R_elder' (krA HO109) (Kd.R_base ho0) hb); have n4_ := Aside0.mk (Kd.R_lower (Kd.R_new' (Kd.R_newM (M := fun k_ => (w.heap.size ≤ k_)) ho0 (below_size (hbA HB)) (fun k_ h_ => h_)) (Kd.R_lt (krA HO109))) (below_size (hbA HB))); have n5_ := Aside0.mk (below_step (hbA HB) hb); clear HO_0; clear HO_1; clear HO_19; clear HO109; clear HB; have HO_0 := n0_; have HO_1 := n1_; have HO_19 := n2_; have HO109 := n3_; have HO112 := n4_; have HB := n5_; clear n0_ n1_ n2_ n3_ n4_ n5_; (try clear hb); (try clear hb2); (try clear hk); (try clear hi); (try clear ho0))))
    go_loopg [13, 46] k1 (fun kq v13 v46 w' => ∃ (x13_2 : List Int) (x46_2 : Int), v46 = .int .i64 x46_2 ∧ Aside0 (shape_Broadcast.l1 kq t107 t110 x13_2 ji13 x46_2 = some (r1, r2)) ∧ Aside0 (kq ≤ k1) ∧ Aside0 (Kd.R (Kd.int .i64) 2 w' w.heap.size (fun k_ => (w.heap.size ≤ k_) ∧ some k_ ≠ (v111 : Value).ownBlock ∧ some k_ ≠ (v13 : Value).ownBlock) v108 t107) ∧ Aside0 (Kd.R (Kd.int .i64) 2 w' w.heap.size (fun k_ => (w.heap.size ≤ k_) ∧ some k_ ≠ (v108 : Value).ownBlock ∧ some k_ ≠ (v13 : Value).ownBlock) v111 t110) ∧ Aside0 (Kd.R (Kd.int .i64) 2 w' w.heap.size (fun k_ => (w.heap.size ≤ k_) ∧ some k_ ≠ (v108 : Value).ownBlock ∧ some k_ ≠ (v111 : Value).ownBlock) v13 x13_2) ∧ Aside0 (Below w.heap.size w w'))
    case atStart => exact ⟨(([] : List Int)), (0), (by first | rfl | (simp; done) | (simp [*]; done)), H', ⟨Nat.le_refl _⟩, ⟨by (with_reducible repeat (first | apply Kd.R_alloc | apply Kd.R_drewN | apply Kd.R_drew)); exact Kd.R_mono HO109.out (fun _ hk => ⟨hk.1.1, ⟨hk.2, (by simp [Value.ownBlock])⟩⟩)⟩, ⟨by (with_reducible repeat (first | apply Kd.R_alloc | apply Kd.R_drewN | apply Kd.R_drew)); exact Kd.R_mono HO112.out (fun _ hk => ⟨hk.1.1, ⟨hk.2, (by simp [Value.ownBlock])⟩⟩)⟩, ⟨by first | exact Kd.R_nil _ _ _ _ _ | exact Kd.N_nil _ _ _ _ _ | exact Kd.V_nil _ _ _ _ _ | exact Kd.Q_nil _ _ _ _ _ | exact Kd.S_nil _ _ _ _ _⟩, ⟨hbA HB⟩⟩
    case round =>
     clear H'
     obtain ⟨x13_2, x46_2, rfl, HA, HK2, HO_11, HO_12, HO_13, HB⟩ := hrel
     cases gk with
     | zero => exact absurd HA.out (by simp [shape_Broadcast.l1])
     | succ k2 =>
      have H := HA.out; clear HA
      simp only [shape_Broadcast.l1] at H
      by_cases c18 : x46_2 < ji13
      ·
       rw [if_pos c18] at H
       have c18b0 : decide (x46_2 < ji13) = true := decide_eq_true c18
       clear c18
       have HC19 := Aside0.mk H
       clear H
       go_upto_region 15 with (fail)
       repeat (go_quiet (fail); go_upto_region 15 with (fail))
       go_cut [49] (fun v49 wc => ∃ (kq : Nat) (x49_18 : Bool), v49 = .bool x49_18 ∧ Aside0 (shape_Broadcast.j2 kq t107 t110 x13_2 x46_2 ji13 x46_2 x49_18 = some (r1, r2)) ∧ Aside0 (kq ≤ k2) ∧ Aside0 (Kd.R (Kd.int .i64) 2 wc w.heap.size (fun k_ => (w.heap.size ≤ k_) ∧ some k_ ≠ (v111 : Value).ownBlock ∧ some k_ ≠ (u13 : Value).ownBlock) v108 t107) ∧ Aside0 (Kd.R (Kd.int .i64) 2 wc w.heap.size (fun k_ => (w.heap.size ≤ k_) ∧ some k_ ≠ (v108 : Value).ownBlock ∧ some k_ ≠ (u13 : Value).ownBlock) v111 t110) ∧ Aside0 (Kd.R (Kd.int .i64) 2 wc w.heap.size (fun k_ => (w.heap.size ≤ k_) ∧ some k_ ≠ (v108 : Value).ownBlock ∧ some k_ ≠ (v111 : Value).ownBlock) u13 x13_2) ∧ Aside0 (Below w.heap.size w wc))
       case first =>
        have H := HC19.out; clear HC19
        by_cases c20 : 0 ≤ x46_2
        ·
         rw [if_pos c20] at H
         have c20b0 : decide (0 ≤ x46_2) = true := decide_eq_true c20
         clear c20
         (first | rw [c20b0] | (simp only [i64_w, i32_w]; rw [c20b0]) | skip)
         by_cases c21 : x46_2 < (t107.length : Int)
         ·
          rw [if_pos c21] at H
          have c21b0 : decide (x46_2 < (t107.length : Int)) = true := decide_eq_true c21
          clear c21
          by_cases c22 : x46_2 < (t110.length : Int)
          ·
           rw [if_pos c22] at H
           have c22b0 : decide (x46_2 < (t110.length : Int)) = true := decide_eq_true c22
           clear c22
           by_cases c23 : (rd t107 x46_2) = (rd t110 x46_2)
           ·
            rw [if_pos c23] at H
            have c23b0 : ((rd t107 x46_2) == (rd t110 x46_2)) = true := beq_iff_eq.mpr c23
            have c23b1 : ((rd t107 x46_2) != (rd t110 x46_2)) = false := bne_eq_false_iff_eq.mpr c23
            clear c23
            have H' := Aside0.mk H
            clear H
            obtain ⟨Ao24, co24, eo24⟩ := Kd.R_slice HO_11.out
            subst eo24
            have p115 : 0 ≤ (x46_2 : Int) := of_decide_eq_true (by first | (with_reducible assumption) | assumption)
            have q115 : x46_2 < (t107.length : Int) := of_decide_eq_true (by first | (with_reducible assumption) | assumption)
            obtain ⟨ad115, e115, hx115_0⟩ := Kd.at_int (Kd.R_reads' HO_11.out).2.2 x46_2 p115 q115
            cases e115
            replace p115 := eq_true p115
            replace q115 := eq_true q115
            obtain ⟨Ao25, co25, eo25⟩ := Kd.R_slice HO_12.out
            subst eo25
            have p116 : 0 ≤ (x46_2 : Int) := of_decide_eq_true (by first | (with_reducible assumption) | assumption)
            have q116 : x46_2 < (t110.length : Int) := of_decide_eq_true (by first | (with_reducible assumption) | assumption)
            obtain ⟨ad116, e116, hx116_0⟩ := Kd.at_int (Kd.R_reads' HO_12.out).2.2 x46_2 p116 q116
            cases e116
            replace p116 := eq_true p116
            replace q116 := eq_true q116
            go_wp2
            repeat (go_quiet (fail); try go_wp2)
            go_meet
            case rel => exact ⟨_, (true), (by first | rfl | (simp; done) | (simp [*]; done)), H', ⟨by have := HK1.out; have := HK2.out; first | omega | exact Nat.le_refl _⟩, ⟨krA HO_11⟩, ⟨krA HO_12⟩, ⟨krA HO_13⟩, ⟨hbA HB⟩⟩
           ·
            rw [if_neg c23] at H
            have c23b0 : ((rd t107 x46_2) == (rd t110 x46_2)) = false := beq_eq_false_iff_ne.mpr c23
            have c23b1 : ((rd t107 x46_2) != (rd t110 x46_2)) = true := bne_iff_ne.mpr c23
            have H' := Aside0.mk H
            clear H
            obtain ⟨Ao26, co26, eo26⟩ := Kd.R_slice HO_11.out
            subst eo26
            have p115 : 0 ≤ (x46_2 : Int) := of_decide_eq_true (by first | (with_reducible assumption) | assumption)
            have q115 : x46_2 < (t107.length : Int) := of_decide_eq_true (by first | (with_reducible assumption) | assumption)
            obtain ⟨ad115, e115, hx115_0⟩ := Kd.at_int (Kd.R_reads' HO_11.out).2.2 x46_2 p115 q115
            cases e115
            replace p115 := eq_true p115
            replace q115 := eq_true q115
            obtain ⟨Ao27, co27, eo27⟩ := Kd.R_slice HO_12.out
            subst eo27
            have p116 : 0 ≤ (x46_2 : Int) := of_decide_eq_true (by first | (with_reducible assumption) | assumption)
            have q116 : x46_2 < (t110.length : Int) := of_decide_eq_true (by first | (with_reducible assumption) | assumption)
            obtain ⟨ad116, e116, hx116_0⟩ := Kd.at_int (Kd.R_reads' HO_12.out).2.2 x46_2 p116 q116
            cases e116
            replace p116 := eq_true p116
            replace q116 := eq_true q116
            have p117 : 0 ≤ (x46_2 : Int) := of_decide_eq_true (by first | (with_reducible assumption) | assumption)
            have q117 : x46_2 < (t110.length : Int) := of_decide_eq_true (by first | (with_reducible assumption) | assumption)
            obtain ⟨ad117, e117, hx117_0⟩ := Kd.at_int (Kd.R_reads' HO_12.out).2.2 x46_2 p117 q117
            obtain rfl : ad116 = ad117 := (by injection e117)
            replace p117 := eq_true p117
            replace q117 := eq_true q117
            go_wp2
            repeat (go_quiet (fail); try go_wp2)
            go_meet
            case rel => exact ⟨_, (((rd t110 x46_2) == 1)), (by first | rfl | (simp; done) | (simp [*]; done)), H', ⟨by have := HK1.out; have := HK2.out; first | omega | exact Nat.le_refl _⟩, ⟨krA HO_11⟩, ⟨krA HO_12⟩, ⟨krA HO_13⟩, ⟨hbA HB⟩⟩
          ·
           rw [if_neg c22] at H
           exact absurd H (by simp)
         ·
          rw [if_neg c21] at H
          exact absurd H (by simp)
        ·
         rw [if_neg c20] at H
         exact absurd H (by simp)
       case rest =>
        clear HC19; try clear c1; try clear c6; try clear c6b0; try clear c7; try clear c7b0; try clear c8; try clear c8b0; try clear c10; try clear c10b0; try clear c10b1; try clear c18; try clear c18b0; try clear c20; try clear c20b0; try clear c21; try clear c21b0; try clear c22; try clear c22b0; try clear c23; try clear c23b0; try clear c23b1; try clear hx104_0; try clear hx115_0; try clear hx116_0; try clear hx117_0; try clear p104; try clear p115; try clear p116; try clear p117; try clear q104; try clear q115; try clear q116; try clear q117
        obtain ⟨kq, x49_18, rfl, HA, HJ18, HO_11, HO_12, HO_13, HB⟩ := hcut
        cases kq with
        | zero => exact absurd HA.out (by simp [shape_Broadcast.j2])
        | succ kj18 =>
         have H := HA.out; clear HA
         simp only [shape_Broadcast.j2] at H
         by_cases c28 : x49_18 = true
         ·
          subst c28
          have H1 : (if 0 ≤ x46_2 then (if x46_2 < (t107.length : Int) then (if x13_2.length < 17592186044416 then (shape_Broadcast.l1 kj18 t107 t110 (x13_2 ++ [rd t107 x46_2]) ji13 (wrap64 (x46_2 + 1))) else (none)) else (none)) else (none)) = some (r1, r2) := by rw [if_pos rfl] at H; exact H
          clear H
          have H := H1
          clear H1
          by_cases c29 : 0 ≤ x46_2
          ·
           rw [if_pos c29] at H
           have c29b0 : decide (0 ≤ x46_2) = true := decide_eq_true c29
           clear c29
           by_cases c30 : x46_2 < (t107.length : Int)
           ·
            rw [if_pos c30] at H
            have c30b0 : decide (x46_2 < (t107.length : Int)) = true := decide_eq_true c30
            clear c30
            by_cases c31 : x13_2.length < 17592186044416
            ·
             rw [if_pos c31] at H
             have LMc31 := Aside0.mk c31
             clear c31
             obtain ⟨y119, hy119⟩ : ∃ y_ : List Int, y_ = (x13_2 ++ [rd t107 x46_2]) := ⟨_, rfl⟩
             replace H : (shape_Broadcast.l1 kj18 t107 t110 y119 ji13 (wrap64 (x46_2 + 1))) = some (r1, r2) := by first | (rw [hy119]; with_reducible exact H) | (have H2_ := (Option.bind_some _ _).symm.trans H; rw [hy119]; with_reducible exact H2_) | (have H2_ := (Option.bind_some _ _).symm.trans H; with_reducible exact H2_) | with_reducible exact H | (rw [hy119]; exact H) | exact H
             have Ny119 := Aside0.mk hy119
             clear hy119
             have H' := Aside0.mk H
             clear H
             obtain ⟨Ao32, co32, eo32⟩ := Kd.R_slice HO_11.out
             subst eo32
             have p118 : 0 ≤ (x46_2 : Int) := of_decide_eq_true (by first | (with_reducible assumption) | assumption)
             have q118 : x46_2 < (t107.length : Int) := of_decide_eq_true (by first | (with_reducible assumption) | assumption)
             obtain ⟨ad118, e118, hx118_0⟩ := Kd.at_int (Kd.R_reads' HO_11.out).2.2 x46_2 p118 q118
             cases e118
             replace p118 := eq_true p118
             replace q118 := eq_true q118
             go_wp2_with (first | ((with_reducible refine gate_builtin (b := .append) (xs := #[.tmp 66, .tmp 71]) rfl ?_); at_builtin; refine Kd.R_append (Kd.int .i64) (w0 := w) w.heap.size rfl (.tmp 66) (.tmp 71) 27 2 (.int .i64 0) 8 rfl Try.underlying27 info2 rfl (by decide) (by omega) u13 x13_2 (rd t107 x46_2) [.int .i64 (rd t107 x46_2)] (fun k_ => (w.heap.size ≤ k_) ∧ some k_ ≠ (.slice (some ad118) t107.length co32 : Value).ownBlock ∧ some k_ ≠ (v111 : Value).ownBlock) (fun _ => False) rfl rfl ?aP (fun _ hk => hk.elim) ?aF ?aO ?aB ?aS ?aL ?_; (case aP => exact rfl); (case aB => exact (hbA HB)); (case aF => exact (fun k_ hk => ⟨(Nat.le_trans (below_size (hbA HB)) hk), Kd.fresh' (Kd.R_lt (krA HO_11)) k_ hk, Kd.fresh' (Kd.R_lt (krA HO_12)) k_ hk⟩)); (case aO => exact (krA HO_13)); (case aS => exact (below_size (hbA HB))); (case aL => have := LMc31.out; omega); intro v120 w33 ho hb hg hat; rw [← Ny119.out] at ho; have n0_ := Aside0.mk (Kd.R_after (ok := (fun k_ => (w.heap.size ≤ k_) ∧ some k_ ≠ (v111 : Value).ownBlock)) (by (with_reducible repeat (first | apply Kd.R_alloc | apply Kd.R_drewN | apply Kd.R_drew)); exact Kd.R_mono HO_11.out (fun _ hk => ⟨⟨hk.1, hk.2.1⟩, hk.2.2⟩)) hg hat); have n1_ := Aside0.mk (Kd.R_after (ok := (fun k_ => (w.heap.size ≤ k_) ∧ some k_ ≠ (.slice (some ad118) t107.length co32 : Value).ownBlock)) (by (with_reducible repeat (first | apply Kd.R_alloc | apply Kd.R_drewN | apply Kd.R_drew)); exact Kd.R_mono HO_12.out (fun _ hk => ⟨⟨hk.1, hk.2.1⟩, hk.2.2⟩)) hg hat); have n2_ := Aside0.mk (hb); have n3_ := Aside0.mk (ho); clear HO_11; clear HO_12; clear HB; clear HO_13; have HO_11 := n0_; have HO_12 := n1_; have HB := n2_; have HO121 := n3_; clear n0_ n1_ n2_ n3_; clear ho hb hg hat))
             repeat (go_quiet (first | ((with_reducible refine gate_builtin (b := .append) (xs := #[.tmp 66, .tmp 71]) rfl ?_); at_builtin; refine Kd.R_append (Kd.int .i64) (w0 := w) w.heap.size rfl (.tmp 66) (.tmp 71) 27 2 (.int .i64 0) 8 rfl Try.underlying27 info2 rfl (by decide) (by omega) u13 x13_2 (rd t107 x46_2) [.int .i64 (rd t107 x46_2)] (fun k_ => (w.heap.size ≤ k_) ∧ some k_ ≠ (.slice (some ad118) t107.length co32 : Value).ownBlock ∧ some k_ ≠ (v111 : Value).ownBlock) (fun _ => False) rfl rfl ?aP (fun _ hk => hk.elim) ?aF ?aO ?aB ?aS ?aL ?_; (case aP => exact rfl); (case aB => exact (hbA HB)); (case aF => exact (fun k_ hk => ⟨(Nat.le_trans (below_size (hbA HB)) hk), Kd.fresh' (Kd.R_lt (krA HO_11)) k_ hk, Kd.fresh' (Kd.R_lt (krA HO_12)) k_ hk⟩)); (case aO => exact (krA HO_13)); (case aS => exact (below_size (hbA HB))); (case aL => have := LMc31.out; omega); intro v120 w33 ho hb hg hat; rw [← Ny119.out] at ho; have n0_ := Aside0.mk (Kd.R_after (ok := (fun k_ => (w.heap.size ≤ k_) ∧ some k_ ≠ (v111 : Value).ownBlock)) (by (with_reducible repeat (first | apply Kd.R_alloc | apply Kd.R_drewN | apply Kd.R_drew)); exact Kd.R_mono HO_11.out (fun _ hk => ⟨⟨hk.1, hk.2.1⟩, hk.2.2⟩)) hg hat); have n1_ := Aside0.mk (Kd.R_after (ok := (fun k_ => (w.heap.size ≤ k_) ∧ some k_ ≠ (.slice (some ad118) t107.length co32 : Value).ownBlock)) (by (with_reducible repeat (first | apply Kd.R_alloc | apply Kd.R_drewN | apply Kd.R_drew)); exact Kd.R_mono HO_12.out (fun _ hk => ⟨⟨hk.1, hk.2.1⟩, hk.2.2⟩)) hg hat); have n2_ := Aside0.mk (hb); have n3_ := Aside0.mk (ho); clear HO_11; clear HO_12; clear HB; clear HO_13; have HO_11 := n0_; have HO_12 := n1_; have HB := n2_; have HO121 := n3_; clear n0_ n1_ n2_ n3_; clear ho hb hg hat)); try go_wp2_with (first | ((with_reducible refine gate_builtin (b := .append) (xs := #[.tmp 66, .tmp 71]) rfl ?_); at_builtin; refine Kd.R_append (Kd.int .i64) (w0 := w) w.heap.size rfl (.tmp 66) (.tmp 71) 27 2 (.int .i64 0) 8 rfl Try.underlying27 info2 rfl (by decide) (by omega) u13 x13_2 (rd t107 x46_2) [.int .i64 (rd t107 x46_2)] (fun k_ => (w.heap.size ≤ k_) ∧ some k_ ≠ (.slice (some ad118) t107.length co32 : Value).ownBlock ∧ some k_ ≠ (v111 : Value).ownBlock) (fun _ => False) rfl rfl ?aP (fun _ hk => hk.elim) ?aF ?aO ?aB ?aS ?aL ?_; (case aP => exact rfl); (case aB => exact (hbA HB)); (case aF => exact (fun k_ hk => ⟨(Nat.le_trans (below_size (hbA HB)) hk), Kd.fresh' (Kd.R_lt (krA HO_11)) k_ hk, Kd.fresh' (Kd.R_lt (krA HO_12)) k_ hk⟩)); (case aO => exact (krA HO_13)); (case aS => exact (below_size (hbA HB))); (case aL => have := LMc31.out; omega); intro v120 w33 ho hb hg hat; rw [← Ny119.out] at ho; have n0_ := Aside0.mk (Kd.R_after (ok := (fun k_ => (w.heap.size ≤ k_) ∧ some k_ ≠ (v111 : Value).ownBlock)) (by (with_reducible repeat (first | apply Kd.R_alloc | apply Kd.R_drewN | apply Kd.R_drew)); exact Kd.R_mono HO_11.out (fun _ hk => ⟨⟨hk.1, hk.2.1⟩, hk.2.2⟩)) hg hat); have n1_ := Aside0.mk (Kd.R_after (ok := (fun k_ => (w.heap.size ≤ k_) ∧ some k_ ≠ (.slice (some ad118) t107.length co32 : Value).ownBlock)) (by (with_reducible repeat (first | apply Kd.R_alloc | apply Kd.R_drewN | apply Kd.R_drew)); exact Kd.R_mono HO_12.out (fun _ hk => ⟨⟨hk.1, hk.2.1⟩, hk.2.2⟩)) hg hat); have n2_ := Aside0.mk (hb); have n3_ := Aside0.mk (ho); clear HO_11; clear HO_12; clear HB; clear HO_13; have HO_11 := n0_; have HO_12 := n1_; have HB := n2_; have HO121 := n3_; clear n0_ n1_ n2_ n3_; clear ho hb hg hat)))
             go_roundg kj18
             case measure => have := HK1.out; have := HK2.out; have := HJ18.out; omega
             case rel => exact ⟨(y119), (wrap64 (x46_2 + 1)), (by first | rfl | (simp; done) | (simp [*]; done)), H', ⟨by have := HK1.out; have := HK2.out; have := HJ18.out; omega⟩, ⟨by (with_reducible repeat (first | apply Kd.R_alloc | apply Kd.R_drewN | apply Kd.R_drew)); exact Kd.R_mono HO_11.out (fun _ hk => ⟨hk.1.1, ⟨hk.1.2, hk.2⟩⟩)⟩, ⟨by (with_reducible repeat (first | apply Kd.R_alloc | apply Kd.R_drewN | apply Kd.R_drew)); exact Kd.R_mono HO_12.out (fun _ hk => ⟨hk.1.1, ⟨hk.1.2, hk.2⟩⟩)⟩, ⟨krA HO121⟩, ⟨hbA HB⟩⟩
            ·
             rw [if_neg c31] at H
             exact absurd H (by simp)
           ·
            rw [if_neg c30] at H
            exact absurd H (by simp)
          ·
           rw [if_neg c29] at H
           exact absurd H (by simp)
         ·
          replace c28 := Bool.eq_false_iff.mpr c28
          subst c28
          have H1 : (if 0 ≤ x46_2 then (if x46_2 < (t107.length : Int) then (if (rd t107 x46_2) = 1 then (if x46_2 < (t110.length : Int) then (if x13_2.length < 17592186044416 then (shape_Broadcast.l1 kj18 t107 t110 (x13_2 ++ [rd t110 x46_2]) ji13 (wrap64 (x46_2 + 1))) else (none)) else (none)) else (some (([] : List Int), 6))) else (none)) else (none)) = some (r1, r2) := by rw [if_neg (show ¬ (false = true) by decide)] at H; exact H
          clear H
          have H := H1
          clear H1
          by_cases c34 : 0 ≤ x46_2
          ·
           rw [if_pos c34] at H
           have c34b0 : decide (0 ≤ x46_2) = true := decide_eq_true c34
           clear c34
           by_cases c35 : x46_2 < (t107.length : Int)
           ·
            rw [if_pos c35] at H
            have c35b0 : decide (x46_2 < (t107.length : Int)) = true := decide_eq_true c35
            clear c35
            by_cases c36 : (rd t107 x46_2) = 1
            ·
             rw [if_pos c36] at H
             have c36b0 : ((rd t107 x46_2) == 1) = true := beq_iff_eq.mpr c36
             have c36b1 : ((rd t107 x46_2) != 1) = false := bne_eq_false_iff_eq.mpr c36
             clear c36
             by_cases c37 : x46_2 < (t110.length : Int)
             ·
              rw [if_pos c37] at H
              have c37b0 : decide (x46_2 < (t110.length : Int)) = true := decide_eq_true c37
              clear c37
              by_cases c38 : x13_2.length < 17592186044416
              ·
               rw [if_pos c38] at H
               have LMc38 := Aside0.mk c38
               clear c38
               obtain ⟨y124, hy124⟩ : ∃ y_ : List Int, y_ = (x13_2 ++ [rd t110 x46_2]) := ⟨_, rfl⟩
               replace H : (shape_Broadcast.l1 kj18 t107 t110 y124 ji13 (wrap64 (x46_2 + 1))) = some (r1, r2) := by first | (rw [hy124]; with_reducible exact H) | (have H2_ := (Option.bind_some _ _).symm.trans H; rw [hy124]; with_reducible exact H2_) | (have H2_ := (Option.bind_some _ _).symm.trans H; with_reducible exact H2_) | with_reducible exact H | (rw [hy124]; exact H) | exact H
               have Ny124 := Aside0.mk hy124
               clear hy124
               have H' := Aside0.mk H
               clear H
               obtain ⟨Ao39, co39, eo39⟩ := Kd.R_slice HO_11.out
               subst eo39
               have p122 : 0 ≤ (x46_2 : Int) := of_decide_eq_true (by first | (with_reducible assumption) | assumption)
               have q122 : x46_2 < (t107.length : Int) := of_decide_eq_true (by first | (with_reducible assumption) | assumption)
               obtain ⟨ad122, e122, hx122_0⟩ := Kd.at_int (Kd.R_reads' HO_11.out).2.2 x46_2 p122 q122
               cases e122
               replace p122 := eq_true p122
               replace q122 := eq_true q122
               obtain ⟨Ao40, co40, eo40⟩ := Kd.R_slice HO_12.out
               subst eo40
               have p123 : 0 ≤ (x46_2 : Int) := of_decide_eq_true (by first | (with_reducible assumption) | assumption)
               have q123 : x46_2 < (t110.length : Int) := of_decide_eq_true (by first | (with_reducible assumption) | assumption)
               obtain ⟨ad123, e123, hx123_0⟩ := Kd.at_int (Kd.R_reads' HO_12.out).2.2 x46_2 p123 q123
               cases e123
               replace p123 := eq_true p123
               replace q123 := eq_true q123
               go_wp2_with (first | ((with_reducible refine gate_builtin (b := .append) (xs := #[.tmp 79, .tmp 84]) rfl ?_); at_builtin; refine Kd.R_append (Kd.int .i64) (w0 := w) w.heap.size rfl (.tmp 79) (.tmp 84) 27 2 (.int .i64 0) 8 rfl Try.underlying27 info2 rfl (by decide) (by omega) u13 x13_2 (rd t110 x46_2) [.int .i64 (rd t110 x46_2)] (fun k_ => (w.heap.size ≤ k_) ∧ some k_ ≠ (.slice (some ad122) t107.length co39 : Value).ownBlock ∧ some k_ ≠ (.slice (some ad123) t110.length co40 : Value).ownBlock) (fun _ => False) rfl rfl ?aP (fun _ hk => hk.elim) ?aF ?aO ?aB ?aS ?aL ?_; (case aP => exact rfl); (case aB => exact (hbA HB)); (case aF => exact (fun k_ hk => ⟨(Nat.le_trans (below_size (hbA HB)) hk), Kd.fresh' (Kd.R_lt (krA HO_11)) k_ hk, Kd.fresh' (Kd.R_lt (krA HO_12)) k_ hk⟩)); (case aO => exact (krA HO_13)); (case aS => exact (below_size (hbA HB))); (case aL => have := LMc38.out; omega); intro v125 w41 ho hb hg hat; rw [← Ny124.out] at ho; have n0_ := Aside0.mk (Kd.R_after (ok := (fun k_ => (w.heap.size ≤ k_) ∧ some k_ ≠ (.slice (some ad123) t110.length co40 : Value).ownBlock)) (by (with_reducible repeat (first | apply Kd.R_alloc | apply Kd.R_drewN | apply Kd.R_drew)); exact Kd.R_mono HO_11.out (fun _ hk => ⟨⟨hk.1, hk.2.1⟩, hk.2.2⟩)) hg hat); have n1_ := Aside0.mk (Kd.R_after (ok := (fun k_ => (w.heap.size ≤ k_) ∧ some k_ ≠ (.slice (some ad122) t107.length co39 : Value).ownBlock)) (by (with_reducible repeat (first | apply Kd.R_alloc | apply Kd.R_drewN | apply Kd.R_drew)); exact Kd.R_mono HO_12.out (fun _ hk => ⟨⟨hk.1, hk.2.1⟩, hk.2.2⟩)) hg hat); have n2_ := Aside0.mk (hb); have n3_ := Aside0.mk (ho); clear HO_11; clear HO_12; clear HB; clear HO_13; have HO_11 := n0_; have HO_12 := n1_; have HB := n2_; have HO126 := n3_; clear n0_ n1_ n2_ n3_; clear ho hb hg hat))
               repeat (go_quiet (first | ((with_reducible refine gate_builtin (b := .append) (xs := #[.tmp 79, .tmp 84]) rfl ?_); at_builtin; refine Kd.R_append (Kd.int .i64) (w0 := w) w.heap.size rfl (.tmp 79) (.tmp 84) 27 2 (.int .i64 0) 8 rfl Try.underlying27 info2 rfl (by decide) (by omega) u13 x13_2 (rd t110 x46_2) [.int .i64 (rd t110 x46_2)] (fun k_ => (w.heap.size ≤ k_) ∧ some k_ ≠ (.slice (some ad122) t107.length co39 : Value).ownBlock ∧ some k_ ≠ (.slice (some ad123) t110.length co40 : Value).ownBlock) (fun _ => False) rfl rfl ?aP (fun _ hk => hk.elim) ?aF ?aO ?aB ?aS ?aL ?_; (case aP => exact rfl); (case aB => exact (hbA HB)); (case aF => exact (fun k_ hk => ⟨(Nat.le_trans (below_size (hbA HB)) hk), Kd.fresh' (Kd.R_lt (krA HO_11)) k_ hk, Kd.fresh' (Kd.R_lt (krA HO_12)) k_ hk⟩)); (case aO => exact (krA HO_13)); (case aS => exact (below_size (hbA HB))); (case aL => have := LMc38.out; omega); intro v125 w41 ho hb hg hat; rw [← Ny124.out] at ho; have n0_ := Aside0.mk (Kd.R_after (ok := (fun k_ => (w.heap.size ≤ k_) ∧ some k_ ≠ (.slice (some ad123) t110.length co40 : Value).ownBlock)) (by (with_reducible repeat (first | apply Kd.R_alloc | apply Kd.R_drewN | apply Kd.R_drew)); exact Kd.R_mono HO_11.out (fun _ hk => ⟨⟨hk.1, hk.2.1⟩, hk.2.2⟩)) hg hat); have n1_ := Aside0.mk (Kd.R_after (ok := (fun k_ => (w.heap.size ≤ k_) ∧ some k_ ≠ (.slice (some ad122) t107.length co39 : Value).ownBlock)) (by (with_reducible repeat (first | apply Kd.R_alloc | apply Kd.R_drewN | apply Kd.R_drew)); exact Kd.R_mono HO_12.out (fun _ hk => ⟨⟨hk.1, hk.2.1⟩, hk.2.2⟩)) hg hat); have n2_ := Aside0.mk (hb); have n3_ := Aside0.mk (ho); clear HO_11; clear HO_12; clear HB; clear HO_13; have HO_11 := n0_; have HO_12 := n1_; have HB := n2_; have HO126 := n3_; clear n0_ n1_ n2_ n3_; clear ho hb hg hat)); try go_wp2_with (first | ((with_reducible refine gate_builtin (b := .append) (xs := #[.tmp 79, .tmp 84]) rfl ?_); at_builtin; refine Kd.R_append (Kd.int .i64) (w0 := w) w.heap.size rfl (.tmp 79) (.tmp 84) 27 2 (.int .i64 0) 8 rfl Try.underlying27 info2 rfl (by decide) (by omega) u13 x13_2 (rd t110 x46_2) [.int .i64 (rd t110 x46_2)] (fun k_ => (w.heap.size ≤ k_) ∧ some k_ ≠ (.slice (some ad122) t107.length co39 : Value).ownBlock ∧ some k_ ≠ (.slice (some ad123) t110.length co40 : Value).ownBlock) (fun _ => False) rfl rfl ?aP (fun _ hk => hk.elim) ?aF ?aO ?aB ?aS ?aL ?_; (case aP => exact rfl); (case aB => exact (hbA HB)); (case aF => exact (fun k_ hk => ⟨(Nat.le_trans (below_size (hbA HB)) hk), Kd.fresh' (Kd.R_lt (krA HO_11)) k_ hk, Kd.fresh' (Kd.R_lt (krA HO_12)) k_ hk⟩)); (case aO => exact (krA HO_13)); (case aS => exact (below_size (hbA HB))); (case aL => have := LMc38.out; omega); intro v125 w41 ho hb hg hat; rw [← Ny124.out] at ho; have n0_ := Aside0.mk (Kd.R_after (ok := (fun k_ => (w.heap.size ≤ k_) ∧ some k_ ≠ (.slice (some ad123) t110.length co40 : Value).ownBlock)) (by (with_reducible repeat (first | apply Kd.R_alloc | apply Kd.R_drewN | apply Kd.R_drew)); exact Kd.R_mono HO_11.out (fun _ hk => ⟨⟨hk.1, hk.2.1⟩, hk.2.2⟩)) hg hat); have n1_ := Aside0.mk (Kd.R_after (ok := (fun k_ => (w.heap.size ≤ k_) ∧ some k_ ≠ (.slice (some ad122) t107.length co39 : Value).ownBlock)) (by (with_reducible repeat (first | apply Kd.R_alloc | apply Kd.R_drewN | apply Kd.R_drew)); exact Kd.R_mono HO_12.out (fun _ hk => ⟨⟨hk.1, hk.2.1⟩, hk.2.2⟩)) hg hat); have n2_ := Aside0.mk (hb); have n3_ := Aside0.mk (ho); clear HO_11; clear HO_12; clear HB; clear HO_13; have HO_11 := n0_; have HO_12 := n1_; have HB := n2_; have HO126 := n3_; clear n0_ n1_ n2_ n3_; clear ho hb hg hat)))
               go_roundg kj18
               case measure => have := HK1.out; have := HK2.out; have := HJ18.out; omega
               case rel => exact ⟨(y124), (wrap64 (x46_2 + 1)), (by first | rfl | (simp; done) | (simp [*]; done)), H', ⟨by have := HK1.out; have := HK2.out; have := HJ18.out; omega⟩, ⟨by (with_reducible repeat (first | apply Kd.R_alloc | apply Kd.R_drewN | apply Kd.R_drew)); exact Kd.R_mono HO_11.out (fun _ hk => ⟨hk.1.1, ⟨hk.1.2, hk.2⟩⟩)⟩, ⟨by (with_reducible repeat (first | apply Kd.R_alloc | apply Kd.R_drewN | apply Kd.R_drew)); exact Kd.R_mono HO_12.out (fun _ hk => ⟨hk.1.1, ⟨hk.1.2, hk.2⟩⟩)⟩, ⟨krA HO126⟩, ⟨hbA HB⟩⟩
              ·
               rw [if_neg c38] at H
               exact absurd H (by simp)
             ·
              rw [if_neg c37] at H
              exact absurd H (by simp)
            ·
             rw [if_neg c36] at H
             have c36b0 : ((rd t107 x46_2) == 1) = false := beq_eq_false_iff_ne.mpr c36
             have c36b1 : ((rd t107 x46_2) != 1) = true := bne_iff_ne.mpr c36
             simp only [Option.some.injEq, Prod.mk.injEq] at H
             obtain ⟨rfl, rfl⟩ := H
             obtain ⟨Ao42, co42, eo42⟩ := Kd.R_slice HO_11.out
             subst eo42
             have p122 : 0 ≤ (x46_2 : Int) := of_decide_eq_true (by first | (with_reducible assumption) | assumption)
             have q122 : x46_2 < (t107.length : Int) := of_decide_eq_true (by first | (with_reducible assumption) | assumption)
             obtain ⟨ad122, e122, hx122_0⟩ := Kd.at_int (Kd.R_reads' HO_11.out).2.2 x46_2 p122 q122
             cases e122
             replace p122 := eq_true p122
             replace q122 := eq_true q122
             go_wp2
             repeat (go_quiet (fail); try go_wp2)
             go_ret2
             exact ⟨_, by first | rfl | (simp [errW_none, errW_some] <;> rfl) | (simp only [← hji13]; first | rfl | (simp [errW_none, errW_some] <;> rfl)) | (simp [*, errW_none, errW_some] <;> rfl), by first | exact Kd.R_nil _ _ _ _ _ | exact Kd.N_nil _ _ _ _ _ | exact Kd.V_nil _ _ _ _ _ | exact Kd.Q_nil _ _ _ _ _ | exact Kd.S_nil _ _ _ _ _, hbA HB⟩
           ·
            rw [if_neg c35] at H
            exact absurd H (by simp)
          ·
           rw [if_neg c34] at H
           exact absurd H (by simp)
      ·
       rw [if_neg c18] at H
       have c18b0 : decide (x46_2 < ji13) = false := decide_eq_false c18
       clear c18
       replace H := Option.bind_eq_some_iff.mp H
       obtain ⟨⟨t113, t114⟩, A430, H⟩ := H
       replace H : (if t114 = 0 then (some (x13_2, 0)) else (some (([] : List Int), t114))) = some (r1, r2) := H
       have A43 := Aside0.mk A430
       clear A430
       by_cases c44 : t114 = 0
       ·
        rw [if_pos c44] at H
        have c44b0 : (t114 == 0) = true := beq_iff_eq.mpr c44
        have c44b1 : (t114 != 0) = false := bne_eq_false_iff_eq.mpr c44
        clear c44
        simp only [Option.some.injEq, Prod.mk.injEq] at H
        obtain ⟨rfl, rfl⟩ := H
        obtain ⟨Ao45, co45, eo45⟩ := Kd.R_slice HO_13.out
        subst eo45
        go_wp2_with (first | (go_at_call 82; (with_reducible refine (shape_Size_s.calls _ _ x13_2 t113 t114 _ ?side1 ?side2 A43.out).mono ?_); (case side1 => repeat (first | exact (Kd.R_reads' HO_13.out).2.2 | (with_reducible refine Kd.C_alloc ?_ _) | (with_reducible refine Kd.C_drewN ?_ _) | (with_reducible refine Kd.C_drew ?_))); (case side2 => exact (Kd.R_reads' HO_13.out).2.1); rintro e w46 ⟨rfl, hb⟩; have n0_ := Aside0.mk (Kd.R_below (krA HO_11) hb); have n1_ := Aside0.mk (Kd.R_below (krA HO_12) hb); have n2_ := Aside0.mk (Kd.R_below (krA HO_13) hb); have n3_ := Aside0.mk (below_step (hbA HB) hb); clear HO_11; clear HO_12; clear HO_13; clear HB; have HO_11 := n0_; have HO_12 := n1_; have HO_13 := n2_; have HB := n3_; clear n0_ n1_ n2_ n3_; (try clear hb); (try clear hb2); (try clear hk); (try clear hi)))
        repeat (go_quiet (first | (go_at_call 82; (with_reducible refine (shape_Size_s.calls _ _ x13_2 t113 t114 _ ?side1 ?side2 A43.out).mono ?_); (case side1 => repeat (first | exact (Kd.R_reads' HO_13.out).2.2 | (with_reducible refine Kd.C_alloc ?_ _) | (with_reducible refine Kd.C_drewN ?_ _) | (with_reducible refine Kd.C_drew ?_))); (case side2 => exact (Kd.R_reads' HO_13.out).2.1); rintro e w46 ⟨rfl, hb⟩; have n0_ := Aside0.mk (Kd.R_below (krA HO_11) hb); have n1_ := Aside0.mk (Kd.R_below (krA HO_12) hb); have n2_ := Aside0.mk (Kd.R_below (krA HO_13) hb); have n3_ := Aside0.mk (below_step (hbA HB) hb); clear HO_11; clear HO_12; clear HO_13; clear HB; have HO_11 := n0_; have HO_12 := n1_; have HO_13 := n2_; have HB := n3_; clear n0_ n1_ n2_ n3_; (try clear hb); (try clear hb2); (try clear hk); (try clear hi))); try go_wp2_with (first | (go_at_call 82; (with_reducible refine (shape_Size_s.calls _ _ x13_2 t113 t114 _ ?side1 ?side2 A43.out).mono ?_); (case side1 => repeat (first | exact (Kd.R_reads' HO_13.out).2.2 | (with_reducible refine Kd.C_alloc ?_ _) | (with_reducible refine Kd.C_drewN ?_ _) | (with_reducible refine Kd.C_drew ?_))); (case side2 => exact (Kd.R_reads' HO_13.out).2.1); rintro e w46 ⟨rfl, hb⟩; have n0_ := Aside0.mk (Kd.R_below (krA HO_11) hb); have n1_ := Aside0.mk (Kd.R_below (krA HO_12) hb); have n2_ := Aside0.mk (Kd.R_below (krA HO_13) hb); have n3_ := Aside0.mk (below_step (hbA HB) hb); clear HO_11; clear HO_12; clear HO_13; clear HB; have HO_11 := n0_; have HO_12 := n1_; have HO_13 := n2_; have HB := n3_; clear n0_ n1_ n2_ n3_; (try clear hb); (try clear hb2); (try clear hk); (try clear hi))))
        go_ret2
        exact ⟨_, by first | rfl | (simp [errW_none, errW_some] <;> rfl) | (simp only [← hji13]; first | rfl | (simp [errW_none, errW_some] <;> rfl)) | (simp [*, errW_none, errW_some] <;> rfl), by (with_reducible repeat (first | apply Kd.R_alloc | apply Kd.R_drewN | apply Kd.R_drew)); exact Kd.R_mono HO_13.out (fun _ hk => hk.1), hbA HB⟩
       ·
        rw [if_neg c44] at H
        have c44b0 : (t114 == 0) = false := beq_eq_false_iff_ne.mpr c44
        have c44b1 : (t114 != 0) = true := bne_iff_ne.mpr c44
        simp only [Option.some.injEq, Prod.mk.injEq] at H
        obtain ⟨rfl, rfl⟩ := H
        obtain ⟨Ao47, co47, eo47⟩ := Kd.R_slice HO_13.out
        subst eo47
        go_wp2_with (first | (go_at_call 82; (with_reducible refine (shape_Size_s.calls _ _ x13_2 t113 t114 _ ?side1 ?side2 A43.out).mono ?_); (case side1 => repeat (first | exact (Kd.R_reads' HO_13.out).2.2 | (with_reducible refine Kd.C_alloc ?_ _) | (with_reducible refine Kd.C_drewN ?_ _) | (with_reducible refine Kd.C_drew ?_))); (case side2 => exact (Kd.R_reads' HO_13.out).2.1); rintro e w48 ⟨rfl, hb⟩; have n0_ := Aside0.mk (Kd.R_below (krA HO_11) hb); have n1_ := Aside0.mk (Kd.R_below (krA HO_12) hb); have n2_ := Aside0.mk (Kd.R_below (krA HO_13) hb); have n3_ := Aside0.mk (below_step (hbA HB) hb); clear HO_11; clear HO_12; clear HO_13; clear HB; have HO_11 := n0_; have HO_12 := n1_; have HO_13 := n2_; have HB := n3_; clear n0_ n1_ n2_ n3_; (try clear hb); (try clear hb2); (try clear hk); (try clear hi)))
        repeat (go_quiet (first | (go_at_call 82; (with_reducible refine (shape_Size_s.calls _ _ x13_2 t113 t114 _ ?side1 ?side2 A43.out).mono ?_); (case side1 => repeat (first | exact (Kd.R_reads' HO_13.out).2.2 | (with_reducible refine Kd.C_alloc ?_ _) | (with_reducible refine Kd.C_drewN ?_ _) | (with_reducible refine Kd.C_drew ?_))); (case side2 => exact (Kd.R_reads' HO_13.out).2.1); rintro e w48 ⟨rfl, hb⟩; have n0_ := Aside0.mk (Kd.R_below (krA HO_11) hb); have n1_ := Aside0.mk (Kd.R_below (krA HO_12) hb); have n2_ := Aside0.mk (Kd.R_below (krA HO_13) hb); have n3_ := Aside0.mk (below_step (hbA HB) hb); clear HO_11; clear HO_12; clear HO_13; clear HB; have HO_11 := n0_; have HO_12 := n1_; have HO_13 := n2_; have HB := n3_; clear n0_ n1_ n2_ n3_; (try clear hb); (try clear hb2); (try clear hk); (try clear hi))); try go_wp2_with (first | (go_at_call 82; (with_reducible refine (shape_Size_s.calls _ _ x13_2 t113 t114 _ ?side1 ?side2 A43.out).mono ?_); (case side1 => repeat (first | exact (Kd.R_reads' HO_13.out).2.2 | (with_reducible refine Kd.C_alloc ?_ _) | (with_reducible refine Kd.C_drewN ?_ _) | (with_reducible refine Kd.C_drew ?_))); (case side2 => exact (Kd.R_reads' HO_13.out).2.1); rintro e w48 ⟨rfl, hb⟩; have n0_ := Aside0.mk (Kd.R_below (krA HO_11) hb); have n1_ := Aside0.mk (Kd.R_below (krA HO_12) hb); have n2_ := Aside0.mk (Kd.R_below (krA HO_13) hb); have n3_ := Aside0.mk (below_step (hbA HB) hb); clear HO_11; clear HO_12; clear HO_13; clear HB; have HO_11 := n0_; have HO_12 := n1_; have HO_13 := n2_; have HB := n3_; clear n0_ n1_ n2_ n3_; (try clear hb); (try clear hb2); (try clear hk); (try clear hi))))
        go_ret2
        exact ⟨_, by first | rfl | (simp [errW_none, errW_some] <;> rfl) | (simp only [← hji13]; first | rfl | (simp [errW_none, errW_some] <;> rfl)) | (simp [*, errW_none, errW_some] <;> rfl), by first | exact Kd.R_nil _ _ _ _ _ | exact Kd.N_nil _ _ _ _ _ | exact Kd.V_nil _ _ _ _ _ | exact Kd.Q_nil _ _ _ _ _ | exact Kd.S_nil _ _ _ _ _, hbA HB⟩
end Go.Proofs.Ytdemgfbolcmcdaa.X
