import Derived.Test.YtdemgfbolcmcdaaMModelFinds2
import Derived.Test.YtdemgfbolcmcdaaMModelFinds6
import Derived.Test.YtdemgfbolcmcdaaMModelFinds5
import Derived.Test.YtdemgfbolcmcdaaMModelFinds3
import Derived.WalkLawsBesides
import Derived.Shelf.Strings.Builder1
import Derived.Deep.RegionHeld3
namespace Go.Proofs.Ytdemgfbolcmcdaa.X
open Go.RowKit Go.Proofs.YtdemgfbolcmcdaaW.PrintWords Go.Proofs.YtdemgfbolcmcdaaW.PrintLast Go.Proofs.YtdemgfbolcmcdaaW.PrintMore
attribute [local go_sem] max2_int min2_int max_two min_two max_three min_three max_four min_four
set_option linter.unusedVariables false
set_option linter.unusedSimpArgs false
def shape_Broadcast_s.f (l0 l1 : List Int) : Option (List Int × Int) := some (broadS l0 l1)
theorem shapeBroad_l1 (x y : List Int) (n : Nat) (hx : x.length = n) (hy : y.length = n) (hn : n ≤ 8) (d : Nat) : ∀ (k i : Nat) (out : List Int), n - i = d → i ≤ n → 2 * d + 1 ≤ k → out.length = i →
    shape_Broadcast.l1 k x y out (n : Int) i = some (endB ((zipB (x.drop i) (y.drop i)).map (fun l => out ++ l))) := by
  induction d with
  | zero =>
    intro k i out hd hi hk ho
    obtain ⟨k, rfl⟩ : ∃ m, k = m + 1 := ⟨k - 1, by omega⟩
    rw [shape_Broadcast.l1, if_neg (by omega), List.drop_of_length_le (by omega), List.drop_of_length_le (by omega)]
    show (if (sizeS out).2 = 0 then (some (out, (0 : Int))) else (some (([] : List Int), (sizeS out).2))) = some (if (sizeS (out ++ [])).2 = 0 then (out ++ [], 0) else ([], (sizeS (out ++ [])).2))
    rw [List.append_nil]
    split <;> rfl
  | succ d ih =>
    intro k i out hd hi hk ho
    obtain ⟨k, rfl⟩ : ∃ m, k = m + 2 := ⟨k - 2, by omega⟩
    have h0 : i < x.length := by omega
    have h1 : i < y.length := by omega
    have e0 : rd x (i : Int) = x[i] := by simp [rd, List.getD_eq_getElem?_getD, h0]
    have e1 : rd y (i : Int) = y[i] := by simp [rd, List.getD_eq_getElem?_getD, h1]
    have c1 : (i : Int) < (n : Int) := by omega
    have c2 : (0 : Int) ≤ (i : Int) := by omega
    have c3 : (i : Int) < (x.length : Int) := by omega
    have c4 : (i : Int) < (y.length : Int) := by omega
    have c5 : out.length < 17592186044416 := by omega
    have ew : wrap64 ((i : Int) + 1) = ((i + 1 : Nat) : Int) := by rw [wrap64_id (by omega) (by omega)]; omega
    have hj : (if x[i] = y[i] then (shape_Broadcast.j2 (k + 1) x y out i (n : Int) i true) else (shape_Broadcast.j2 (k + 1) x y out i (n : Int) i (y[i] == 1))) = shape_Broadcast.j2 (k + 1) x y out i (n : Int) i (decide (x[i] = y[i] ∨ y[i] = 1)) := by
      by_cases h : x[i] = y[i]
      · rw [if_pos h, decide_eq_true (Or.inl h)]
      · rw [if_neg h]
        by_cases h2 : y[i] = 1
        · rw [decide_eq_true (Or.inr h2), beq_iff_eq.2 h2]
        · rw [decide_eq_false (by omega), beq_eq_false_iff_ne.2 h2]
    rw [shape_Broadcast.l1, if_pos c1, if_pos c2, if_pos c3, if_pos c4, e0, e1, hj, List.drop_eq_getElem_cons h0, List.drop_eq_getElem_cons h1, zipB, shape_Broadcast.j2, e0, e1, ew]
    clear ew hj
    have hm : ∀ (z : Int) (o : Option (List Int)), (o.map (fun l => z :: l)).map (fun l => out ++ l) = o.map (fun l => (out ++ [z]) ++ l) := by
      intro z o
      cases o with
      | none => rfl
      | some l => simp
    by_cases h : x[i] = y[i] ∨ y[i] = 1
    · rw [decide_eq_true h, if_pos rfl, if_pos c2, if_pos c3, if_pos c5, if_pos h, hm]
      exact ih k (i + 1) (out ++ [x[i]]) (by omega) (by omega) (by omega) (by simp [ho])
    · rw [decide_eq_false h, if_neg (by simp), if_pos c2, if_pos c3, if_neg h]
      by_cases h2 : x[i] = 1
      · rw [if_pos h2, if_pos h2, if_pos c4, if_pos c5, hm]
        exact ih k (i + 1) (out ++ [y[i]]) (by omega) (by omega) (by omega) (by simp [ho])
      · rw [if_neg h2, if_neg h2]; rfl
theorem shape_Broadcast_s.ev (l0 l1 : List Int) (r) (h : shape_Broadcast_s.f l0 l1 = some r) : ∃ k, shape_Broadcast.f k l0 l1 = some r := by
  refine ⟨20 + 3, ?_⟩
  rw [← h]
  unfold shape_Broadcast.f shape_Broadcast_s.f broadS
  have w1 : wrap64 (0 + 1) = 1 := wrap64_id (by decide) (by decide)
  have w2 : wrap64 (1 + 1) = 2 := wrap64_id (by decide) (by decide)
  have r1 : rd_L2 [l0, l1] 0 = l0 := rfl
  have r2 : rd_L2 [l0, l1] 1 = l1 := rfl
  rw [Option.bind_some, shape_Broadcast.l0, if_pos (show (0 : Int) < (([l0, l1].length : Nat) : Int) by simp), if_pos (by decide), if_pos (show (0 : Int) < (([l0, l1].length : Nat) : Int) by simp), r1, w1]
  show (if (sizeS l0).2 = 0 then _ else _) = _
  by_cases hA : (sizeS l0).2 = 0
  · rw [if_pos hA, if_pos hA, shape_Broadcast.l0, if_pos (show (1 : Int) < (([l0, l1].length : Nat) : Int) by simp), if_pos (by decide), if_pos (show (1 : Int) < (([l0, l1].length : Nat) : Int) by simp), r2, w2]
    show (if (sizeS l1).2 = 0 then _ else _) = _
    by_cases hB : (sizeS l1).2 = 0
    · rw [if_pos hB, if_pos hB, shape_Broadcast.l0, if_neg (show ¬ ((2 : Int) < (([l0, l1].length : Nat) : Int)) by simp)]
      have a8 := sizeS_len hA
      have b8 := sizeS_len hB
      have em : mx (l0.length : Int) (l1.length : Int) = ((max l0.length l1.length : Nat) : Int) := by unfold mx; split <;> omega
      have e1 : shape_wide_s.f l0 ((max l0.length l1.length : Nat) : Int) = some (wideL l0 (max l0.length l1.length)) := if_pos ⟨by omega, by omega, by omega⟩
      have e2 : shape_wide_s.f l1 ((max l0.length l1.length : Nat) : Int) = some (wideL l1 (max l0.length l1.length)) := if_pos ⟨by omega, by omega, by omega⟩
      rw [em, e1, Option.bind_some, e2, Option.bind_some]
      have hx : (wideL l0 (max l0.length l1.length)).length = max l0.length l1.length := by unfold wideL; rw [List.length_append, List.length_replicate]; omega
      have hy : (wideL l1 (max l0.length l1.length)).length = max l0.length l1.length := by unfold wideL; rw [List.length_append, List.length_replicate]; omega
      have := shapeBroad_l1 _ _ _ hx hy (by omega) _ 20 0 [] rfl (by omega) (by omega) rfl
      refine this.trans ?_
      rw [List.drop_zero, List.drop_zero]
      congr 2
      cases zipB (wideL l0 (max l0.length l1.length)) (wideL l1 (max l0.length l1.length)) <;> rfl
    · rw [if_neg hB, if_neg hB]
  · rw [if_neg hA, if_neg hA]
set_option maxHeartbeats 1000000 in
theorem shape_Broadcast_s.calls (P0_ : Nat → Prop) (A0 : Option Addr) (c0 : Nat) (l0 : List Int) (P1_ : Nat → Prop) (A1 : Option Addr) (c1 : Nat) (l1 : List Int) (r1 : List Int) (r2 : Int) (w : World) (hs0 : Kd.V (Kd.int .i64) 2 w w.heap.size (fun k_ => P0_ k_) (.slice A0 l0.length c0) l0) (hs1 : Kd.V (Kd.int .i64) 2 w w.heap.size (fun k_ => P1_ k_) (.slice A1 l1.length c1) l1) (h : shape_Broadcast_s.f l0 l1 = some (r1, r2)) :
    Calls Try.prog 78 #[.slice A0 l0.length c0, .slice A1 l1.length c1] w fun e w' => ∃ v0_ : Value, e = .returned (.tuple #[v0_, .int .i64 r2]) ∧ Kd.R (Kd.int .i64) 2 w' w.heap.size (fun k_ => (w.heap.size ≤ k_)) v0_ r1 ∧ Below w.heap.size w w' := by
  obtain ⟨k, hk⟩ := shape_Broadcast_s.ev l0 l1 _ h
  exact shape_Broadcast.calls k P0_ A0 c0 l0 P1_ A1 c1 l1 r1 r2 w hs0 hs1 hk
end Go.Proofs.Ytdemgfbolcmcdaa.X
namespace Go.Proofs.Ytdemgfbolcmcdaa.X
open Go.RowKit Go.Proofs.YtdemgfbolcmcdaaW.PrintWords Go.Proofs.YtdemgfbolcmcdaaW.PrintLast Go.Proofs.YtdemgfbolcmcdaaW.PrintMore
attribute [local go_sem] max2_int min2_int max_two min_two max_three min_three max_four min_four
set_option linter.unusedVariables false
set_option linter.unusedSimpArgs false
def agatelaw05_Awake.f  : Option (Bool) := (shape_Broadcast_s.f (([3, 1] : List Int)) (([4] : List Int))).bind fun bt107 => (if bt107.2 = 0 then ((agatelaw03_Ints_s.f bt107.1 (([3, 4] : List Int))).bind fun t114 => (if t114 = true then ((shape_Back_s.f (([3, 1] : List Int)) (([2, 3] : List Int))).bind fun t121 => ((agatelaw03_Ints_s.f t121 (([2, 0] : List Int))).bind fun t127 => (some t127))) else (some false))) else (some false))
attribute [local irreducible] Calls
set_option maxHeartbeats 8000000 in
set_option maxRecDepth 100000 in
theorem agatelaw05_Awake.calls  (r : Bool) (w : World) (h : agatelaw05_Awake.f  = some r) :
  Calls Try.prog 69 #[] w fun e w' => e = .returned (.bool r) ∧ Below w.heap.size w w' := by
 have HB := Aside0.mk (Below.refl w.heap.size w)
 have H : ((shape_Broadcast_s.f (([3, 1] : List Int)) (([4] : List Int))).bind fun bt107 => (if bt107.2 = 0 then ((agatelaw03_Ints_s.f bt107.1 (([3, 4] : List Int))).bind fun t114 => (if t114 = true then ((shape_Back_s.f (([3, 1] : List Int)) (([2, 3] : List Int))).bind fun t121 => ((agatelaw03_Ints_s.f t121 (([2, 0] : List Int))).bind fun t127 => (some t127))) else (some false))) else (some false))) = some r := h
 clear h
 obtain ⟨y101, hy101⟩ : ∃ y_ : List Int, y_ = (([3, 1] : List Int)) := ⟨_, rfl⟩
 replace H : ((shape_Broadcast_s.f y101 (([4] : List Int))).bind fun bt107 => (if bt107.2 = 0 then ((agatelaw03_Ints_s.f bt107.1 (([3, 4] : List Int))).bind fun t114 => (if t114 = true then ((shape_Back_s.f (([3, 1] : List Int)) (([2, 3] : List Int))).bind fun t121 => ((agatelaw03_Ints_s.f t121 (([2, 0] : List Int))).bind fun t127 => (some t127))) else (some false))) else (some false))) = some r := by first | (rw [hy101]; with_reducible exact H) | (have H2_ := (Option.bind_some _ _).symm.trans H; rw [hy101]; with_reducible exact H2_) | (have H2_ := (Option.bind_some _ _).symm.trans H; with_reducible exact H2_) | with_reducible exact H | (rw [hy101]; exact H) | exact H
 have Ny101 := Aside0.mk hy101
 clear hy101
 obtain ⟨y104, hy104⟩ : ∃ y_ : List Int, y_ = (([4] : List Int)) := ⟨_, rfl⟩
 replace H : ((shape_Broadcast_s.f y101 y104).bind fun bt107 => (if bt107.2 = 0 then ((agatelaw03_Ints_s.f bt107.1 (([3, 4] : List Int))).bind fun t114 => (if t114 = true then ((shape_Back_s.f (([3, 1] : List Int)) (([2, 3] : List Int))).bind fun t121 => ((agatelaw03_Ints_s.f t121 (([2, 0] : List Int))).bind fun t127 => (some t127))) else (some false))) else (some false))) = some r := by first | (rw [hy104]; with_reducible exact H) | (have H2_ := (Option.bind_some _ _).symm.trans H; rw [hy104]; with_reducible exact H2_) | (have H2_ := (Option.bind_some _ _).symm.trans H; with_reducible exact H2_) | with_reducible exact H | (rw [hy104]; exact H) | exact H
 have Ny104 := Aside0.mk hy104
 clear hy104
 replace H := Option.bind_eq_some_iff.mp H
 obtain ⟨⟨t107, t110⟩, A10, H⟩ := H
 replace H : (if t110 = 0 then ((agatelaw03_Ints_s.f t107 (([3, 4] : List Int))).bind fun t114 => (if t114 = true then ((shape_Back_s.f (([3, 1] : List Int)) (([2, 3] : List Int))).bind fun t121 => ((agatelaw03_Ints_s.f t121 (([2, 0] : List Int))).bind fun t127 => (some t127))) else (some false))) else (some false)) = some r := H
 have A1 := Aside0.mk A10
 clear A10
 by_cases c2 : t110 = 0
 ·
  rw [if_pos c2] at H
  have c2b0 : (t110 == 0) = true := beq_iff_eq.mpr c2
  have c2b1 : (t110 != 0) = false := bne_eq_false_iff_eq.mpr c2
  clear c2
  obtain ⟨y111, hy111⟩ : ∃ y_ : List Int, y_ = (([3, 4] : List Int)) := ⟨_, rfl⟩
  replace H : ((agatelaw03_Ints_s.f t107 y111).bind fun t114 => (if t114 = true then ((shape_Back_s.f (([3, 1] : List Int)) (([2, 3] : List Int))).bind fun t121 => ((agatelaw03_Ints_s.f t121 (([2, 0] : List Int))).bind fun t127 => (some t127))) else (some false))) = some r := by first | (rw [hy111]; with_reducible exact H) | (have H2_ := (Option.bind_some _ _).symm.trans H; rw [hy111]; with_reducible exact H2_) | (have H2_ := (Option.bind_some _ _).symm.trans H; with_reducible exact H2_) | with_reducible exact H | (rw [hy111]; exact H) | exact H
  have Ny111 := Aside0.mk hy111
  clear hy111
  replace H := Option.bind_eq_some_iff.mp H
  obtain ⟨t114, A30, H⟩ := H
  replace H : (if t114 = true then ((shape_Back_s.f (([3, 1] : List Int)) (([2, 3] : List Int))).bind fun t121 => ((agatelaw03_Ints_s.f t121 (([2, 0] : List Int))).bind fun t127 => (some t127))) else (some false)) = some r := H
  have A3 := Aside0.mk A30
  clear A30
  by_cases c4 : t114 = true
  ·
   subst c4
   have H1 : ((shape_Back_s.f (([3, 1] : List Int)) (([2, 3] : List Int))).bind fun t121 => ((agatelaw03_Ints_s.f t121 (([2, 0] : List Int))).bind fun t127 => (some t127))) = some r := by rw [if_pos rfl] at H; exact H
   clear H
   have H := H1
   clear H1
   obtain ⟨y115, hy115⟩ : ∃ y_ : List Int, y_ = (([3, 1] : List Int)) := ⟨_, rfl⟩
   replace H : ((shape_Back_s.f y115 (([2, 3] : List Int))).bind fun t121 => ((agatelaw03_Ints_s.f t121 (([2, 0] : List Int))).bind fun t127 => (some t127))) = some r := by first | (rw [hy115]; with_reducible exact H) | (have H2_ := (Option.bind_some _ _).symm.trans H; rw [hy115]; with_reducible exact H2_) | (have H2_ := (Option.bind_some _ _).symm.trans H; with_reducible exact H2_) | with_reducible exact H | (rw [hy115]; exact H) | exact H
   have Ny115 := Aside0.mk hy115
   clear hy115
   obtain ⟨y118, hy118⟩ : ∃ y_ : List Int, y_ = (([2, 3] : List Int)) := ⟨_, rfl⟩
   replace H : ((shape_Back_s.f y115 y118).bind fun t121 => ((agatelaw03_Ints_s.f t121 (([2, 0] : List Int))).bind fun t127 => (some t127))) = some r := by first | (rw [hy118]; with_reducible exact H) | (have H2_ := (Option.bind_some _ _).symm.trans H; rw [hy118]; with_reducible exact H2_) | (have H2_ := (Option.bind_some _ _).symm.trans H; with_reducible exact H2_) | with_reducible exact H | (rw [hy118]; exact H) | exact H
   have Ny118 := Aside0.mk hy118
   clear hy118
   replace H := Option.bind_eq_some_iff.mp H
   obtain ⟨t121, A50, H⟩ := H
   replace H : ((agatelaw03_Ints_s.f t121 (([2, 0] : List Int))).bind fun t127 => (some t127)) = some r := H
   have A5 := Aside0.mk A50
   clear A50
   obtain ⟨y124, hy124⟩ : ∃ y_ : List Int, y_ = (([2, 0] : List Int)) := ⟨_, rfl⟩
   replace H : ((agatelaw03_Ints_s.f t121 y124).bind fun t127 => (some t127)) = some r := by first | (rw [hy124]; with_reducible exact H) | (have H2_ := (Option.bind_some _ _).symm.trans H; rw [hy124]; with_reducible exact H2_) | (have H2_ := (Option.bind_some _ _).symm.trans H; with_reducible exact H2_) | with_reducible exact H | (rw [hy124]; exact H) | exact H
   have Ny124 := Aside0.mk hy124
   clear hy124
   replace H := Option.bind_eq_some_iff.mp H
   obtain ⟨t127, A60, H⟩ := H
   replace H : (some t127) = some r := H
   have A6 := Aside0.mk A60
   clear A60
   obtain rfl := Option.some.inj H
   go_enter Try.func69, Try.ntmps69
   go_wp2_with (first | ((with_reducible refine gate_dst (N := 4) rfl ?_); (try (refine gate_guard (by rfl) ?_; dsimp only)); refine Kd.R_lit (Kd.int .i64) _ 2 ?hg (N := 4) ?hd (xs := ([3, 1] : List Int)) (inner := [.int .i64 3, .int .i64 1]) (ok := fun _ => True) (okp := fun _ => True) ?hr ?hp (fun _ hk => hk) trivial (Below.refl _ _) (Nat.le_refl _) (by simp) ?_; (case hd => rfl); (case hg => rfl); (case hr => first | (go_simp; done) | (go_simp; rfl)); (case hp => exact (Reps.one (show Kd.M (Kd.int .i64) _ _ _ 3 [.int .i64 3] from rfl) (Reps.one (show Kd.M (Kd.int .i64) _ _ _ 1 [.int .i64 1] from rfl) (Reps.none _ _)))); intro v102 w7 ho8 hb hg_ hnew_; clear hg_ hnew_; (first | rw [← Ny101.out] at ho8 | (simp only [Int.reduceToNat] at ho8; rw [← Ny101.out] at ho8)); have n0_ := Aside0.mk (Kd.R_lower ho8 (below_size (hbA HB))); have n1_ := Aside0.mk (below_step (hbA HB) hb); clear HB; have HO103 := n0_; have HB := n1_; clear n0_ n1_; clear hb ho8) | ((with_reducible refine gate_dst (N := 5) rfl ?_); (try (refine gate_guard (by rfl) ?_; dsimp only)); refine Kd.R_lit (Kd.int .i64) _ 2 ?hg (N := 5) ?hd (xs := ([4] : List Int)) (inner := [.int .i64 4]) (ok := fun _ => True) (okp := fun _ => True) ?hr ?hp (fun _ hk => hk) trivial (Below.refl _ _) (Nat.le_refl _) (by simp) ?_; (case hd => rfl); (case hg => rfl); (case hr => first | (go_simp; done) | (go_simp; rfl)); (case hp => exact (Reps.one (show Kd.M (Kd.int .i64) _ _ _ 4 [.int .i64 4] from rfl) (Reps.none _ _))); intro v105 w9 ho10 hb hg_ hnew_; clear hg_ hnew_; (first | rw [← Ny104.out] at ho10 | (simp only [Int.reduceToNat] at ho10; rw [← Ny104.out] at ho10)); have n0_ := Aside0.mk (Kd.R_elder' (krA HO103) (Kd.R_base ho10) hb); have n1_ := Aside0.mk (Kd.R_lower (Kd.R_new' ho10 (Kd.R_lt (krA HO103))) (below_size (hbA HB))); have n2_ := Aside0.mk (below_step (hbA HB) hb); clear HO103; clear HB; have HO103 := n0_; have HO106 := n1_; have HB := n2_; clear n0_ n1_ n2_; clear hb ho10; obtain ⟨Ao11, co11, eo11⟩ := Kd.R_slice HO103.out; subst eo11; obtain ⟨Ao12, co12, eo12⟩ := Kd.R_slice HO106.out; subst eo12) | ((with_reducible refine gate_callee (f := 78) rfl ?_); refine goesL_ (some 6) rfl rfl Try.func78 (by kernel_rfl) rfl #[.slice Ao11 y101.length co11, .slice Ao12 y104.length co12] rfl (by (try simp only [List.map_toArray, List.map_cons, List.map_nil]); first | done | rfl | (simp only [List.length_drop, List.length_take]; rfl)) ?_; (with_reducible refine (shape_Broadcast_s.calls (fun k_ => some k_ = (.slice Ao11 y101.length co11 : Value).ownBlock) _ _ y101 (fun k_ => some k_ = (.slice Ao12 y104.length co12 : Value).ownBlock) _ _ y104 t107 t110 _ ?side1 ?side2 A1.out).mono ?_); (case side1 => exact Kd.R_V (Kd.R_tight rfl (HO103.out))); (case side2 => exact Kd.R_V (Kd.R_tight rfl (HO106.out))); rintro e w13 ⟨v108, rfl, ho0, hb⟩; refine ⟨_, rfl, ?_⟩; have n0_ := Aside0.mk (Kd.R_elder' (krA HO103) (Kd.R_base ho0) hb); have n1_ := Aside0.mk (Kd.R_elder' (krA HO106) (Kd.R_base ho0) hb); have n2_ := Aside0.mk (Kd.R_lower (Kd.R_new' (Kd.R_new' (Kd.R_mono (ok' := fun k_ => True) ho0 (fun _ hk_ => trivial)) (Kd.R_lt (krA HO103))) (Kd.R_lt (krA HO106))) (below_size (hbA HB))); have n3_ := Aside0.mk (below_step (hbA HB) hb); clear HO103; clear HO106; clear HB; have HO103 := n0_; have HO106 := n1_; have HO109 := n2_; have HB := n3_; clear n0_ n1_ n2_ n3_; (try clear hb); (try clear hb2); (try clear hk); (try clear hi); (try clear ho0)) | ((with_reducible refine gate_dst (N := 13) rfl ?_); (try (refine gate_guard (by rfl) ?_; dsimp only)); refine Kd.R_lit (Kd.int .i64) _ 2 ?hg (N := 13) ?hd (xs := ([3, 4] : List Int)) (inner := [.int .i64 3, .int .i64 4]) (ok := fun _ => True) (okp := fun _ => True) ?hr ?hp (fun _ hk => hk) trivial (Below.refl _ _) (Nat.le_refl _) (by simp) ?_; (case hd => rfl); (case hg => rfl); (case hr => first | (go_simp; done) | (go_simp; rfl)); (case hp => exact (Reps.one (show Kd.M (Kd.int .i64) _ _ _ 3 [.int .i64 3] from rfl) (Reps.one (show Kd.M (Kd.int .i64) _ _ _ 4 [.int .i64 4] from rfl) (Reps.none _ _)))); intro v112 w14 ho15 hb hg_ hnew_; clear hg_ hnew_; (first | rw [← Ny111.out] at ho15 | (simp only [Int.reduceToNat] at ho15; rw [← Ny111.out] at ho15)); have n0_ := Aside0.mk (Kd.R_elder' (krA HO103) (Kd.R_base ho15) hb); have n1_ := Aside0.mk (Kd.R_elder' (krA HO106) (Kd.R_base ho15) hb); have n2_ := Aside0.mk (Kd.R_elder' (krA HO109) (Kd.R_base ho15) hb); have n3_ := Aside0.mk (Kd.R_lower (Kd.R_new' (Kd.R_new' (Kd.R_new' ho15 (Kd.R_lt (krA HO103))) (Kd.R_lt (krA HO106))) (Kd.R_lt (krA HO109))) (below_size (hbA HB))); have n4_ := Aside0.mk (below_step (hbA HB) hb); clear HO103; clear HO106; clear HO109; clear HB; have HO103 := n0_; have HO106 := n1_; have HO109 := n2_; have HO113 := n3_; have HB := n4_; clear n0_ n1_ n2_ n3_ n4_; clear hb ho15; obtain ⟨Ao16, co16, eo16⟩ := Kd.R_slice HO109.out; subst eo16; obtain ⟨Ao17, co17, eo17⟩ := Kd.R_slice HO113.out; subst eo17) | (go_at_call 15; (with_reducible refine (agatelaw03_Ints_s.calls _ _ t107 _ _ y111 true _ ?side1 ?side2 ?side3 ?side4 A3.out).mono ?_); (case side1 => repeat (first | exact (Kd.R_reads' HO109.out).2.2 | (with_reducible refine Kd.C_alloc ?_ _) | (with_reducible refine Kd.C_drewN ?_ _) | (with_reducible refine Kd.C_drew ?_))); (case side2 => exact (Kd.R_reads' HO109.out).2.1); (case side3 => repeat (first | exact (Kd.R_reads' HO113.out).2.2 | (with_reducible refine Kd.C_alloc ?_ _) | (with_reducible refine Kd.C_drewN ?_ _) | (with_reducible refine Kd.C_drew ?_))); (case side4 => exact (Kd.R_reads' HO113.out).2.1); rintro e w' ⟨rfl, ⟨nd, rfl⟩⟩) | ((with_reducible refine gate_dst (N := 17) rfl ?_); (try (refine gate_guard (by rfl) ?_; dsimp only)); refine Kd.R_lit (Kd.int .i64) _ 2 ?hg (N := 17) ?hd (xs := ([3, 1] : List Int)) (inner := [.int .i64 3, .int .i64 1]) (ok := fun _ => True) (okp := fun _ => True) ?hr ?hp (fun _ hk => hk) trivial (Below.refl _ _) (Nat.le_refl _) (by simp) ?_; (case hd => rfl); (case hg => rfl); (case hr => first | (go_simp; done) | (go_simp; rfl)); (case hp => exact (Reps.one (show Kd.M (Kd.int .i64) _ _ _ 3 [.int .i64 3] from rfl) (Reps.one (show Kd.M (Kd.int .i64) _ _ _ 1 [.int .i64 1] from rfl) (Reps.none _ _)))); intro v116 w18 ho19 hb hg_ hnew_; clear hg_ hnew_; (first | rw [← Ny115.out] at ho19 | (simp only [Int.reduceToNat] at ho19; rw [← Ny115.out] at ho19)); have n0_ := Aside0.mk (Kd.R_elder' (krA HO103) (Kd.R_base ho19) hb); have n1_ := Aside0.mk (Kd.R_elder' (krA HO106) (Kd.R_base ho19) hb); have n2_ := Aside0.mk (Kd.R_elder' (krA HO109) (Kd.R_base ho19) hb); have n3_ := Aside0.mk (Kd.R_elder' (krA HO113) (Kd.R_base ho19) hb); have n4_ := Aside0.mk (Kd.R_lower (Kd.R_new' (Kd.R_new' (Kd.R_new' (Kd.R_new' ho19 (Kd.R_lt (krA HO103))) (Kd.R_lt (krA HO106))) (Kd.R_lt (krA HO109))) (Kd.R_lt (krA HO113))) (below_size (hbA HB))); have n5_ := Aside0.mk (below_step (hbA HB) hb); clear HO103; clear HO106; clear HO109; clear HO113; clear HB; have HO103 := n0_; have HO106 := n1_; have HO109 := n2_; have HO113 := n3_; have HO117 := n4_; have HB := n5_; clear n0_ n1_ n2_ n3_ n4_ n5_; clear hb ho19) | ((with_reducible refine gate_dst (N := 18) rfl ?_); (try (refine gate_guard (by rfl) ?_; dsimp only)); refine Kd.R_lit (Kd.int .i64) _ 2 ?hg (N := 18) ?hd (xs := ([2, 3] : List Int)) (inner := [.int .i64 2, .int .i64 3]) (ok := fun _ => True) (okp := fun _ => True) ?hr ?hp (fun _ hk => hk) trivial (Below.refl _ _) (Nat.le_refl _) (by simp) ?_; (case hd => rfl); (case hg => rfl); (case hr => first | (go_simp; done) | (go_simp; rfl)); (case hp => exact (Reps.one (show Kd.M (Kd.int .i64) _ _ _ 2 [.int .i64 2] from rfl) (Reps.one (show Kd.M (Kd.int .i64) _ _ _ 3 [.int .i64 3] from rfl) (Reps.none _ _)))); intro v119 w20 ho21 hb hg_ hnew_; clear hg_ hnew_; (first | rw [← Ny118.out] at ho21 | (simp only [Int.reduceToNat] at ho21; rw [← Ny118.out] at ho21)); have n0_ := Aside0.mk (Kd.R_elder' (krA HO103) (Kd.R_base ho21) hb); have n1_ := Aside0.mk (Kd.R_elder' (krA HO106) (Kd.R_base ho21) hb); have n2_ := Aside0.mk (Kd.R_elder' (krA HO109) (Kd.R_base ho21) hb); have n3_ := Aside0.mk (Kd.R_elder' (krA HO113) (Kd.R_base ho21) hb); have n4_ := Aside0.mk (Kd.R_elder' (krA HO117) (Kd.R_base ho21) hb); have n5_ := Aside0.mk (Kd.R_lower (Kd.R_new' (Kd.R_new' (Kd.R_new' (Kd.R_new' (Kd.R_new' ho21 (Kd.R_lt (krA HO103))) (Kd.R_lt (krA HO106))) (Kd.R_lt (krA HO109))) (Kd.R_lt (krA HO113))) (Kd.R_lt (krA HO117))) (below_size (hbA HB))); have n6_ := Aside0.mk (below_step (hbA HB) hb); clear HO103; clear HO106; clear HO109; clear HO113; clear HO117; clear HB; have HO103 := n0_; have HO106 := n1_; have HO109 := n2_; have HO113 := n3_; have HO117 := n4_; have HO120 := n5_; have HB := n6_; clear n0_ n1_ n2_ n3_ n4_ n5_ n6_; clear hb ho21; obtain ⟨Ao22, co22, eo22⟩ := Kd.R_slice HO117.out; subst eo22; obtain ⟨Ao23, co23, eo23⟩ := Kd.R_slice HO120.out; subst eo23) | (go_at_call 79; (with_reducible refine (shape_Back_s.calls _ _ y115 _ _ y118 t121 _ ?side1 ?side2 ?side3 ?side4 A5.out).mono ?_); (case side1 => repeat (first | exact (Kd.R_reads' HO117.out).2.2 | (with_reducible refine Kd.C_alloc ?_ _) | (with_reducible refine Kd.C_drewN ?_ _) | (with_reducible refine Kd.C_drew ?_))); (case side2 => exact (Kd.R_reads' HO117.out).2.1); (case side3 => repeat (first | exact (Kd.R_reads' HO120.out).2.2 | (with_reducible refine Kd.C_alloc ?_ _) | (with_reducible refine Kd.C_drewN ?_ _) | (with_reducible refine Kd.C_drew ?_))); (case side4 => exact (Kd.R_reads' HO120.out).2.1); rintro e w24 ⟨v122, rfl, ho0, hb⟩; have n0_ := Aside0.mk (Kd.R_elder' (krA HO103) (Kd.R_base ho0) hb); have n1_ := Aside0.mk (Kd.R_elder' (krA HO106) (Kd.R_base ho0) hb); have n2_ := Aside0.mk (Kd.R_elder' (krA HO109) (Kd.R_base ho0) hb); have n3_ := Aside0.mk (Kd.R_elder' (krA HO113) (Kd.R_base ho0) hb); have n4_ := Aside0.mk (Kd.R_elder' (krA HO117) (Kd.R_base ho0) hb); have n5_ := Aside0.mk (Kd.R_elder' (krA HO120) (Kd.R_base ho0) hb); have n6_ := Aside0.mk (Kd.R_lower (Kd.R_new' (Kd.R_new' (Kd.R_new' (Kd.R_new' (Kd.R_new' (Kd.R_new' ho0 (Kd.R_lt (krA HO103))) (Kd.R_lt (krA HO106))) (Kd.R_lt (krA HO109))) (Kd.R_lt (krA HO113))) (Kd.R_lt (krA HO117))) (Kd.R_lt (krA HO120))) (below_size (hbA HB))); have n7_ := Aside0.mk (below_step (hbA HB) hb); clear HO103; clear HO106; clear HO109; clear HO113; clear HO117; clear HO120; clear HB; have HO103 := n0_; have HO106 := n1_; have HO109 := n2_; have HO113 := n3_; have HO117 := n4_; have HO120 := n5_; have HO123 := n6_; have HB := n7_; clear n0_ n1_ n2_ n3_ n4_ n5_ n6_ n7_; (try clear hb); (try clear hb2); (try clear hk); (try clear hi); (try clear ho0)) | ((with_reducible refine gate_dst (N := 20) rfl ?_); (try (refine gate_guard (by rfl) ?_; dsimp only)); refine Kd.R_lit (Kd.int .i64) _ 2 ?hg (N := 20) ?hd (xs := ([2, 0] : List Int)) (inner := [.int .i64 2, .int .i64 0]) (ok := fun _ => True) (okp := fun _ => True) ?hr ?hp (fun _ hk => hk) trivial (Below.refl _ _) (Nat.le_refl _) (by simp) ?_; (case hd => rfl); (case hg => rfl); (case hr => first | (go_simp; done) | (go_simp; rfl)); (case hp => exact (Reps.one (show Kd.M (Kd.int .i64) _ _ _ 2 [.int .i64 2] from rfl) (Reps.one (show Kd.M (Kd.int .i64) _ _ _ 0 [.int .i64 0] from rfl) (Reps.none _ _)))); intro v125 w25 ho26 hb hg_ hnew_; clear hg_ hnew_; (first | rw [← Ny124.out] at ho26 | (simp only [Int.reduceToNat] at ho26; rw [← Ny124.out] at ho26)); have n0_ := Aside0.mk (Kd.R_elder' (krA HO103) (Kd.R_base ho26) hb); have n1_ := Aside0.mk (Kd.R_elder' (krA HO106) (Kd.R_base ho26) hb); have n2_ := Aside0.mk (Kd.R_elder' (krA HO109) (Kd.R_base ho26) hb); have n3_ := Aside0.mk (Kd.R_elder' (krA HO113) (Kd.R_base ho26) hb); have n4_ := Aside0.mk (Kd.R_elder' (krA HO117) (Kd.R_base ho26) hb); have n5_ := Aside0.mk (Kd.R_elder' (krA HO120) (Kd.R_base ho26) hb); have n6_ := Aside0.mk (Kd.R_elder' (krA HO123) (Kd.R_base ho26) hb); have n7_ := Aside0.mk (Kd.R_lower (Kd.R_new' (Kd.R_new' (Kd.R_new' (Kd.R_new' (Kd.R_new' (Kd.R_new' (Kd.R_new' ho26 (Kd.R_lt (krA HO103))) (Kd.R_lt (krA HO106))) (Kd.R_lt (krA HO109))) (Kd.R_lt (krA HO113))) (Kd.R_lt (krA HO117))) (Kd.R_lt (krA HO120))) (Kd.R_lt (krA HO123))) (below_size (hbA HB))); have n8_ := Aside0.mk (below_step (hbA HB) hb); clear HO103; clear HO106; clear HO109; clear HO113; clear HO117; clear HO120; clear HO123; clear HB; have HO103 := n0_; have HO106 := n1_; have HO109 := n2_; have HO113 := n3_; have HO117 := n4_; have HO120 := n5_; have HO123 := n6_; have HO126 := n7_; have HB := n8_; clear n0_ n1_ n2_ n3_ n4_ n5_ n6_ n7_ n8_; clear hb ho26; obtain ⟨Ao27, co27, eo27⟩ := Kd.R_slice HO123.out; subst eo27; obtain ⟨Ao28, co28, eo28⟩ := Kd.R_slice HO126.out; subst eo28) | (go_at_call 15; (with_reducible refine (agatelaw03_Ints_s.calls _ _ t121 _ _ y124 t127 _ ?side1 ?side2 ?side3 ?side4 A6.out).mono ?_); (case side1 => repeat (first | exact (Kd.R_reads' HO123.out).2.2 | (with_reducible refine Kd.C_alloc ?_ _) | (with_reducible refine Kd.C_drewN ?_ _) | (with_reducible refine Kd.C_drew ?_))); (case side2 => exact (Kd.R_reads' HO123.out).2.1); (case side3 => repeat (first | exact (Kd.R_reads' HO126.out).2.2 | (with_reducible refine Kd.C_alloc ?_ _) | (with_reducible refine Kd.C_drewN ?_ _) | (with_reducible refine Kd.C_drew ?_))); (case side4 => exact (Kd.R_reads' HO126.out).2.1); rintro e w' ⟨rfl, ⟨nd, rfl⟩⟩))
   go_ret
   exact ⟨by first | rfl | (simp [errW_none, errW_some] <;> rfl) | (simp [*, errW_none, errW_some] <;> rfl), hbA HB⟩
  ·
   replace c4 := Bool.eq_false_iff.mpr c4
   subst c4
   have H1 : (some false) = some r := by rw [if_neg (show ¬ (false = true) by decide)] at H; exact H
   clear H
   have H := H1
   clear H1
   obtain rfl := Option.some.inj H
   go_enter Try.func69, Try.ntmps69
   go_wp2_with (first | ((with_reducible refine gate_dst (N := 4) rfl ?_); (try (refine gate_guard (by rfl) ?_; dsimp only)); refine Kd.R_lit (Kd.int .i64) _ 2 ?hg (N := 4) ?hd (xs := ([3, 1] : List Int)) (inner := [.int .i64 3, .int .i64 1]) (ok := fun _ => True) (okp := fun _ => True) ?hr ?hp (fun _ hk => hk) trivial (Below.refl _ _) (Nat.le_refl _) (by simp) ?_; (case hd => rfl); (case hg => rfl); (case hr => first | (go_simp; done) | (go_simp; rfl)); (case hp => exact (Reps.one (show Kd.M (Kd.int .i64) _ _ _ 3 [.int .i64 3] from rfl) (Reps.one (show Kd.M (Kd.int .i64) _ _ _ 1 [.int .i64 1] from rfl) (Reps.none _ _)))); intro v102 w29 ho30 hb hg_ hnew_; clear hg_ hnew_; (first | rw [← Ny101.out] at ho30 | (simp only [Int.reduceToNat] at ho30; rw [← Ny101.out] at ho30)); have n0_ := Aside0.mk (Kd.R_lower ho30 (below_size (hbA HB))); have n1_ := Aside0.mk (below_step (hbA HB) hb); clear HB; have HO103 := n0_; have HB := n1_; clear n0_ n1_; clear hb ho30) | ((with_reducible refine gate_dst (N := 5) rfl ?_); (try (refine gate_guard (by rfl) ?_; dsimp only)); refine Kd.R_lit (Kd.int .i64) _ 2 ?hg (N := 5) ?hd (xs := ([4] : List Int)) (inner := [.int .i64 4]) (ok := fun _ => True) (okp := fun _ => True) ?hr ?hp (fun _ hk => hk) trivial (Below.refl _ _) (Nat.le_refl _) (by simp) ?_; (case hd => rfl); (case hg => rfl); (case hr => first | (go_simp; done) | (go_simp; rfl)); (case hp => exact (Reps.one (show Kd.M (Kd.int .i64) _ _ _ 4 [.int .i64 4] from rfl) (Reps.none _ _))); intro v105 w31 ho32 hb hg_ hnew_; clear hg_ hnew_; (first | rw [← Ny104.out] at ho32 | (simp only [Int.reduceToNat] at ho32; rw [← Ny104.out] at ho32)); have n0_ := Aside0.mk (Kd.R_elder' (krA HO103) (Kd.R_base ho32) hb); have n1_ := Aside0.mk (Kd.R_lower (Kd.R_new' ho32 (Kd.R_lt (krA HO103))) (below_size (hbA HB))); have n2_ := Aside0.mk (below_step (hbA HB) hb); clear HO103; clear HB; have HO103 := n0_; have HO106 := n1_; have HB := n2_; clear n0_ n1_ n2_; clear hb ho32; obtain ⟨Ao33, co33, eo33⟩ := Kd.R_slice HO103.out; subst eo33; obtain ⟨Ao34, co34, eo34⟩ := Kd.R_slice HO106.out; subst eo34) | ((with_reducible refine gate_callee (f := 78) rfl ?_); refine goesL_ (some 6) rfl rfl Try.func78 (by kernel_rfl) rfl #[.slice Ao33 y101.length co33, .slice Ao34 y104.length co34] rfl (by (try simp only [List.map_toArray, List.map_cons, List.map_nil]); first | done | rfl | (simp only [List.length_drop, List.length_take]; rfl)) ?_; (with_reducible refine (shape_Broadcast_s.calls (fun k_ => some k_ = (.slice Ao33 y101.length co33 : Value).ownBlock) _ _ y101 (fun k_ => some k_ = (.slice Ao34 y104.length co34 : Value).ownBlock) _ _ y104 t107 t110 _ ?side1 ?side2 A1.out).mono ?_); (case side1 => exact Kd.R_V (Kd.R_tight rfl (HO103.out))); (case side2 => exact Kd.R_V (Kd.R_tight rfl (HO106.out))); rintro e w35 ⟨v108, rfl, ho0, hb⟩; refine ⟨_, rfl, ?_⟩; have n0_ := Aside0.mk (Kd.R_elder' (krA HO103) (Kd.R_base ho0) hb); have n1_ := Aside0.mk (Kd.R_elder' (krA HO106) (Kd.R_base ho0) hb); have n2_ := Aside0.mk (Kd.R_lower (Kd.R_new' (Kd.R_new' (Kd.R_mono (ok' := fun k_ => True) ho0 (fun _ hk_ => trivial)) (Kd.R_lt (krA HO103))) (Kd.R_lt (krA HO106))) (below_size (hbA HB))); have n3_ := Aside0.mk (below_step (hbA HB) hb); clear HO103; clear HO106; clear HB; have HO103 := n0_; have HO106 := n1_; have HO109 := n2_; have HB := n3_; clear n0_ n1_ n2_ n3_; (try clear hb); (try clear hb2); (try clear hk); (try clear hi); (try clear ho0)) | ((with_reducible refine gate_dst (N := 13) rfl ?_); (try (refine gate_guard (by rfl) ?_; dsimp only)); refine Kd.R_lit (Kd.int .i64) _ 2 ?hg (N := 13) ?hd (xs := ([3, 4] : List Int)) (inner := [.int .i64 3, .int .i64 4]) (ok := fun _ => True) (okp := fun _ => True) ?hr ?hp (fun _ hk => hk) trivial (Below.refl _ _) (Nat.le_refl _) (by simp) ?_; (case hd => rfl); (case hg => rfl); (case hr => first | (go_simp; done) | (go_simp; rfl)); (case hp => exact (Reps.one (show Kd.M (Kd.int .i64) _ _ _ 3 [.int .i64 3] from rfl) (Reps.one (show Kd.M (Kd.int .i64) _ _ _ 4 [.int .i64 4] from rfl) (Reps.none _ _)))); intro v112 w36 ho37 hb hg_ hnew_; clear hg_ hnew_; (first | rw [← Ny111.out] at ho37 | (simp only [Int.reduceToNat] at ho37; rw [← Ny111.out] at ho37)); have n0_ := Aside0.mk (Kd.R_elder' (krA HO103) (Kd.R_base ho37) hb); have n1_ := Aside0.mk (Kd.R_elder' (krA HO106) (Kd.R_base ho37) hb); have n2_ := Aside0.mk (Kd.R_elder' (krA HO109) (Kd.R_base ho37) hb); have n3_ := Aside0.mk (Kd.R_lower (Kd.R_new' (Kd.R_new' (Kd.R_new' ho37 (Kd.R_lt (krA HO103))) (Kd.R_lt (krA HO106))) (Kd.R_lt (krA HO109))) (below_size (hbA HB))); have n4_ := Aside0.mk (below_step (hbA HB) hb); clear HO103; clear HO106; clear HO109; clear HB; have HO103 := n0_; have HO106 := n1_; have HO109 := n2_; have HO113 := n3_; have HB := n4_; clear n0_ n1_ n2_ n3_ n4_; clear hb ho37; obtain ⟨Ao38, co38, eo38⟩ := Kd.R_slice HO109.out; subst eo38; obtain ⟨Ao39, co39, eo39⟩ := Kd.R_slice HO113.out; subst eo39) | (go_at_call 15; (with_reducible refine (agatelaw03_Ints_s.calls _ _ t107 _ _ y111 false _ ?side1 ?side2 ?side3 ?side4 A3.out).mono ?_); (case side1 => repeat (first | exact (Kd.R_reads' HO109.out).2.2 | (with_reducible refine Kd.C_alloc ?_ _) | (with_reducible refine Kd.C_drewN ?_ _) | (with_reducible refine Kd.C_drew ?_))); (case side2 => exact (Kd.R_reads' HO109.out).2.1); (case side3 => repeat (first | exact (Kd.R_reads' HO113.out).2.2 | (with_reducible refine Kd.C_alloc ?_ _) | (with_reducible refine Kd.C_drewN ?_ _) | (with_reducible refine Kd.C_drew ?_))); (case side4 => exact (Kd.R_reads' HO113.out).2.1); rintro e w' ⟨rfl, ⟨nd, rfl⟩⟩))
   go_ret
   exact ⟨by first | rfl | (simp [errW_none, errW_some] <;> rfl) | (simp [*, errW_none, errW_some] <;> rfl), hbA HB⟩
 ·
  rw [if_neg c2] at H
  have c2b0 : (t110 == 0) = false := beq_eq_false_iff_ne.mpr c2
  have c2b1 : (t110 != 0) = true := bne_iff_ne.mpr c2
  obtain rfl := Option.some.inj H
  go_enter Try.func69, Try.ntmps69
  go_wp2_with (first | ((with_reducible refine gate_dst (N := 4) rfl ?_); (try (refine gate_guard (by rfl) ?_; dsimp only)); refine Kd.R_lit (Kd.int .i64) _ 2 ?hg (N := 4) ?hd (xs := ([3, 1] : List Int)) (inner := [.int .i64 3, .int .i64 1]) (ok := fun _ => True) (okp := fun _ => True) ?hr ?hp (fun _ hk => hk) trivial (Below.refl _ _) (Nat.le_refl _) (by simp) ?_; (case hd => rfl); (case hg => rfl); (case hr => first | (go_simp; done) | (go_simp; rfl)); (case hp => exact (Reps.one (show Kd.M (Kd.int .i64) _ _ _ 3 [.int .i64 3] from rfl) (Reps.one (show Kd.M (Kd.int .i64) _ _ _ 1 [.int .i64 1] from rfl) (Reps.none _ _)))); intro v102 w40 ho41 hb hg_ hnew_; clear hg_ hnew_; (first | rw [← Ny101.out] at ho41 | (simp only [Int.reduceToNat] at ho41; rw [← Ny101.out] at ho41)); have n0_ := Aside0.mk (Kd.R_lower ho41 (below_size (hbA HB))); have n1_ := Aside0.mk (below_step (hbA HB) hb); clear HB; have HO103 := n0_; have HB := n1_; clear n0_ n1_; clear hb ho41) | ((with_reducible refine gate_dst (N := 5) rfl ?_); (try (refine gate_guard (by rfl) ?_; dsimp only)); refine Kd.R_lit (Kd.int .i64) _ 2 ?hg (N := 5) ?hd (xs := ([4] : List Int)) (inner := [.int .i64 4]) (ok := fun _ => True) (okp := fun _ => True) ?hr ?hp (fun _ hk => hk) trivial (Below.refl _ _) (Nat.le_refl _) (by simp) ?_; (case hd => rfl); (case hg => rfl); (case hr => first | (go_simp; done) | (go_simp; rfl)); (case hp => exact (Reps.one (show Kd.M (Kd.int .i64) _ _ _ 4 [.int .i64 4] from rfl) (Reps.none _ _))); intro v105 w42 ho43 hb hg_ hnew_; clear hg_ hnew_; (first | rw [← Ny104.out] at ho43 | (simp only [Int.reduceToNat] at ho43; rw [← Ny104.out] at ho43)); have n0_ := Aside0.mk (Kd.R_elder' (krA HO103) (Kd.R_base ho43) hb); have n1_ := Aside0.mk (Kd.R_lower (Kd.R_new' ho43 (Kd.R_lt (krA HO103))) (below_size (hbA HB))); have n2_ := Aside0.mk (below_step (hbA HB) hb); clear HO103; clear HB; have HO103 := n0_; have HO106 := n1_; have HB := n2_; clear n0_ n1_ n2_; clear hb ho43; obtain ⟨Ao44, co44, eo44⟩ := Kd.R_slice HO103.out; subst eo44; obtain ⟨Ao45, co45, eo45⟩ := Kd.R_slice HO106.out; subst eo45) | ((with_reducible refine gate_callee (f := 78) rfl ?_); refine goesL_ (some 6) rfl rfl Try.func78 (by kernel_rfl) rfl #[.slice Ao44 y101.length co44, .slice Ao45 y104.length co45] rfl (by (try simp only [List.map_toArray, List.map_cons, List.map_nil]); first | done | rfl | (simp only [List.length_drop, List.length_take]; rfl)) ?_; (with_reducible refine (shape_Broadcast_s.calls (fun k_ => some k_ = (.slice Ao44 y101.length co44 : Value).ownBlock) _ _ y101 (fun k_ => some k_ = (.slice Ao45 y104.length co45 : Value).ownBlock) _ _ y104 t107 t110 _ ?side1 ?side2 A1.out).mono ?_); (case side1 => exact Kd.R_V (Kd.R_tight rfl (HO103.out))); (case side2 => exact Kd.R_V (Kd.R_tight rfl (HO106.out))); rintro e w46 ⟨v108, rfl, ho0, hb⟩; refine ⟨_, rfl, ?_⟩; have n0_ := Aside0.mk (Kd.R_elder' (krA HO103) (Kd.R_base ho0) hb); have n1_ := Aside0.mk (Kd.R_elder' (krA HO106) (Kd.R_base ho0) hb); have n2_ := Aside0.mk (Kd.R_lower (Kd.R_new' (Kd.R_new' (Kd.R_mono (ok' := fun k_ => True) ho0 (fun _ hk_ => trivial)) (Kd.R_lt (krA HO103))) (Kd.R_lt (krA HO106))) (below_size (hbA HB))); have n3_ := Aside0.mk (below_step (hbA HB) hb); clear HO103; clear HO106; clear HB; have HO103 := n0_; have HO106 := n1_; have HO109 := n2_; have HB := n3_; clear n0_ n1_ n2_ n3_; (try clear hb); (try clear hb2); (try clear hk); (try clear hi); (try clear ho0)))
  go_ret
  exact ⟨by first | rfl | (simp [errW_none, errW_some] <;> rfl) | (simp [*, errW_none, errW_some] <;> rfl), hbA HB⟩
end Go.Proofs.Ytdemgfbolcmcdaa.X
namespace Go.Proofs.Ytdemgfbolcmcdaa.X
open Go.RowKit Go.Proofs.YtdemgfbolcmcdaaW.PrintWords Go.Proofs.YtdemgfbolcmcdaaW.PrintLast Go.Proofs.YtdemgfbolcmcdaaW.PrintMore
attribute [local go_sem] max2_int min2_int max_two min_two max_three min_three max_four min_four
set_option linter.unusedVariables false
set_option linter.unusedSimpArgs false
def agatelaw05_Awake_s.f : Option Bool := some true
theorem agatelaw05_Awake_s.ev (r) (h : agatelaw05_Awake_s.f = some r) : ∃ k : Nat, agatelaw05_Awake.f = some r := by
  refine ⟨0, ?_⟩
  rw [← h]
  decide
set_option maxHeartbeats 1000000 in
theorem agatelaw05_Awake_s.calls  (r : Bool) (w : World) (h : agatelaw05_Awake_s.f  = some r) :
    Calls Try.prog 69 #[] w fun e w' => e = .returned (.bool r) ∧ Below w.heap.size w w' := by
  obtain ⟨k, hk⟩ := agatelaw05_Awake_s.ev  _ h
  exact agatelaw05_Awake.calls r w hk
end Go.Proofs.Ytdemgfbolcmcdaa.X
namespace Go.Proofs.Ytdemgfbolcmcdaa.X
open Go.RowKit Go.Proofs.YtdemgfbolcmcdaaW.PrintWords Go.Proofs.YtdemgfbolcmcdaaW.PrintLast Go.Proofs.YtdemgfbolcmcdaaW.PrintMore
attribute [local go_sem] max2_int min2_int max_two min_two max_three min_three max_four min_four
set_option linter.unusedVariables false
set_option linter.unusedSimpArgs false
def slices_Clone_int64.f (l0 : List Int) : Option (List Int) := if l0.length < 17592186044416 then some l0 else none
set_option maxHeartbeats 8000000 in
set_option maxRecDepth 100000 in
theorem slices_Clone_int64.calls (A0 : Option Addr) (c0 : Nat) (l0 : List Int) (r : List Int) (w : World) (hr0 : Kd.C (Kd.int .i64) w A0 l0.length l0) (hc0 : l0.length ≤ c0) (h : slices_Clone_int64.f l0 = some r) :
    Calls Try.prog 38 #[.slice A0 l0.length c0] w fun e w' => ∃ v0_ : Value, e = .returned (v0_) ∧ Kd.R (Kd.int .i64) 2 w' w.heap.size (fun k_ => w.heap.size ≤ k_) v0_ r ∧ Below w.heap.size w w' := by
  unfold slices_Clone_int64.f at h
  by_cases hl : l0.length < 17592186044416
  · rw [if_pos hl] at h
    obtain rfl := Option.some.inj h
    have LM := Aside0.mk hl
    have HR0 := Aside0.mk hr0
    have HB := Aside0.mk (Below.refl w.heap.size w)
    have q0 : ∀ w, (binOp .eql 27 (.slice A0 l0.length c0) (.slice none 0 0)).run Try.prog w = .ok (.bool A0.isNone) w := fun w => Lib.run_eql_slice_nil w 27 2 A0 l0.length c0 0 0 Try.underlying27
    clear h hl hr0
    cases A0 with
    | none =>
      have hn : l0 = [] := by
        rcases Nat.eq_zero_or_pos l0.length with h0 | h0
        · exact List.eq_nil_of_length_eq_zero h0
        · exfalso
          obtain ⟨ad, h1, _⟩ := (Kd.reads_of_C (enc := Value.int .i64) (d := (0 : Int)) (h1 := fun _ => rfl) HR0.out).2.2 h0
          cases h1
      have Hn := Aside0.mk hn
      clear hn
      have q1 : ∀ w, (binOp .eql 27 (.slice none l0.length c0) (.slice none 0 0)).run Try.prog w = .ok (.bool true) w := fun w => q0 w
      clear q0
      go_enter Try.func38, Try.ntmps38
      go_wp2
      go_ret
      exact ⟨_, rfl, by rw [Hn.out]; exact Kd.R_nil _ _ _ _ _, Below.refl _ _⟩
    | some ad =>
      have q1 : ∀ w, (binOp .eql 27 (.slice (some ad) l0.length c0) (.slice none 0 0)).run Try.prog w = .ok (.bool false) w := fun w => q0 w
      clear q0
      go_enter Try.func38, Try.ntmps38
      go_wp2_with (first | ((with_reducible refine gate_dst (N := 5) rfl ?_); refine Kd.R_lit (Kd.int .i64) _ 2 ?hg (N := 5) ?hd (xs := ([] : List Int)) (inner := []) (ok := fun k_ => w.heap.size ≤ k_) (okp := fun k_ => w.heap.size ≤ k_) ?hr ?hp (fun _ hk => hk) (Nat.le_refl _) (Below.refl _ _) (Nat.le_refl _) (by simp) ?_; (case hd => rfl); (case hg => rfl); (case hr => first | (go_simp; done) | (go_simp; rfl)); (case hp => exact (Reps.none _ _)); intro v102 w7 ho8 hb hg_ hnew_; clear hg_ hnew_; have n0_ := Aside0.mk (Kd.R_lower ho8 (below_size HB.out)); have n1_ := Aside0.mk (below_step HB.out hb); clear HB; have HO103 := n0_; have HB := n1_; clear n0_ n1_; clear hb ho8) | ((with_reducible refine gate_builtin (b := .append) (xs := #[.tmp 5, .tmp 6]) rfl ?_); at_builtin; refine Kd.R_append_rows (Kd.int .i64) (w0 := w) w.heap.size rfl (.tmp 5) (.tmp 6) 27 2 (.int .i64 0) 8 rfl Try.underlying27 info2 rfl (by decide) (by omega) v102 [] l0 _ _ _ (fun k_ => w.heap.size ≤ k_) (fun _ => False) rfl rfl ?aO ?aR (fun _ _ h => h) (fun _ h => h.elim) ?aF ?aB ?aS ?aL ?_; (case aR => exact (Kd.C_below HR0.out HB.out)); (case aB => exact HB.out); (case aF => exact (fun _ h => Nat.le_trans (below_size HB.out) h)); (case aO => exact HO103.out); (case aS => exact (below_size HB.out)); (case aL => have := LM.out; simp; omega); intro v106 w10 ho hb hg hat; have n0_ := Aside0.mk (hb); have n1_ := Aside0.mk (ho); clear HB; clear HO103; have HB := n0_; have HO107 := n1_; clear n0_ n1_; clear ho hb hg hat))
      go_ret
      exact ⟨_, rfl, HO107.out, HB.out⟩
  · rw [if_neg hl] at h; cases h
end Go.Proofs.Ytdemgfbolcmcdaa.X
namespace Go.Proofs.Ytdemgfbolcmcdaa.X
open Go.RowKit Go.Proofs.YtdemgfbolcmcdaaW.PrintWords Go.Proofs.YtdemgfbolcmcdaaW.PrintLast Go.Proofs.YtdemgfbolcmcdaaW.PrintMore
attribute [local go_sem] max2_int min2_int max_two min_two max_three min_three max_four min_four
set_option linter.unusedVariables false
set_option linter.unusedSimpArgs false
def Sh.lays166_ren : Go.Shelf.Ren := ⟨fun | 166 => 85 | 240 => 91 | 276 => 96 | n => n, fun | 0 => 0 | 3 => 3 | 4 => 4 | 5 => 5 | 9 => 9 | 20 => 20 | 37 => 149 | 70 => 148 | 72 => 151 | 75 => 153 | 80 => 137 | 164 => 176 | n => n, fun | n => n⟩
theorem Sh.lays166 : Go.Proofs.Lays.n166 Try.prog Sh.lays166_ren := {
  mixed := by kernel_rfl
  f166 := Try.func85.trans (congrArg some (by kernel_rfl))
  f240 := Try.func91.trans (congrArg some (by kernel_rfl))
  f276 := Try.func96.trans (congrArg some (by kernel_rfl))
  t0 := Try.underlying0
  a0 := Try.isAgg0
  z0 := Try.sizeOf0
  v0 := Try.zeroValue0
  t3 := Try.underlying3
  a3 := Try.isAgg3
  z3 := Try.sizeOf3
  v3 := Try.zeroValue3
  t4 := Try.underlying4
  a4 := Try.isAgg4
  z4 := Try.sizeOf4
  v4 := Try.zeroValue4
  t9 := Try.underlying9
  a9 := Try.isAgg9
  z9 := Try.sizeOf9
  v9 := Try.zeroValue9
  t20 := Try.underlying20
  a20 := Try.isAgg20
  z20 := Try.sizeOf20
  v20 := Try.zeroValue20
  t37 := Try.underlying149
  a37 := Try.isAgg149
  z37 := Try.sizeOf149
  v37 := Try.zeroValue149
  t70 := Try.underlying148
  a70 := Try.isAgg148
  z70 := Try.sizeOf148
  v70 := Try.zeroValue148
  t72 := Try.underlying151
  a72 := Try.isAgg151
  z72 := Try.sizeOf151
  v72 := Try.zeroValue151
  t75 := Try.underlying153
  a75 := Try.isAgg153
  z75 := Try.sizeOf153
  v75 := Try.zeroValue153
  t164 := Try.underlying176
  a164 := Try.isAgg176
  z164 := Try.sizeOf176
  v164 := Try.zeroValue176 }
theorem Sh.Builder_Extra_166 : Go.Proofs.Builder.Extra Try.prog Sh.lays166_ren := {
  sizeBuilder := by kernel_rfl
  liesBuilder := by kernel_rfl
  t5 := Try.underlying5
  a5 := Try.isAgg5
  z5 := Try.sizeOf5
  v5 := Try.zeroValue5
  infoByte := by kernel_rfl
  cellsByte := by kernel_rfl
  sizeByte := by kernel_rfl
  neB5 := by decide }
theorem Sh.WriteString (B b : Nat) (bs : List Value) (s : ByteArray) (w : World) (h : Lib.IsBuilder 151 5 B b bs w) (hlen : bs.length + s.size ≤ 140737488355328) (hBw : B ≤ w.heap.size) :
    Calls Try.prog 85 #[.pointer (some ⟨b, 0, none⟩), .string s] w fun e w' => e = .returned (.tuple #[.int .i64 s.size, .nilIface]) ∧ (Lib.BuilderAt 151 5 B b (.pointer (some ⟨b, 0, none⟩)) (bs ++ Lib.strCells s) w' ∧ Below B w w') :=
  Go.Proofs.Any.Builder_WriteString Sh.lays166 Sh.Builder_Extra_166 B b bs s w h hlen hBw
theorem builderAt_below {T e : TypeId} {B b : Nat} {p : Value} {bs : List Value} {w w1 : World} (h : Lib.BuilderAt T e B b p bs w) (hb : Below w.heap.size w w1) : Lib.BuilderAt T e B b p bs w1 := by
  have hlt := h.lt
  obtain ⟨hB, v, hbk, hown, hne⟩ := h
  exact ⟨hB, v, (hb.block b hlt).trans hbk, own_move hown (fun k hk => hb.block k (own_lt hown k hk)), hne⟩
theorem isBuilder_below {T e : TypeId} {B b : Nat} {bs : List Value} {w w1 : World} (h : Lib.IsBuilder T e B b bs w) (hb : Below w.heap.size w w1) : Lib.IsBuilder T e B b bs w1 := by
  rcases h with h | h
  · exact .inl (builderAt_below h hb)
  · exact .inr (builderAt_below h hb)
theorem byteCells_append (a b : ByteArray) : Lib.byteCells a.data.toList ++ Lib.strCells b = Lib.byteCells (a ++ b).data.toList := by
  simp [Lib.byteCells, Lib.strCells, ByteArray.data_append]
end Go.Proofs.Ytdemgfbolcmcdaa.X
namespace Go.Proofs.Ytdemgfbolcmcdaa.X
open Go.RowKit Go.Proofs.YtdemgfbolcmcdaaW.PrintWords Go.Proofs.YtdemgfbolcmcdaaW.PrintLast Go.Proofs.YtdemgfbolcmcdaaW.PrintMore
attribute [local go_sem] max2_int min2_int max_two min_two max_three min_three max_four min_four
set_option linter.unusedVariables false
set_option linter.unusedSimpArgs false
theorem builder_lies {B b : Nat} {l : List UInt8} {w : World} (h : Lib.IsBuilder 151 5 B b (Lib.byteCells l) w) (h0 : l ≠ []) :
    ∃ p g cap cur, B ≤ g ∧ g < w.heap.size ∧ b < w.heap.size ∧ w.heap[b]? = some (.cells #[p, .slice (some ⟨g, 0, none⟩) l.length cap] 151 (0, 0)) ∧ w.heap[g]? = some (.cells cur 5 (0, 0)) ∧ l.length ≤ cap ∧ cap ≤ maxLen ∧ cur.size = cap ∧ cur.toList.take l.length = Lib.byteCells l := by
  obtain ⟨p, hB, v, hbk, hown, hne⟩ : ∃ p, Lib.BuilderAt 151 5 B b p (Lib.byteCells l) w := by
    rcases h with h | h
    · exact ⟨_, h⟩
    · exact ⟨_, h⟩
  have hl0 : l.length ≠ 0 := by simpa using h0
  rw [Lib.byteCells_length] at hown
  rcases hown.2 with ⟨_, hz⟩ | ⟨g, cap, cur, rfl, hbg, hg, hnc, hcm, hcs, ht⟩
  · exact absurd hz hl0
  · rw [Nat.mul_one] at hcs ht
    exact ⟨p, g, cap, cur, hbg, blk_lt hg, blk_lt hbk, hbk, hg, hnc, hcm, hcs, ht⟩
theorem byte_cell {l : List UInt8} {cur : Array Value} {w : World} {g : Nat} (hg : w.heap[g]? = some (.cells cur 5 (0, 0))) (ht : cur.toList.take l.length = Lib.byteCells l) : ∀ j x, l[j]? = some x → w.cell? ((⟨g, 0, none⟩ : Addr).add j) = some (.int .u8 x.toNat) := by
  intro j x hx
  have hj : j < l.length := (List.getElem?_eq_some_iff.1 hx).1
  have h1 : (Lib.byteCells l)[j]? = some (.int .u8 x.toNat) := by simp [Lib.byteCells, hx]
  rw [← ht, List.getElem?_take] at h1
  rw [if_pos hj, Array.getElem?_toList] at h1
  have h2 : w.cell? ⟨g, j, none⟩ = cur[j]? := blk_cell hg j
  rw [← h1, ← h2]
  unfold Addr.add
  split
  · rename_i h0; subst h0; rfl
  · simp
theorem freeze_kept (w : World) (g n : Nat) : Kept w (w.drew.freeze ⟨g, 0, none⟩ n) (fun k => k = g) := by
  unfold World.freeze
  split
  · exact ⟨Nat.le_refl _, fun _ _ _ => rfl⟩
  · refine ⟨by show w.heap.size ≤ (w.heap.modify _ _).size; rw [Array.size_modify]; exact Nat.le_refl _, fun i hi hne => ?_⟩
    show (w.heap.modify g _)[i]? = _
    rw [Array.getElem?_modify]
    rw [if_neg (fun e => hne e.symm)]
set_option maxHeartbeats 4000000 in
set_option maxRecDepth 100000 in
theorem sh_String.calls (b g cap : Nat) (p : Value) (cur : Array Value) (l : List UInt8) (w : World) (h0 : l ≠ []) (hb : w.heap[b]? = some (.cells #[p, .slice (some ⟨g, 0, none⟩) l.length cap] 151 (0, 0))) (hg : w.heap[g]? = some (.cells cur 5 (0, 0))) (hnc : l.length ≤ cap) (hcm : cap ≤ maxLen) (hcs : cur.size = cap) (ht : cur.toList.take l.length = Lib.byteCells l) :
    Calls Try.prog 86 #[.pointer (some ⟨b, 0, none⟩)] w fun e w' => e = .returned (.string ⟨l.toArray⟩) ∧ w' = w.drew.freeze ⟨g, 0, none⟩ l.length := by
  have hl0 : l.length ≠ 0 := by simpa using h0
  have c1 : w.drew.cell? ⟨b, 1, none⟩ = some (.slice (some ⟨g, 0, none⟩) l.length cap) := (blk_cell (w := w.drew) hb 1).trans rfl
  have q1 : (Builtin.unsafeSliceData_ #[149] 167 #[.slice (some ⟨g, 0, none⟩) l.length cap]).run Try.prog w.drew = .ok (.pointer (some ⟨g, 0, none⟩)) w.drew :=
    Lib.run_unsafeSliceData_row _ _ _ _ _ _ (by omega)
  have q2 : (Builtin.unsafeString_ #[167, 3] 9 #[.pointer (some ⟨g, 0, none⟩), .int .i64 l.length]).run Try.prog w.drew = .ok (.string ⟨l.toArray⟩) (w.drew.freeze ⟨g, 0, none⟩ l.length) :=
    Lib.run_unsafeString_row w.drew 167 3 9 5 Try.underlying167 (by kernel_rfl) g cur.size (by have hg' : w.drew.heap[g]? = some (.cells cur 5 (0, 0)) := hg; simp [World.shape?, hg']) l h0 (by omega) (by unfold maxLen at hcm; omega) (byte_cell (w := w.drew) hg ht)
  have hne : b ≠ g := blk_ne hb hg (by decide)
  have q3 : (w.drew.freeze ⟨g, 0, none⟩ l.length).cell? ⟨b, 1, none⟩ = some (.slice (some ⟨g, 0, none⟩) l.length cap) := (blk_cell (((freeze_kept w g l.length).2 b (blk_lt hb) hne).trans hb) 1).trans rfl
  clear hb hg hcs ht hnc hcm hne
  go_enter Try.func86, Try.ntmps86
  go_wp2
  go_region_held3 (fun w' => w'.cell? ⟨b, 1, none⟩ = some (.slice (some ⟨g, 0, none⟩) l.length cap)) (go_keep) (first | (fail))
  all_goals (go_wp2; go_ret; exact ⟨rfl, rfl⟩)
end Go.Proofs.Ytdemgfbolcmcdaa.X
