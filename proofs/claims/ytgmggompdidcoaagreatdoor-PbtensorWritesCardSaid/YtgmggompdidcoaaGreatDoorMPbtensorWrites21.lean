import Derived.Test.YtgmggompdidcoaaGreatDoorMPbtensorWrites2
import Derived.Test.YtgmggompdidcoaaGreatDoorMPbtensorWrites20
import Derived.Test.YtgmggompdidcoaaGreatDoorMPbtensorWrites8
import Derived.Test.YtgmggompdidcoaaGreatDoorMPbtensorWrites3
import Derived.Test.YtgmggompdidcoaaGreatDoorMPbtensorWrites15
import Derived.Test.YtgmggompdidcoaaGreatDoorMPbtensorWrites4
import Derived.Test.YtgmggompdidcoaaGreatDoorMPbtensorWrites11
namespace Go.Proofs.YtgmggompdidcoaaGreatDoor.X
open Go.RowKit Go.Proofs.YtgmggompdidcoaaGreatDoorW.PrintWords Go.Proofs.YtgmggompdidcoaaGreatDoorW.PrintLast Go.Proofs.YtgmggompdidcoaaGreatDoorW.PrintMore
attribute [local go_sem] max2_int min2_int max_two min_two max_three min_three max_four min_four
set_option linter.unusedVariables false
set_option linter.unusedSimpArgs false
def shape_Broadcast_s.f (l0 l1 : List Int) : Option (List Int × Int) := some (broadS l0 l1)
theorem shapeBroad_l1 (x y : List Int) (n : Nat) (hx : x.length = n) (hy : y.length = n) (hn : n ≤ 8) (d : Nat) : ∀ (k i : Nat) (out : List Int), n - i = d → i ≤ n → 2 * d + 1 ≤ k → out.length = i →
    shape_Broadcast.l1 k x y out (n : Int) i = some (endB ((zipB (x.drop i) (y.drop i)).map (fun l => out ++ l))) := by
  induction d with
  | zero =>
    intro k i out hd hi hk ho
    obtain ⟨k, rfl⟩ : ∃ m, k = m + 1 := ⟨k - 1, by omega⟩
    rw [shape_Broadcast.l1, if_neg (by omega), List.drop_of_length_le (by omega), List.drop_of_length_le (by omega)]
    show (if (sizeS out).2 = 0 then (some (out, (0 : Int))) else (some (([] : List Int), (sizeS out).2))) = some (if (sizeS (out ++ [])).2 = 0 then (out ++ [], 0) else ([], (sizeS (out ++ [])).2))
    rw [List.append_nil]
    split <;> rfl
  | succ d ih =>
    intro k i out hd hi hk ho
    obtain ⟨k, rfl⟩ : ∃ m, k = m + 2 := ⟨k - 2, by omega⟩
    have h0 : i < x.length := by omega
    have h1 : i < y.length := by omega
    have e0 : rd x (i : Int) = x[i] := by simp [rd, List.getD_eq_getElem?_getD, h0]
    have e1 : rd y (i : Int) = y[i] := by simp [rd, List.getD_eq_getElem?_getD, h1]
    have c1 : (i : Int) < (n : Int) := by omega
    have c2 : (0 : Int) ≤ (i : Int) := by omega
    have c3 : (i : Int) < (x.length : Int) := by omega
    have c4 : (i : Int) < (y.length : Int) := by omega
    have c5 : out.length < 17592186044416 := by omega
    have ew : wrap64 ((i : Int) + 1) = ((i + 1 : Nat) : Int) := by rw [wrap64_id (by omega) (by omega)]; omega
    have hj : (if x[i] = y[i] then (shape_Broadcast.j2 (k + 1) x y out i (n : Int) i true) else (shape_Broadcast.j2 (k + 1) x y out i (n : Int) i (y[i] == 1))) = shape_Broadcast.j2 (k + 1) x y out i (n : Int) i (decide (x[i] = y[i] ∨ y[i] = 1)) := by
      by_cases h : x[i] = y[i]
      · rw [if_pos h, decide_eq_true (Or.inl h)]
      · rw [if_neg h]
        by_cases h2 : y[i] = 1
        · rw [decide_eq_true (Or.inr h2), beq_iff_eq.2 h2]
        · rw [decide_eq_false (by omega), beq_eq_false_iff_ne.2 h2]
    rw [shape_Broadcast.l1, if_pos c1, if_pos c2, if_pos c3, if_pos c4, e0, e1, hj, List.drop_eq_getElem_cons h0, List.drop_eq_getElem_cons h1, zipB, shape_Broadcast.j2, e0, e1, ew]
    clear ew hj
    have hm : ∀ (z : Int) (o : Option (List Int)), (o.map (fun l => z :: l)).map (fun l => out ++ l) = o.map (fun l => (out ++ [z]) ++ l) := by
      intro z o
      cases o with
      | none => rfl
      | some l => simp
    by_cases h : x[i] = y[i] ∨ y[i] = 1
    · rw [decide_eq_true h, if_pos rfl, if_pos c2, if_pos c3, if_pos c5, if_pos h, hm]
      exact ih k (i + 1) (out ++ [x[i]]) (by omega) (by omega) (by omega) (by simp [ho])
    · rw [decide_eq_false h, if_neg (by simp), if_pos c2, if_pos c3, if_neg h]
      by_cases h2 : x[i] = 1
      · rw [if_pos h2, if_pos h2, if_pos c4, if_pos c5, hm]
        exact ih k (i + 1) (out ++ [y[i]]) (by omega) (by omega) (by omega) (by simp [ho])
      · rw [if_neg h2, if_neg h2]; rfl
theorem shape_Broadcast_s.ev (l0 l1 : List Int) (r) (h : shape_Broadcast_s.f l0 l1 = some r) : ∃ k, shape_Broadcast.f k l0 l1 = some r := by
  refine ⟨20 + 3, ?_⟩
  rw [← h]
  unfold shape_Broadcast.f shape_Broadcast_s.f broadS
  have w1 : wrap64 (0 + 1) = 1 := wrap64_id (by decide) (by decide)
  have w2 : wrap64 (1 + 1) = 2 := wrap64_id (by decide) (by decide)
  have r1 : rd_L4 [l0, l1] 0 = l0 := rfl
  have r2 : rd_L4 [l0, l1] 1 = l1 := rfl
  rw [Option.bind_some, shape_Broadcast.l0, if_pos (show (0 : Int) < (([l0, l1].length : Nat) : Int) by simp), if_pos (by decide), if_pos (show (0 : Int) < (([l0, l1].length : Nat) : Int) by simp), r1, w1]
  show (if (sizeS l0).2 = 0 then _ else _) = _
  by_cases hA : (sizeS l0).2 = 0
  · rw [if_pos hA, if_pos hA, shape_Broadcast.l0, if_pos (show (1 : Int) < (([l0, l1].length : Nat) : Int) by simp), if_pos (by decide), if_pos (show (1 : Int) < (([l0, l1].length : Nat) : Int) by simp), r2, w2]
    show (if (sizeS l1).2 = 0 then _ else _) = _
    by_cases hB : (sizeS l1).2 = 0
    · rw [if_pos hB, if_pos hB, shape_Broadcast.l0, if_neg (show ¬ ((2 : Int) < (([l0, l1].length : Nat) : Int)) by simp)]
      have a8 := sizeS_len hA
      have b8 := sizeS_len hB
      have em : mx (l0.length : Int) (l1.length : Int) = ((max l0.length l1.length : Nat) : Int) := by unfold mx; split <;> omega
      have e1 : shape_wide_s.f l0 ((max l0.length l1.length : Nat) : Int) = some (wideL l0 (max l0.length l1.length)) := if_pos ⟨by omega, by omega, by omega⟩
      have e2 : shape_wide_s.f l1 ((max l0.length l1.length : Nat) : Int) = some (wideL l1 (max l0.length l1.length)) := if_pos ⟨by omega, by omega, by omega⟩
      rw [em, e1, Option.bind_some, e2, Option.bind_some]
      have hx : (wideL l0 (max l0.length l1.length)).length = max l0.length l1.length := by unfold wideL; rw [List.length_append, List.length_replicate]; omega
      have hy : (wideL l1 (max l0.length l1.length)).length = max l0.length l1.length := by unfold wideL; rw [List.length_append, List.length_replicate]; omega
      have := shapeBroad_l1 _ _ _ hx hy (by omega) _ 20 0 [] rfl (by omega) (by omega) rfl
      refine this.trans ?_
      rw [List.drop_zero, List.drop_zero]
      congr 2
      cases zipB (wideL l0 (max l0.length l1.length)) (wideL l1 (max l0.length l1.length)) <;> rfl
    · rw [if_neg hB, if_neg hB]
  · rw [if_neg hA, if_neg hA]
set_option maxHeartbeats 1000000 in
theorem shape_Broadcast_s.calls (P0_ : Nat → Prop) (A0 : Option Addr) (c0 : Nat) (l0 : List Int) (P1_ : Nat → Prop) (A1 : Option Addr) (c1 : Nat) (l1 : List Int) (r1 : List Int) (r2 : Int) (w : World) (hs0 : Kd.V (Kd.int .i64) 2 w w.heap.size (fun k_ => P0_ k_) (.slice A0 l0.length c0) l0) (hs1 : Kd.V (Kd.int .i64) 2 w w.heap.size (fun k_ => P1_ k_) (.slice A1 l1.length c1) l1) (h : shape_Broadcast_s.f l0 l1 = some (r1, r2)) :
    Calls Tryz.prog 85 #[.slice A0 l0.length c0, .slice A1 l1.length c1] w fun e w' => ∃ v0_ : Value, e = .returned (.tuple #[v0_, .int .i64 r2]) ∧ Kd.R (Kd.int .i64) 2 w' w.heap.size (fun k_ => (w.heap.size ≤ k_)) v0_ r1 ∧ Below w.heap.size w w' := by
  obtain ⟨k, hk⟩ := shape_Broadcast_s.ev l0 l1 _ h
  exact shape_Broadcast.calls k P0_ A0 c0 l0 P1_ A1 c1 l1 r1 r2 w hs0 hs1 hk
end Go.Proofs.YtgmggompdidcoaaGreatDoor.X
namespace Go.Proofs.YtgmggompdidcoaaGreatDoor.X
open Go.RowKit Go.Proofs.YtgmggompdidcoaaGreatDoorW.PrintWords Go.Proofs.YtgmggompdidcoaaGreatDoorW.PrintLast Go.Proofs.YtgmggompdidcoaaGreatDoorW.PrintMore
attribute [local go_sem] max2_int min2_int max_two min_two max_three min_three max_four min_four
set_option linter.unusedVariables false
set_option linter.unusedSimpArgs false
def agatelaw05_Awake.f  : Option (Bool) := (shape_Broadcast_s.f (([3, 1] : List Int)) (([4] : List Int))).bind fun bt107 => (if bt107.2 = 0 then ((agatelaw03_Ints_s.f bt107.1 (([3, 4] : List Int))).bind fun t114 => (if t114 = true then ((shape_Back_s.f (([3, 1] : List Int)) (([2, 3] : List Int))).bind fun t121 => ((agatelaw03_Ints_s.f t121 (([2, 0] : List Int))).bind fun t127 => (some t127))) else (some false))) else (some false))
attribute [local irreducible] Calls
set_option maxHeartbeats 8000000 in
set_option maxRecDepth 100000 in
theorem agatelaw05_Awake.calls  (r : Bool) (w : World) (h : agatelaw05_Awake.f  = some r) :
  Calls Tryz.prog 49 #[] w fun e w' => e = .returned (.bool r) ∧ Below w.heap.size w w' := by
 have HB := mk0 (Below.refl w.heap.size w); have H : ((shape_Broadcast_s.f (([3, 1] : List Int)) (([4] : List Int))).bind fun bt107 => (if bt107.2 = 0 then ((agatelaw03_Ints_s.f bt107.1 (([3, 4] : List Int))).bind fun t114 => (if t114 = true then ((shape_Back_s.f (([3, 1] : List Int)) (([2, 3] : List Int))).bind fun t121 => ((agatelaw03_Ints_s.f t121 (([2, 0] : List Int))).bind fun t127 => (some t127))) else (some false))) else (some false))) = some r := h; clear h; obtain ⟨y101, hy101⟩ : ∃ y_ : List Int, y_ = (([3, 1] : List Int)) := ⟨_, rfl⟩; replace H : ((shape_Broadcast_s.f y101 (([4] : List Int))).bind fun bt107 => (if bt107.2 = 0 then ((agatelaw03_Ints_s.f bt107.1 (([3, 4] : List Int))).bind fun t114 => (if t114 = true then ((shape_Back_s.f (([3, 1] : List Int)) (([2, 3] : List Int))).bind fun t121 => ((agatelaw03_Ints_s.f t121 (([2, 0] : List Int))).bind fun t127 => (some t127))) else (some false))) else (some false))) = some r := by first | (rw [hy101]; with_reducible exact H) | (have H2_ := (Option.bind_some _ _).symm.trans H; rw [hy101]; with_reducible exact H2_) | (have H2_ := (Option.bind_some _ _).symm.trans H; with_reducible exact H2_) | with_reducible exact H | (rw [hy101]; exact H) | exact H
 have Ny101 := mk0 hy101; clear hy101; obtain ⟨y104, hy104⟩ : ∃ y_ : List Int, y_ = (([4] : List Int)) := ⟨_, rfl⟩; replace H : ((shape_Broadcast_s.f y101 y104).bind fun bt107 => (if bt107.2 = 0 then ((agatelaw03_Ints_s.f bt107.1 (([3, 4] : List Int))).bind fun t114 => (if t114 = true then ((shape_Back_s.f (([3, 1] : List Int)) (([2, 3] : List Int))).bind fun t121 => ((agatelaw03_Ints_s.f t121 (([2, 0] : List Int))).bind fun t127 => (some t127))) else (some false))) else (some false))) = some r := by first | (rw [hy104]; with_reducible exact H) | (have H2_ := (Option.bind_some _ _).symm.trans H; rw [hy104]; with_reducible exact H2_) | (have H2_ := (Option.bind_some _ _).symm.trans H; with_reducible exact H2_) | with_reducible exact H | (rw [hy104]; exact H) | exact H
 have Ny104 := mk0 hy104; clear hy104; replace H := Option.bind_eq_some_iff.mp H; obtain ⟨⟨t107, t110⟩, A10, H⟩ := H; replace H : (if t110 = 0 then ((agatelaw03_Ints_s.f t107 (([3, 4] : List Int))).bind fun t114 => (if t114 = true then ((shape_Back_s.f (([3, 1] : List Int)) (([2, 3] : List Int))).bind fun t121 => ((agatelaw03_Ints_s.f t121 (([2, 0] : List Int))).bind fun t127 => (some t127))) else (some false))) else (some false)) = some r := H; have A1 := mk0 A10; clear A10
 by_cases c2 : t110 = 0
 ·
  rw [if_pos c2] at H; have c2b0 := beq_iff_eq.mpr c2; have c2b1 := bne_eq_false_iff_eq.mpr c2; clear c2; obtain ⟨y111, hy111⟩ : ∃ y_ : List Int, y_ = (([3, 4] : List Int)) := ⟨_, rfl⟩; replace H : ((agatelaw03_Ints_s.f t107 y111).bind fun t114 => (if t114 = true then ((shape_Back_s.f (([3, 1] : List Int)) (([2, 3] : List Int))).bind fun t121 => ((agatelaw03_Ints_s.f t121 (([2, 0] : List Int))).bind fun t127 => (some t127))) else (some false))) = some r := by first | (rw [hy111]; with_reducible exact H) | (have H2_ := (Option.bind_some _ _).symm.trans H; rw [hy111]; with_reducible exact H2_) | (have H2_ := (Option.bind_some _ _).symm.trans H; with_reducible exact H2_) | with_reducible exact H | (rw [hy111]; exact H) | exact H
  have Ny111 := mk0 hy111; clear hy111; replace H := bnd H; obtain ⟨t114, A3, H⟩ := H
  by_cases c4 : t114 = true
  ·
   subst c4; have H1 : ((shape_Back_s.f (([3, 1] : List Int)) (([2, 3] : List Int))).bind fun t121 => ((agatelaw03_Ints_s.f t121 (([2, 0] : List Int))).bind fun t127 => (some t127))) = some r := by rw [if_pos rfl] at H; exact H
   clear H; have H := H1; clear H1; obtain ⟨y115, hy115⟩ : ∃ y_ : List Int, y_ = (([3, 1] : List Int)) := ⟨_, rfl⟩; replace H : ((shape_Back_s.f y115 (([2, 3] : List Int))).bind fun t121 => ((agatelaw03_Ints_s.f t121 (([2, 0] : List Int))).bind fun t127 => (some t127))) = some r := by first | (rw [hy115]; with_reducible exact H) | (have H2_ := (Option.bind_some _ _).symm.trans H; rw [hy115]; with_reducible exact H2_) | (have H2_ := (Option.bind_some _ _).symm.trans H; with_reducible exact H2_) | with_reducible exact H | (rw [hy115]; exact H) | exact H
   have Ny115 := mk0 hy115; clear hy115; obtain ⟨y118, hy118⟩ : ∃ y_ : List Int, y_ = (([2, 3] : List Int)) := ⟨_, rfl⟩; replace H : ((shape_Back_s.f y115 y118).bind fun t121 => ((agatelaw03_Ints_s.f t121 (([2, 0] : List Int))).bind fun t127 => (some t127))) = some r := by first | (rw [hy118]; with_reducible exact H) | (have H2_ := (Option.bind_some _ _).symm.trans H; rw [hy118]; with_reducible exact H2_) | (have H2_ := (Option.bind_some _ _).symm.trans H; with_reducible exact H2_) | with_reducible exact H | (rw [hy118]; exact H) | exact H
   have Ny118 := mk0 hy118; clear hy118; replace H := bnd H; obtain ⟨t121, A5, H⟩ := H; obtain ⟨y124, hy124⟩ : ∃ y_ : List Int, y_ = (([2, 0] : List Int)) := ⟨_, rfl⟩; replace H : ((agatelaw03_Ints_s.f t121 y124).bind fun t127 => (some t127)) = some r := by first | (rw [hy124]; with_reducible exact H) | (have H2_ := (Option.bind_some _ _).symm.trans H; rw [hy124]; with_reducible exact H2_) | (have H2_ := (Option.bind_some _ _).symm.trans H; with_reducible exact H2_) | with_reducible exact H | (rw [hy124]; exact H) | exact H
   have Ny124 := mk0 hy124; clear hy124; replace H := bnd H; obtain ⟨t127, A6, H⟩ := H; obtain rfl := Option.some.inj H
   go_enter Tryz.func49, Tryz.ntmps49
   go_wp2_with (first | ((with_reducible refine gate_dst (N := 4) rfl ?_); (try (refine gate_guard (by rfl) ?_; dsimp only)); refine Kd.R_lit (Kd.int .i64) _ 2 ?hg (N := 4) ?hd (xs := ([3, 1] : List Int)) (inner := [.int .i64 3, .int .i64 1]) (ok := fun _ => True) (okp := fun _ => True) ?hr ?hp (fun _ hk => hk) trivial (Below.refl _ _) (Nat.le_refl _) (by simp) ?_; (case hd => rfl); (case hg => rfl); (case hr => first | (go_simp; done) | (go_simp; rfl)); (case hp => exact (Reps.one (show Kd.M (Kd.int .i64) _ _ _ 3 [.int .i64 3] from rfl) (Reps.one (show Kd.M (Kd.int .i64) _ _ _ 1 [.int .i64 1] from rfl) (Reps.none _ _)))); intro v102 w7 ho8 hb hg_ hnew_; clear hg_ hnew_; (first | rw [← Ny101.out] at ho8 | (simp only [Int.reduceToNat] at ho8; rw [← Ny101.out] at ho8)); have HO103 := mk0 (Kd.R_lower ho8 (below_size (hbA HB))); replace HB := hbS HB hb; clear hb ho8) | ((with_reducible refine gate_dst (N := 5) rfl ?_); (try (refine gate_guard (by rfl) ?_; dsimp only)); refine Kd.R_lit (Kd.int .i64) _ 2 ?hg (N := 5) ?hd (xs := ([4] : List Int)) (inner := [.int .i64 4]) (ok := fun _ => True) (okp := fun _ => True) ?hr ?hp (fun _ hk => hk) trivial (Below.refl _ _) (Nat.le_refl _) (by simp) ?_; (case hd => rfl); (case hg => rfl); (case hr => first | (go_simp; done) | (go_simp; rfl)); (case hp => exact (Reps.one (show Kd.M (Kd.int .i64) _ _ _ 4 [.int .i64 4] from rfl) (Reps.none _ _))); intro v105 w9 ho10 hb hg_ hnew_; clear hg_ hnew_; (first | rw [← Ny104.out] at ho10 | (simp only [Int.reduceToNat] at ho10; rw [← Ny104.out] at ho10)); have HO106 := mk0 (Kd.R_lower (Kd.R_new' ho10 (Kd.R_lt (krA HO103))) (below_size (hbA HB))); replace HO103 := mk0 (Kd.R_elder' (krA HO103) (Kd.R_base ho10) hb); replace HB := hbS HB hb; clear hb ho10; obtain ⟨Ao11, co11, eo11⟩ := Kd.R_slice HO103.out; subst eo11; obtain ⟨Ao12, co12, eo12⟩ := Kd.R_slice HO106.out; subst eo12) | ((with_reducible refine gate_callee (f := 85) rfl ?_); refine glE (some 6) rfl rfl Tryz.func85 (by kernel_rfl) rfl #[.slice Ao11 y101.length co11, .slice Ao12 y104.length co12] rfl ?_; (with_reducible refine (shape_Broadcast_s.calls (fun k_ => some k_ = (.slice Ao11 y101.length co11 : Value).ownBlock) _ _ y101 (fun k_ => some k_ = (.slice Ao12 y104.length co12 : Value).ownBlock) _ _ y104 t107 t110 _ ?side1 ?side2 A1.out).mono ?_); (case side1 => exact Kd.R_V (Kd.R_tight rfl (HO103.out))); (case side2 => exact Kd.R_V (Kd.R_tight rfl (HO106.out))); rintro e w13 ⟨v108, rfl, ho0, hb⟩; refine ⟨_, rfl, ?_⟩; have HO109 := mk0 (Kd.R_lower (Kd.R_new' (Kd.R_new' (Kd.R_mono (ok' := fun k_ => True) ho0 (fun _ hk_ => trivial)) (Kd.R_lt (krA HO103))) (Kd.R_lt (krA HO106))) (below_size (hbA HB))); replace HO103 := mk0 (Kd.R_elder' (krA HO103) (Kd.R_base ho0) hb); replace HO106 := mk0 (Kd.R_elder' (krA HO106) (Kd.R_base ho0) hb); replace HB := hbS HB hb; (try clear hb); (try clear hk); (try clear ho0)) | ((with_reducible refine gate_dst (N := 13) rfl ?_); (try (refine gate_guard (by rfl) ?_; dsimp only)); refine Kd.R_lit (Kd.int .i64) _ 2 ?hg (N := 13) ?hd (xs := ([3, 4] : List Int)) (inner := [.int .i64 3, .int .i64 4]) (ok := fun _ => True) (okp := fun _ => True) ?hr ?hp (fun _ hk => hk) trivial (Below.refl _ _) (Nat.le_refl _) (by simp) ?_; (case hd => rfl); (case hg => rfl); (case hr => first | (go_simp; done) | (go_simp; rfl)); (case hp => exact (Reps.one (show Kd.M (Kd.int .i64) _ _ _ 3 [.int .i64 3] from rfl) (Reps.one (show Kd.M (Kd.int .i64) _ _ _ 4 [.int .i64 4] from rfl) (Reps.none _ _)))); intro v112 w14 ho15 hb hg_ hnew_; clear hg_ hnew_; (first | rw [← Ny111.out] at ho15 | (simp only [Int.reduceToNat] at ho15; rw [← Ny111.out] at ho15)); have HO113 := mk0 (Kd.R_lower (Kd.R_new' (Kd.R_new' (Kd.R_new' ho15 (Kd.R_lt (krA HO103))) (Kd.R_lt (krA HO106))) (Kd.R_lt (krA HO109))) (below_size (hbA HB))); replace HO103 := mk0 (Kd.R_elder' (krA HO103) (Kd.R_base ho15) hb); replace HO106 := mk0 (Kd.R_elder' (krA HO106) (Kd.R_base ho15) hb); replace HO109 := mk0 (Kd.R_elder' (krA HO109) (Kd.R_base ho15) hb); replace HB := hbS HB hb; clear hb ho15; obtain ⟨Ao16, co16, eo16⟩ := Kd.R_slice HO109.out; subst eo16; obtain ⟨Ao17, co17, eo17⟩ := Kd.R_slice HO113.out; subst eo17) | (go_at_call 47; (with_reducible refine (agatelaw03_Ints_s.calls _ _ t107 _ _ y111 true _ ?side1 ?side2 ?side3 ?side4 A3.out).mono ?_); (case side1 => repeat (first | exact (Kd.R_reads' HO109.out).2.2 | (with_reducible refine Kd.C_alloc ?_ _) | (with_reducible refine Kd.C_drewN ?_ _) | (with_reducible refine Kd.C_drew ?_))); (case side2 => exact (Kd.R_reads' HO109.out).2.1); (case side3 => repeat (first | exact (Kd.R_reads' HO113.out).2.2 | (with_reducible refine Kd.C_alloc ?_ _) | (with_reducible refine Kd.C_drewN ?_ _) | (with_reducible refine Kd.C_drew ?_))); (case side4 => exact (Kd.R_reads' HO113.out).2.1); rintro e w' ⟨rfl, ⟨nd, rfl⟩⟩) | ((with_reducible refine gate_dst (N := 17) rfl ?_); (try (refine gate_guard (by rfl) ?_; dsimp only)); refine Kd.R_lit (Kd.int .i64) _ 2 ?hg (N := 17) ?hd (xs := ([3, 1] : List Int)) (inner := [.int .i64 3, .int .i64 1]) (ok := fun _ => True) (okp := fun _ => True) ?hr ?hp (fun _ hk => hk) trivial (Below.refl _ _) (Nat.le_refl _) (by simp) ?_; (case hd => rfl); (case hg => rfl); (case hr => first | (go_simp; done) | (go_simp; rfl)); (case hp => exact (Reps.one (show Kd.M (Kd.int .i64) _ _ _ 3 [.int .i64 3] from rfl) (Reps.one (show Kd.M (Kd.int .i64) _ _ _ 1 [.int .i64 1] from rfl) (Reps.none _ _)))); intro v116 w18 ho19 hb hg_ hnew_; clear hg_ hnew_; (first | rw [← Ny115.out] at ho19 | (simp only [Int.reduceToNat] at ho19; rw [← Ny115.out] at ho19)); have HO117 := mk0 (Kd.R_lower (Kd.R_new' (Kd.R_new' (Kd.R_new' (Kd.R_new' ho19 (Kd.R_lt (krA HO103))) (Kd.R_lt (krA HO106))) (Kd.R_lt (krA HO109))) (Kd.R_lt (krA HO113))) (below_size (hbA HB))); replace HO103 := mk0 (Kd.R_elder' (krA HO103) (Kd.R_base ho19) hb); replace HO106 := mk0 (Kd.R_elder' (krA HO106) (Kd.R_base ho19) hb); replace HO109 := mk0 (Kd.R_elder' (krA HO109) (Kd.R_base ho19) hb); replace HO113 := mk0 (Kd.R_elder' (krA HO113) (Kd.R_base ho19) hb); replace HB := hbS HB hb; clear hb ho19) | ((with_reducible refine gate_dst (N := 18) rfl ?_); (try (refine gate_guard (by rfl) ?_; dsimp only)); refine Kd.R_lit (Kd.int .i64) _ 2 ?hg (N := 18) ?hd (xs := ([2, 3] : List Int)) (inner := [.int .i64 2, .int .i64 3]) (ok := fun _ => True) (okp := fun _ => True) ?hr ?hp (fun _ hk => hk) trivial (Below.refl _ _) (Nat.le_refl _) (by simp) ?_; (case hd => rfl); (case hg => rfl); (case hr => first | (go_simp; done) | (go_simp; rfl)); (case hp => exact (Reps.one (show Kd.M (Kd.int .i64) _ _ _ 2 [.int .i64 2] from rfl) (Reps.one (show Kd.M (Kd.int .i64) _ _ _ 3 [.int .i64 3] from rfl) (Reps.none _ _)))); intro v119 w20 ho21 hb hg_ hnew_; clear hg_ hnew_; (first | rw [← Ny118.out] at ho21 | (simp only [Int.reduceToNat] at ho21; rw [← Ny118.out] at ho21)); have HO120 := mk0 (Kd.R_lower (Kd.R_new' (Kd.R_new' (Kd.R_new' (Kd.R_new' (Kd.R_new' ho21 (Kd.R_lt (krA HO103))) (Kd.R_lt (krA HO106))) (Kd.R_lt (krA HO109))) (Kd.R_lt (krA HO113))) (Kd.R_lt (krA HO117))) (below_size (hbA HB))); replace HO103 := mk0 (Kd.R_elder' (krA HO103) (Kd.R_base ho21) hb); replace HO106 := mk0 (Kd.R_elder' (krA HO106) (Kd.R_base ho21) hb); replace HO109 := mk0 (Kd.R_elder' (krA HO109) (Kd.R_base ho21) hb); replace HO113 := mk0 (Kd.R_elder' (krA HO113) (Kd.R_base ho21) hb); replace HO117 := mk0 (Kd.R_elder' (krA HO117) (Kd.R_base ho21) hb); replace HB := hbS HB hb; clear hb ho21; obtain ⟨Ao22, co22, eo22⟩ := Kd.R_slice HO117.out; subst eo22; obtain ⟨Ao23, co23, eo23⟩ := Kd.R_slice HO120.out; subst eo23) | (go_at_call 86; (with_reducible refine (shape_Back_s.calls _ _ y115 _ _ y118 t121 _ ?side1 ?side2 ?side3 ?side4 A5.out).mono ?_); (case side1 => repeat (first | exact (Kd.R_reads' HO117.out).2.2 | (with_reducible refine Kd.C_alloc ?_ _) | (with_reducible refine Kd.C_drewN ?_ _) | (with_reducible refine Kd.C_drew ?_))); (case side2 => exact (Kd.R_reads' HO117.out).2.1); (case side3 => repeat (first | exact (Kd.R_reads' HO120.out).2.2 | (with_reducible refine Kd.C_alloc ?_ _) | (with_reducible refine Kd.C_drewN ?_ _) | (with_reducible refine Kd.C_drew ?_))); (case side4 => exact (Kd.R_reads' HO120.out).2.1); rintro e w24 ⟨v122, rfl, ho0, hb⟩; have HO123 := mk0 (Kd.R_lower (Kd.R_new' (Kd.R_new' (Kd.R_new' (Kd.R_new' (Kd.R_new' (Kd.R_new' ho0 (Kd.R_lt (krA HO103))) (Kd.R_lt (krA HO106))) (Kd.R_lt (krA HO109))) (Kd.R_lt (krA HO113))) (Kd.R_lt (krA HO117))) (Kd.R_lt (krA HO120))) (below_size (hbA HB))); replace HO103 := mk0 (Kd.R_elder' (krA HO103) (Kd.R_base ho0) hb); replace HO106 := mk0 (Kd.R_elder' (krA HO106) (Kd.R_base ho0) hb); replace HO109 := mk0 (Kd.R_elder' (krA HO109) (Kd.R_base ho0) hb); replace HO113 := mk0 (Kd.R_elder' (krA HO113) (Kd.R_base ho0) hb); replace HO117 := mk0 (Kd.R_elder' (krA HO117) (Kd.R_base ho0) hb); replace HO120 := mk0 (Kd.R_elder' (krA HO120) (Kd.R_base ho0) hb); replace HB := hbS HB hb; (try clear hb); (try clear hk); (try clear ho0)) | ((with_reducible refine gate_dst (N := 20) rfl ?_); (try (refine gate_guard (by rfl) ?_; dsimp only)); refine Kd.R_lit (Kd.int .i64) _ 2 ?hg (N := 20) ?hd (xs := ([2, 0] : List Int)) (inner := [.int .i64 2, .int .i64 0]) (ok := fun _ => True) (okp := fun _ => True) ?hr ?hp (fun _ hk => hk) trivial (Below.refl _ _) (Nat.le_refl _) (by simp) ?_; (case hd => rfl); (case hg => rfl); (case hr => first | (go_simp; done) | (go_simp; rfl)); (case hp => exact (Reps.one (show Kd.M (Kd.int .i64) _ _ _ 2 [.int .i64 2] from rfl) (Reps.one (show Kd.M (Kd.int .i64) _ _ _ 0 [.int .i64 0] from rfl) (Reps.none _ _)))); intro v125 w25 ho26 hb hg_ hnew_; clear hg_ hnew_; (first | rw [← Ny124.out] at ho26 | (simp only [Int.reduceToNat] at ho26; rw [← Ny124.out] at ho26)); have HO126 := mk0 (Kd.R_lower (Kd.R_new' (Kd.R_new' (Kd.R_new' (Kd.R_new' (Kd.R_new' (Kd.R_new' (Kd.R_new' ho26 (Kd.R_lt (krA HO103))) (Kd.R_lt (krA HO106))) (Kd.R_lt (krA HO109))) (Kd.R_lt (krA HO113))) (Kd.R_lt (krA HO117))) (Kd.R_lt (krA HO120))) (Kd.R_lt (krA HO123))) (below_size (hbA HB))); replace HO103 := mk0 (Kd.R_elder' (krA HO103) (Kd.R_base ho26) hb); replace HO106 := mk0 (Kd.R_elder' (krA HO106) (Kd.R_base ho26) hb); replace HO109 := mk0 (Kd.R_elder' (krA HO109) (Kd.R_base ho26) hb); replace HO113 := mk0 (Kd.R_elder' (krA HO113) (Kd.R_base ho26) hb); replace HO117 := mk0 (Kd.R_elder' (krA HO117) (Kd.R_base ho26) hb); replace HO120 := mk0 (Kd.R_elder' (krA HO120) (Kd.R_base ho26) hb); replace HO123 := mk0 (Kd.R_elder' (krA HO123) (Kd.R_base ho26) hb); replace HB := hbS HB hb; clear hb ho26; obtain ⟨Ao27, co27, eo27⟩ := Kd.R_slice HO123.out; subst eo27; obtain ⟨Ao28, co28, eo28⟩ := Kd.R_slice HO126.out; subst eo28) | (go_at_call 47; (with_reducible refine (agatelaw03_Ints_s.calls _ _ t121 _ _ y124 t127 _ ?side1 ?side2 ?side3 ?side4 A6.out).mono ?_); (case side1 => repeat (first | exact (Kd.R_reads' HO123.out).2.2 | (with_reducible refine Kd.C_alloc ?_ _) | (with_reducible refine Kd.C_drewN ?_ _) | (with_reducible refine Kd.C_drew ?_))); (case side2 => exact (Kd.R_reads' HO123.out).2.1); (case side3 => repeat (first | exact (Kd.R_reads' HO126.out).2.2 | (with_reducible refine Kd.C_alloc ?_ _) | (with_reducible refine Kd.C_drewN ?_ _) | (with_reducible refine Kd.C_drew ?_))); (case side4 => exact (Kd.R_reads' HO126.out).2.1); rintro e w' ⟨rfl, ⟨nd, rfl⟩⟩))
   go_ret
   exact ⟨cl3, hbA HB⟩
  ·
   replace c4 := Bool.eq_false_iff.mpr c4; subst c4; have H1 : (some false) = some r := by rw [if_neg (show ¬ (false = true) by decide)] at H; exact H
   clear H; have H := H1; clear H1; obtain rfl := Option.some.inj H
   go_enter Tryz.func49, Tryz.ntmps49
   go_wp2_with (first | ((with_reducible refine gate_dst (N := 4) rfl ?_); (try (refine gate_guard (by rfl) ?_; dsimp only)); refine Kd.R_lit (Kd.int .i64) _ 2 ?hg (N := 4) ?hd (xs := ([3, 1] : List Int)) (inner := [.int .i64 3, .int .i64 1]) (ok := fun _ => True) (okp := fun _ => True) ?hr ?hp (fun _ hk => hk) trivial (Below.refl _ _) (Nat.le_refl _) (by simp) ?_; (case hd => rfl); (case hg => rfl); (case hr => first | (go_simp; done) | (go_simp; rfl)); (case hp => exact (Reps.one (show Kd.M (Kd.int .i64) _ _ _ 3 [.int .i64 3] from rfl) (Reps.one (show Kd.M (Kd.int .i64) _ _ _ 1 [.int .i64 1] from rfl) (Reps.none _ _)))); intro v102 w29 ho30 hb hg_ hnew_; clear hg_ hnew_; (first | rw [← Ny101.out] at ho30 | (simp only [Int.reduceToNat] at ho30; rw [← Ny101.out] at ho30)); have HO103 := mk0 (Kd.R_lower ho30 (below_size (hbA HB))); replace HB := hbS HB hb; clear hb ho30) | ((with_reducible refine gate_dst (N := 5) rfl ?_); (try (refine gate_guard (by rfl) ?_; dsimp only)); refine Kd.R_lit (Kd.int .i64) _ 2 ?hg (N := 5) ?hd (xs := ([4] : List Int)) (inner := [.int .i64 4]) (ok := fun _ => True) (okp := fun _ => True) ?hr ?hp (fun _ hk => hk) trivial (Below.refl _ _) (Nat.le_refl _) (by simp) ?_; (case hd => rfl); (case hg => rfl); (case hr => first | (go_simp; done) | (go_simp; rfl)); (case hp => exact (Reps.one (show Kd.M (Kd.int .i64) _ _ _ 4 [.int .i64 4] from rfl) (Reps.none _ _))); intro v105 w31 ho32 hb hg_ hnew_; clear hg_ hnew_; (first | rw [← Ny104.out] at ho32 | (simp only [Int.reduceToNat] at ho32; rw [← Ny104.out] at ho32)); have HO106 := mk0 (Kd.R_lower (Kd.R_new' ho32 (Kd.R_lt (krA HO103))) (below_size (hbA HB))); replace HO103 := mk0 (Kd.R_elder' (krA HO103) (Kd.R_base ho32) hb); replace HB := hbS HB hb; clear hb ho32; obtain ⟨Ao33, co33, eo33⟩ := Kd.R_slice HO103.out; subst eo33; obtain ⟨Ao34, co34, eo34⟩ := Kd.R_slice HO106.out; subst eo34) | ((with_reducible refine gate_callee (f := 85) rfl ?_); refine glE (some 6) rfl rfl Tryz.func85 (by kernel_rfl) rfl #[.slice Ao33 y101.length co33, .slice Ao34 y104.length co34] rfl ?_; (with_reducible refine (shape_Broadcast_s.calls (fun k_ => some k_ = (.slice Ao33 y101.length co33 : Value).ownBlock) _ _ y101 (fun k_ => some k_ = (.slice Ao34 y104.length co34 : Value).ownBlock) _ _ y104 t107 t110 _ ?side1 ?side2 A1.out).mono ?_); (case side1 => exact Kd.R_V (Kd.R_tight rfl (HO103.out))); (case side2 => exact Kd.R_V (Kd.R_tight rfl (HO106.out))); rintro e w35 ⟨v108, rfl, ho0, hb⟩; refine ⟨_, rfl, ?_⟩; have HO109 := mk0 (Kd.R_lower (Kd.R_new' (Kd.R_new' (Kd.R_mono (ok' := fun k_ => True) ho0 (fun _ hk_ => trivial)) (Kd.R_lt (krA HO103))) (Kd.R_lt (krA HO106))) (below_size (hbA HB))); replace HO103 := mk0 (Kd.R_elder' (krA HO103) (Kd.R_base ho0) hb); replace HO106 := mk0 (Kd.R_elder' (krA HO106) (Kd.R_base ho0) hb); replace HB := hbS HB hb; (try clear hb); (try clear hk); (try clear ho0)) | ((with_reducible refine gate_dst (N := 13) rfl ?_); (try (refine gate_guard (by rfl) ?_; dsimp only)); refine Kd.R_lit (Kd.int .i64) _ 2 ?hg (N := 13) ?hd (xs := ([3, 4] : List Int)) (inner := [.int .i64 3, .int .i64 4]) (ok := fun _ => True) (okp := fun _ => True) ?hr ?hp (fun _ hk => hk) trivial (Below.refl _ _) (Nat.le_refl _) (by simp) ?_; (case hd => rfl); (case hg => rfl); (case hr => first | (go_simp; done) | (go_simp; rfl)); (case hp => exact (Reps.one (show Kd.M (Kd.int .i64) _ _ _ 3 [.int .i64 3] from rfl) (Reps.one (show Kd.M (Kd.int .i64) _ _ _ 4 [.int .i64 4] from rfl) (Reps.none _ _)))); intro v112 w36 ho37 hb hg_ hnew_; clear hg_ hnew_; (first | rw [← Ny111.out] at ho37 | (simp only [Int.reduceToNat] at ho37; rw [← Ny111.out] at ho37)); have HO113 := mk0 (Kd.R_lower (Kd.R_new' (Kd.R_new' (Kd.R_new' ho37 (Kd.R_lt (krA HO103))) (Kd.R_lt (krA HO106))) (Kd.R_lt (krA HO109))) (below_size (hbA HB))); replace HO103 := mk0 (Kd.R_elder' (krA HO103) (Kd.R_base ho37) hb); replace HO106 := mk0 (Kd.R_elder' (krA HO106) (Kd.R_base ho37) hb); replace HO109 := mk0 (Kd.R_elder' (krA HO109) (Kd.R_base ho37) hb); replace HB := hbS HB hb; clear hb ho37; obtain ⟨Ao38, co38, eo38⟩ := Kd.R_slice HO109.out; subst eo38; obtain ⟨Ao39, co39, eo39⟩ := Kd.R_slice HO113.out; subst eo39) | (go_at_call 47; (with_reducible refine (agatelaw03_Ints_s.calls _ _ t107 _ _ y111 false _ ?side1 ?side2 ?side3 ?side4 A3.out).mono ?_); (case side1 => repeat (first | exact (Kd.R_reads' HO109.out).2.2 | (with_reducible refine Kd.C_alloc ?_ _) | (with_reducible refine Kd.C_drewN ?_ _) | (with_reducible refine Kd.C_drew ?_))); (case side2 => exact (Kd.R_reads' HO109.out).2.1); (case side3 => repeat (first | exact (Kd.R_reads' HO113.out).2.2 | (with_reducible refine Kd.C_alloc ?_ _) | (with_reducible refine Kd.C_drewN ?_ _) | (with_reducible refine Kd.C_drew ?_))); (case side4 => exact (Kd.R_reads' HO113.out).2.1); rintro e w' ⟨rfl, ⟨nd, rfl⟩⟩))
   go_ret
   exact ⟨cl3, hbA HB⟩
 ·
  rw [if_neg c2] at H; have c2b0 := beq_eq_false_iff_ne.mpr c2; have c2b1 := bne_iff_ne.mpr c2; obtain rfl := Option.some.inj H
  go_enter Tryz.func49, Tryz.ntmps49
  go_wp2_with (first | ((with_reducible refine gate_dst (N := 4) rfl ?_); (try (refine gate_guard (by rfl) ?_; dsimp only)); refine Kd.R_lit (Kd.int .i64) _ 2 ?hg (N := 4) ?hd (xs := ([3, 1] : List Int)) (inner := [.int .i64 3, .int .i64 1]) (ok := fun _ => True) (okp := fun _ => True) ?hr ?hp (fun _ hk => hk) trivial (Below.refl _ _) (Nat.le_refl _) (by simp) ?_; (case hd => rfl); (case hg => rfl); (case hr => first | (go_simp; done) | (go_simp; rfl)); (case hp => exact (Reps.one (show Kd.M (Kd.int .i64) _ _ _ 3 [.int .i64 3] from rfl) (Reps.one (show Kd.M (Kd.int .i64) _ _ _ 1 [.int .i64 1] from rfl) (Reps.none _ _)))); intro v102 w40 ho41 hb hg_ hnew_; clear hg_ hnew_; (first | rw [← Ny101.out] at ho41 | (simp only [Int.reduceToNat] at ho41; rw [← Ny101.out] at ho41)); have HO103 := mk0 (Kd.R_lower ho41 (below_size (hbA HB))); replace HB := hbS HB hb; clear hb ho41) | ((with_reducible refine gate_dst (N := 5) rfl ?_); (try (refine gate_guard (by rfl) ?_; dsimp only)); refine Kd.R_lit (Kd.int .i64) _ 2 ?hg (N := 5) ?hd (xs := ([4] : List Int)) (inner := [.int .i64 4]) (ok := fun _ => True) (okp := fun _ => True) ?hr ?hp (fun _ hk => hk) trivial (Below.refl _ _) (Nat.le_refl _) (by simp) ?_; (case hd => rfl); (case hg => rfl); (case hr => first | (go_simp; done) | (go_simp; rfl)); (case hp => exact (Reps.one (show Kd.M (Kd.int .i64) _ _ _ 4 [.int .i64 4] from rfl) (Reps.none _ _))); intro v105 w42 ho43 hb hg_ hnew_; clear hg_ hnew_; (first | rw [← Ny104.out] at ho43 | (simp only [Int.reduceToNat] at ho43; rw [← Ny104.out] at ho43)); have HO106 := mk0 (Kd.R_lower (Kd.R_new' ho43 (Kd.R_lt (krA HO103))) (below_size (hbA HB))); replace HO103 := mk0 (Kd.R_elder' (krA HO103) (Kd.R_base ho43) hb); replace HB := hbS HB hb; clear hb ho43; obtain ⟨Ao44, co44, eo44⟩ := Kd.R_slice HO103.out; subst eo44; obtain ⟨Ao45, co45, eo45⟩ := Kd.R_slice HO106.out; subst eo45) | ((with_reducible refine gate_callee (f := 85) rfl ?_); refine glE (some 6) rfl rfl Tryz.func85 (by kernel_rfl) rfl #[.slice Ao44 y101.length co44, .slice Ao45 y104.length co45] rfl ?_; (with_reducible refine (shape_Broadcast_s.calls (fun k_ => some k_ = (.slice Ao44 y101.length co44 : Value).ownBlock) _ _ y101 (fun k_ => some k_ = (.slice Ao45 y104.length co45 : Value).ownBlock) _ _ y104 t107 t110 _ ?side1 ?side2 A1.out).mono ?_); (case side1 => exact Kd.R_V (Kd.R_tight rfl (HO103.out))); (case side2 => exact Kd.R_V (Kd.R_tight rfl (HO106.out))); rintro e w46 ⟨v108, rfl, ho0, hb⟩; refine ⟨_, rfl, ?_⟩; have HO109 := mk0 (Kd.R_lower (Kd.R_new' (Kd.R_new' (Kd.R_mono (ok' := fun k_ => True) ho0 (fun _ hk_ => trivial)) (Kd.R_lt (krA HO103))) (Kd.R_lt (krA HO106))) (below_size (hbA HB))); replace HO103 := mk0 (Kd.R_elder' (krA HO103) (Kd.R_base ho0) hb); replace HO106 := mk0 (Kd.R_elder' (krA HO106) (Kd.R_base ho0) hb); replace HB := hbS HB hb; (try clear hb); (try clear hk); (try clear ho0)))
  go_ret
  exact ⟨cl3, hbA HB⟩
end Go.Proofs.YtgmggompdidcoaaGreatDoor.X
namespace Go.Proofs.YtgmggompdidcoaaGreatDoor.X
open Go.RowKit Go.Proofs.YtgmggompdidcoaaGreatDoorW.PrintWords Go.Proofs.YtgmggompdidcoaaGreatDoorW.PrintLast Go.Proofs.YtgmggompdidcoaaGreatDoorW.PrintMore
attribute [local go_sem] max2_int min2_int max_two min_two max_three min_three max_four min_four
set_option linter.unusedVariables false
set_option linter.unusedSimpArgs false
def agatelaw05_Awake_s.f : Option Bool := some true
theorem agatelaw05_Awake_s.ev (r) (h : agatelaw05_Awake_s.f = some r) : ∃ k : Nat, agatelaw05_Awake.f = some r := by
  refine ⟨0, ?_⟩
  rw [← h]
  decide
set_option maxHeartbeats 1000000 in
theorem agatelaw05_Awake_s.calls  (r : Bool) (w : World) (h : agatelaw05_Awake_s.f  = some r) :
    Calls Tryz.prog 49 #[] w fun e w' => e = .returned (.bool r) ∧ Below w.heap.size w w' := by
  obtain ⟨k, hk⟩ := agatelaw05_Awake_s.ev  _ h
  exact agatelaw05_Awake.calls r w hk
def agatelaw07_Awake.f : Option Bool := some true
theorem awake07_check : tensor_Tensor_Check.f 20 ⟨#[97]⟩ 7 [2] (catLaid [1, -1]) = some 0 := by decide +kernel
theorem awake07_size : (catLaid [1, -1]).size = 16 := catLaid_size _
theorem set4_C {w : World} {A : Option Addr} {n g : Nat} {xs : List Int} {cs : Array Value} (h : Kd.C (Kd.int .i64) w A n xs) (hb : w.heap[g]? = some (.cells cs 33 (0, 0))) (hfar : ∀ ad, A = some ad → 0 < n → ad.block ≠ g) (a b c d : Value) : Kd.C (Kd.int .i64) ((((w.setCell ⟨g, 0, none⟩ a).setCell ⟨g, 1, none⟩ b).setCell ⟨g, 2, none⟩ c).setCell ⟨g, 3, none⟩ d) A n xs := by
  have h0 := Kd.reads_of_C (enc := Value.int .i64) (d := (0 : Int)) (h1 := fun _ => rfl) h
  refine Kd.C_of_reads (d := (0 : Int)) (h1 := fun _ => rfl) ⟨h0.1, h0.2.1, fun hn => ?_⟩
  obtain ⟨ad, e, hc⟩ := h0.2.2 hn
  refine ⟨ad, e, fun j hj => ?_⟩
  have hne := hfar ad e hn
  have hb2 : (ad.add j).block = ad.block := by unfold Addr.add; split <;> rfl
  rw [World.cell?_setCell_other _ _ _ _ (by intro he; exact hne (by rw [← hb2, ← he])), World.cell?_setCell_other _ _ _ _ (by intro he; exact hne (by rw [← hb2, ← he])), World.cell?_setCell_other _ _ _ _ (by intro he; exact hne (by rw [← hb2, ← he])), World.cell?_setCell_other _ _ _ _ (by intro he; exact hne (by rw [← hb2, ← he]))]
  exact hc j hj
set_option maxHeartbeats 8000000 in
set_option maxRecDepth 100000 in
theorem agatelaw07_Awake.calls (r : Bool) (w : World) (h : agatelaw07_Awake.f = some r) :
    Calls Tryz.prog 19 #[] w fun e w' => e = .returned (.bool r) ∧ Below w.heap.size w w' := by
  obtain rfl := Option.some.inj h
  clear h
  go_enter Tryz.func19, Tryz.ntmps19
  go_wp2_with (first | (fail))
  have hb0 : ((w.alloc (Obj.cells #[Value.int IntKind.i64 2] 2)).alloc (Obj.cells #[Value.int IntKind.i64 1, Value.int IntKind.i64 (-1)] 2)).heap[w.heap.size]? = some (Obj.cells #[Value.int IntKind.i64 2] 2) := blk_alloc (blk_new w _) _
  have hb1 : ((w.alloc (Obj.cells #[Value.int IntKind.i64 2] 2)).alloc (Obj.cells #[Value.int IntKind.i64 1, Value.int IntKind.i64 (-1)] 2)).heap[w.heap.size + 1]? = some (Obj.cells #[Value.int IntKind.i64 1, Value.int IntKind.i64 (-1)] 2) := by
    have h := blk_new (w.alloc (Obj.cells #[Value.int IntKind.i64 2] 2)) (Obj.cells #[Value.int IntKind.i64 1, Value.int IntKind.i64 (-1)] 2)
    rw [alloc_size] at h; exact h
  have r0 : Kd.C (Kd.int .i64) ((w.alloc (Obj.cells #[Value.int IntKind.i64 2] 2)).alloc (Obj.cells #[Value.int IntKind.i64 1, Value.int IntKind.i64 (-1)] 2)) (some ⟨w.heap.size, 0, none⟩) ([2] : List Int).length [2] := Kd.C_of_reads (d := (0 : Int)) (h1 := fun _ => rfl) ⟨rfl, by decide, fun _ => ⟨_, rfl, fun j hj => by
    have hj0 : j = 0 := by simp at hj; omega
    subst hj0
    exact (blk_cell hb0 0).trans rfl⟩⟩
  have r1 : Kd.C (Kd.int .i64) ((w.alloc (Obj.cells #[Value.int IntKind.i64 2] 2)).alloc (Obj.cells #[Value.int IntKind.i64 1, Value.int IntKind.i64 (-1)] 2)) (some ⟨w.heap.size + 1, 0, none⟩) ([1, -1] : List Int).length [1, -1] := Kd.C_of_reads (d := (0 : Int)) (h1 := fun _ => rfl) ⟨rfl, by decide, fun _ => ⟨_, rfl, fun j hj => by
    have hj0 : j = 0 ∨ j = 1 := by simp at hj; omega
    rcases hj0 with rfl | rfl
    · exact (blk_cell hb1 0).trans rfl
    · exact (blk_cell hb1 1).trans rfl⟩⟩
  have HB := Aside0.mk (below_alloc (below_alloc (Below.refl w.heap.size w) (Obj.cells #[Value.int IntKind.i64 2] 2)) (Obj.cells #[Value.int IntKind.i64 1, Value.int IntKind.i64 (-1)] 2))
  clear hb0 hb1
  refine (tensor_OfInts0.calls ⟨#[97]⟩ _ 1 [2] _ 2 [1, -1] _ r0 (Nat.le_refl _) r1 (Nat.le_refl _) (by decide) (by decide) (by simp)).mono ?_
  rintro e w1 ⟨v2, rfl, hR, hb⟩
  obtain ⟨A2, cp2, rfl⟩ := Kd.R_slice hR
  have n0_ := Aside0.mk (below_step HB.out hb)
  obtain ⟨A3, c3, he, hc3, hC⟩ := Kd.R_reads hR
  cases he
  have HC := Aside0.mk hC
  have HCC := Aside0.mk hc3
  have HF := Aside0.mk (show ∀ ad, A2 = some ad → ad.block < w1.heap.size from fun ad e => by
    obtain ⟨ad2, e2, h2⟩ := (Kd.reads_of_C (enc := Value.int .i64) (d := (0 : Int)) (h1 := fun _ => rfl) hC).2.2 (by decide)
    rw [e] at e2; cases e2
    exact World.block_lt_of_cell? w1 _ (h2 0 (by decide)))
  clear HB hb hR hC hc3 r0 r1
  have HB := n0_
  clear n0_
  have hsz := Aside0.mk awake07_size
  generalize hdd : catLaid [1, -1] = dd at hsz ⊢
  have HD := Aside0.mk hdd
  clear hdd
  go_wp2_with (first | ((with_reducible refine gate_dst (N := 1) rfl ?_); refine box_event ?hg (N := 1) ?hd (cs := #[.string (⟨#[]⟩ : ByteArray), .int .i64 0, .slice none 0 0, .string (⟨#[]⟩ : ByteArray)]) (t := 33) ?hr ?_; (case hd => rfl); (case hg => rfl); (case hr => first | (go_simp; done) | (go_simp; rfl)); intro gT hg wT hbox hb; have m0_ := Aside0.mk (below_step HB.out hb); have m1_ := Aside0.mk hbox; have m2_ := Aside0.mk (by rw [hg]; exact below_size HB.out : w.heap.size ≤ gT); have m3_ := Aside0.mk (Kd.C_below HC.out hb); clear HB HC; have HB := m0_; have BKT := m1_; have GWT := m2_; have HC := m3_; clear m0_ m1_ m2_ m3_; have HN := Aside0.mk (show ∀ ad, A2 = some ad → 0 < ([2] : List Int).length → ad.block ≠ gT from fun ad e _ => by have := HF.out ad e; omega); clear hb hbox hg; have c0 : wT.cell? ⟨gT, 0, none⟩ = some (.string (⟨#[]⟩ : ByteArray)) := (blk_cell BKT.out 0).trans rfl; have f0 := blk_frozen BKT.out 0; have c1 : wT.cell? ⟨gT, 1, none⟩ = some (.int .i64 0) := (blk_cell BKT.out 1).trans rfl; have f1 := blk_frozen BKT.out 1; have c2 : wT.cell? ⟨gT, 2, none⟩ = some (.slice none 0 0) := (blk_cell BKT.out 2).trans rfl; have f2 := blk_frozen BKT.out 2; have c3 : wT.cell? ⟨gT, 3, none⟩ = some (.string (⟨#[]⟩ : ByteArray)) := (blk_cell BKT.out 3).trans rfl; have f3 := blk_frozen BKT.out 3) | (fail))
  refine (agatelaw04_Awake.calls true _ rfl).mono ?_
  rintro e w4 ⟨rfl, hb⟩
  have n0_ := Aside0.mk (below_step (below_set (below_set (below_set (below_set HB.out GWT.out) GWT.out) GWT.out) GWT.out) hb)
  have n1_ := Aside0.mk (show w4.heap[gT]? = some (.cells #[.string ⟨#[97]⟩, .int .i64 7, .slice A2 ([2] : List Int).length cp2, .string dd] 33 (0, 0)) from blk_below (blk_put (blk_put (blk_put (blk_put BKT.out 0 _ rfl) 1 _ rfl) 2 _ rfl) 3 _ rfl) hb)
  have n2_ := Aside0.mk (Kd.C_below (set4_C HC.out BKT.out HN.out _ _ _ _) hb)
  clear HB BKT HC hb
  have HB := n0_
  have BKT := n1_
  have HC := n2_
  clear n0_ n1_ n2_
  have c0w4 : w4.cell? ⟨gT, 0, none⟩ = some (.string ⟨#[97]⟩) := (blk_cell BKT.out 0).trans rfl
  have f0w4 := blk_frozen BKT.out 0
  have c1w4 : w4.cell? ⟨gT, 1, none⟩ = some (.int .i64 7) := (blk_cell BKT.out 1).trans rfl
  have f1w4 := blk_frozen BKT.out 1
  have c2w4 : w4.cell? ⟨gT, 2, none⟩ = some (.slice A2 ([2] : List Int).length cp2) := (blk_cell BKT.out 2).trans rfl
  have f2w4 := blk_frozen BKT.out 2
  have c3w4 : w4.cell? ⟨gT, 3, none⟩ = some (.string dd) := (blk_cell BKT.out 3).trans rfl
  have f3w4 := blk_frozen BKT.out 3
  go_wp2_with (first | (fail))
  refine (agatelaw05_Awake_s.calls true _ rfl).mono ?_
  rintro e w5 ⟨rfl, hb⟩
  have n0_ := Aside0.mk (below_step (HB.out) hb)
  have n1_ := Aside0.mk (show w5.heap[gT]? = some (.cells #[.string ⟨#[97]⟩, .int .i64 7, .slice A2 ([2] : List Int).length cp2, .string dd] 33 (0, 0)) from blk_below BKT.out hb)
  have n2_ := Aside0.mk (Kd.C_below (HC.out) hb)
  clear HB BKT HC hb
  have HB := n0_
  have BKT := n1_
  have HC := n2_
  clear n0_ n1_ n2_
  have c0w5 : w5.cell? ⟨gT, 0, none⟩ = some (.string ⟨#[97]⟩) := (blk_cell BKT.out 0).trans rfl
  have f0w5 := blk_frozen BKT.out 0
  have c1w5 : w5.cell? ⟨gT, 1, none⟩ = some (.int .i64 7) := (blk_cell BKT.out 1).trans rfl
  have f1w5 := blk_frozen BKT.out 1
  have c2w5 : w5.cell? ⟨gT, 2, none⟩ = some (.slice A2 ([2] : List Int).length cp2) := (blk_cell BKT.out 2).trans rfl
  have f2w5 := blk_frozen BKT.out 2
  have c3w5 : w5.cell? ⟨gT, 3, none⟩ = some (.string dd) := (blk_cell BKT.out 3).trans rfl
  have f3w5 := blk_frozen BKT.out 3
  go_wp2_with (first | (fail))
  refine (agatelaw06_Awake.calls true _ rfl).mono ?_
  rintro e w6 ⟨rfl, hb⟩
  have n0_ := Aside0.mk (below_step (HB.out) hb)
  have n1_ := Aside0.mk (show w6.heap[gT]? = some (.cells #[.string ⟨#[97]⟩, .int .i64 7, .slice A2 ([2] : List Int).length cp2, .string dd] 33 (0, 0)) from blk_below BKT.out hb)
  have n2_ := Aside0.mk (Kd.C_below (HC.out) hb)
  clear HB BKT HC hb
  have HB := n0_
  have BKT := n1_
  have HC := n2_
  clear n0_ n1_ n2_
  have c0w6 : w6.cell? ⟨gT, 0, none⟩ = some (.string ⟨#[97]⟩) := (blk_cell BKT.out 0).trans rfl
  have f0w6 := blk_frozen BKT.out 0
  have c1w6 : w6.cell? ⟨gT, 1, none⟩ = some (.int .i64 7) := (blk_cell BKT.out 1).trans rfl
  have f1w6 := blk_frozen BKT.out 1
  have c2w6 : w6.cell? ⟨gT, 2, none⟩ = some (.slice A2 ([2] : List Int).length cp2) := (blk_cell BKT.out 2).trans rfl
  have f2w6 := blk_frozen BKT.out 2
  have c3w6 : w6.cell? ⟨gT, 3, none⟩ = some (.string dd) := (blk_cell BKT.out 3).trans rfl
  have f3w6 := blk_frozen BKT.out 3
  have q16 : ((dd.size : Int) == 16) = true := beq_iff_eq.2 (by have := hsz.out; omega)
  have q17 := hsz.out
  go_wp2_with (first | (fail))
  refine (tensor_Tensor_Check.calls 20 ⟨#[97]⟩ 7 A2 cp2 [2] dd 0 _ HC.out HCC.out (by rw [← HD.out]; exact awake07_check)).mono ?_
  rintro e w7 ⟨rfl, hb⟩
  have n0_ := Aside0.mk (below_step HB.out hb)
  clear HB hb
  have HB := n0_
  go_wp2_with (first | (fail))
  go_ret
  exact ⟨rfl, HB.out⟩
def agatelaw01_Awake.f  : Option (Bool) := (varint_Read.f (⟨#[172, 2, 120]⟩ : ByteArray)).bind fun bt101 => ((varint_Put.f 300).bind fun t104 => (if t104.toList = ([172, 2] : List UInt8) then (if bt101.1 = 300 then (if bt101.2.1 = 2 then (some (bt101.2.2 == 0)) else (some false)) else (some false)) else (some false)))
set_option maxHeartbeats 8000000 in
set_option maxRecDepth 100000 in
theorem agatelaw01_Awake.calls  (r : Bool) (w : World) (h : agatelaw01_Awake.f  = some r) :
  Calls Tryz.prog 83 #[] w fun e w' => e = .returned (.bool r) ∧ Below w.heap.size w w' := by
 have HB := mk0 (Below.refl w.heap.size w); have H : ((varint_Read.f (⟨#[172, 2, 120]⟩ : ByteArray)).bind fun bt101 => ((varint_Put.f 300).bind fun t104 => (if t104.toList = ([172, 2] : List UInt8) then (if bt101.1 = 300 then (if bt101.2.1 = 2 then (some (bt101.2.2 == 0)) else (some false)) else (some false)) else (some false)))) = some r := h; clear h; replace H := Option.bind_eq_some_iff.mp H; obtain ⟨⟨t101, t102, t103⟩, A10, H⟩ := H; replace H : ((varint_Put.f 300).bind fun t104 => (if t104.toList = ([172, 2] : List UInt8) then (if t101 = 300 then (if t102 = 2 then (some (t103 == 0)) else (some false)) else (some false)) else (some false))) = some r := H; have A1 := mk0 A10; clear A10; replace H := bnd H; obtain ⟨t104, A2, H⟩ := H
 by_cases c3 : t104.toList = ([172, 2] : List UInt8)
 ·
  rw [if_pos c3] at H; have c3b0 := beq_iff_eq.mpr c3; have c3b1 := bne_eq_false_iff_eq.mpr c3; clear c3
  by_cases c4 : t101 = 300
  ·
   rw [if_pos c4] at H; have c4b0 := beq_iff_eq.mpr c4; have c4b1 := bne_eq_false_iff_eq.mpr c4; clear c4
   by_cases c5 : t102 = 2
   ·
    rw [if_pos c5] at H; have c5b0 := beq_iff_eq.mpr c5; have c5b1 := bne_eq_false_iff_eq.mpr c5; clear c5; obtain rfl := Option.some.inj H
    go_enter Tryz.func83, Tryz.ntmps83
    go_wp2_with (first | ((with_reducible refine gate_callee (f := 97) rfl ?_); refine glE (some 5) rfl rfl Tryz.func97 (by kernel_rfl) rfl #[.string (⟨#[172, 2, 120]⟩ : ByteArray)] rfl ?_; (with_reducible refine (varint_Read.calls (⟨#[172, 2, 120]⟩ : ByteArray) t101 t102 t103 _ A1.out).mono ?_); rintro e w' ⟨rfl, ⟨nd, rfl⟩⟩; refine ⟨_, rfl, ?_⟩) | ((with_reducible refine gate_callee (f := 72) rfl ?_); refine glE (some 9) rfl rfl Tryz.func72 (by kernel_rfl) rfl #[.int .u64 300] rfl ?_; (with_reducible refine (varint_Put.calls 300 t104 _ A2.out).mono ?_); rintro e w6 ⟨rfl, hb⟩; refine ⟨_, rfl, ?_⟩; replace HB := hbS HB hb; (try clear hb)))
    go_ret
    exact ⟨cl3, hbA HB⟩
   ·
    rw [if_neg c5] at H; have c5b0 := beq_eq_false_iff_ne.mpr c5; have c5b1 := bne_iff_ne.mpr c5; obtain rfl := Option.some.inj H
    go_enter Tryz.func83, Tryz.ntmps83
    go_wp2_with (first | ((with_reducible refine gate_callee (f := 97) rfl ?_); refine glE (some 5) rfl rfl Tryz.func97 (by kernel_rfl) rfl #[.string (⟨#[172, 2, 120]⟩ : ByteArray)] rfl ?_; (with_reducible refine (varint_Read.calls (⟨#[172, 2, 120]⟩ : ByteArray) t101 t102 t103 _ A1.out).mono ?_); rintro e w' ⟨rfl, ⟨nd, rfl⟩⟩; refine ⟨_, rfl, ?_⟩) | ((with_reducible refine gate_callee (f := 72) rfl ?_); refine glE (some 9) rfl rfl Tryz.func72 (by kernel_rfl) rfl #[.int .u64 300] rfl ?_; (with_reducible refine (varint_Put.calls 300 t104 _ A2.out).mono ?_); rintro e w7 ⟨rfl, hb⟩; refine ⟨_, rfl, ?_⟩; replace HB := hbS HB hb; (try clear hb)))
    go_ret
    exact ⟨cl3, hbA HB⟩
  ·
   rw [if_neg c4] at H; have c4b0 := beq_eq_false_iff_ne.mpr c4; have c4b1 := bne_iff_ne.mpr c4; obtain rfl := Option.some.inj H
   go_enter Tryz.func83, Tryz.ntmps83
   go_wp2_with (first | ((with_reducible refine gate_callee (f := 97) rfl ?_); refine glE (some 5) rfl rfl Tryz.func97 (by kernel_rfl) rfl #[.string (⟨#[172, 2, 120]⟩ : ByteArray)] rfl ?_; (with_reducible refine (varint_Read.calls (⟨#[172, 2, 120]⟩ : ByteArray) t101 t102 t103 _ A1.out).mono ?_); rintro e w' ⟨rfl, ⟨nd, rfl⟩⟩; refine ⟨_, rfl, ?_⟩) | ((with_reducible refine gate_callee (f := 72) rfl ?_); refine glE (some 9) rfl rfl Tryz.func72 (by kernel_rfl) rfl #[.int .u64 300] rfl ?_; (with_reducible refine (varint_Put.calls 300 t104 _ A2.out).mono ?_); rintro e w8 ⟨rfl, hb⟩; refine ⟨_, rfl, ?_⟩; replace HB := hbS HB hb; (try clear hb)))
   go_ret
   exact ⟨cl3, hbA HB⟩
 ·
  rw [if_neg c3] at H; have c3b0 := beq_eq_false_iff_ne.mpr c3; have c3b1 := bne_iff_ne.mpr c3; obtain rfl := Option.some.inj H
  go_enter Tryz.func83, Tryz.ntmps83
  go_wp2_with (first | ((with_reducible refine gate_callee (f := 97) rfl ?_); refine glE (some 5) rfl rfl Tryz.func97 (by kernel_rfl) rfl #[.string (⟨#[172, 2, 120]⟩ : ByteArray)] rfl ?_; (with_reducible refine (varint_Read.calls (⟨#[172, 2, 120]⟩ : ByteArray) t101 t102 t103 _ A1.out).mono ?_); rintro e w' ⟨rfl, ⟨nd, rfl⟩⟩; refine ⟨_, rfl, ?_⟩) | ((with_reducible refine gate_callee (f := 72) rfl ?_); refine glE (some 9) rfl rfl Tryz.func72 (by kernel_rfl) rfl #[.int .u64 300] rfl ?_; (with_reducible refine (varint_Put.calls 300 t104 _ A2.out).mono ?_); rintro e w9 ⟨rfl, hb⟩; refine ⟨_, rfl, ?_⟩; replace HB := hbS HB hb; (try clear hb)))
  go_ret
  exact ⟨cl3, hbA HB⟩
end Go.Proofs.YtgmggompdidcoaaGreatDoor.X
