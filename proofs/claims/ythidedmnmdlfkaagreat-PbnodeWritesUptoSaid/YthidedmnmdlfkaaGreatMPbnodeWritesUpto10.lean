import Derived.Test.YthidedmnmdlfkaaGreatMPbnodeWritesUpto2
import Derived.Test.YthidedmnmdlfkaaGreatMPbnodeWritesUpto9
import Derived.Test.YthidedmnmdlfkaaGreatMPbnodeWritesUpto5
import Derived.ScopeJumps
import Derived.WalkMore
import Derived.Test.YthidedmnmdlfkaaGreatMPbnodeWritesUpto3
import Derived.Test.YthidedmnmdlfkaaGreatMPbnodeWritesUpto4
namespace Go.Proofs.YthidedmnmdlfkaaGreat.X
open Go.RowKit Go.Proofs.YthidedmnmdlfkaaGreatW.PrintWords Go.Proofs.YthidedmnmdlfkaaGreatW.PrintLast Go.Proofs.YthidedmnmdlfkaaGreatW.PrintMore
attribute [local go_sem] max2_int min2_int max_two min_two max_three min_three max_four min_four
set_option linter.unusedVariables false
set_option linter.unusedSimpArgs false
def model_Node_One.f (a0_0 : ByteArray) (l0_1 : List ByteArray) (a0_2 : ByteArray) (l0_3 : List S65) (a1 : ByteArray) (a2 : Int) : Option Int := some (if decide (0 ≤ idxS (nmAttr l0_3) a1 0) && (attrR l0_3 a1).f1 then (attrR l0_3 a1).f2 else a2)
set_option maxHeartbeats 8000000 in
set_option maxRecDepth 100000 in
theorem model_Node_One.calls (a0_0 : ByteArray) (A0_1 : Option Addr) (c0_1 : Nat) (l0_1 : List ByteArray) (a0_2 : ByteArray) (A0_3 : Option Addr) (c0_3 : Nat) (l0_3 : List S65) (a1 : ByteArray) (a2 : Int) (r : Int) (w : World) (hr0_1 : Kd.C Kd.string w A0_1 l0_1.length l0_1) (hc0_1 : l0_1.length ≤ c0_1) (hr0_3 : Kd.C k65 w A0_3 l0_3.length l0_3) (hc0_3 : l0_3.length ≤ c0_3) (h : model_Node_One.f a0_0 l0_1 a0_2 l0_3 a1 a2 = some r) :
    Calls Tryz.prog 43 #[.agg #[.string a0_0, .slice A0_1 l0_1.length c0_1, .string a0_2, .slice A0_3 l0_3.length c0_3], .string a1, .int .i64 a2] w fun e w' => e = .returned (.int .i64 r) ∧ Below w.heap.size w w' := by
  unfold model_Node_One.f at h
  have HH := Aside0.mk (Option.some.inj h)
  have hu := Tryz.underlying65
  have hu2 := Tryz.underlying25
  have HR0 := Aside0.mk hr0_3
  have HC0 := Aside0.mk hc0_3
  clear hr0_3 hc0_3 hr0_1 hc0_1 h
  go_enter Tryz.func43, Tryz.ntmps43
  go_wp2_with (first | (fail))
  have HB := Aside0.mk (below_alloc (Below.refl w.heap.size w) (Obj.cells #[Value.string a0_0, Value.slice A0_1 l0_1.length c0_1, Value.string a0_2, Value.slice A0_3 l0_3.length c0_3] 25))
  generalize w.alloc (Obj.cells #[Value.string a0_0, Value.slice A0_1 l0_1.length c0_1, Value.string a0_2, Value.slice A0_3 l0_3.length c0_3] 25) = w3 at HB ⊢
  refine (nodeAttr.calls a0_0 A0_1 l0_1.length c0_1 a0_2 A0_3 c0_3 l0_3 a1 (fun k => k < w3.heap.size) _ (Kd.V_mk HC0.out (Kd.C_F (Kd.heap_iso _ (Kd.heap_pair Kd.heap_string (Kd.heap_pair Kd.heap_bool (Kd.heap_pair (Kd.heap_int .i64) (Kd.heap_slice 2 (Kd.heap_int .i64)))))) (Kd.C_below HR0.out HB.out)))).mono ?_
  rintro e w8 ⟨⟨A, c, rfl, _⟩, hb⟩
  have n0_ := Aside0.mk (below_step HB.out hb)
  clear HB hb
  have HB := n0_
  clear n0_
  obtain ⟨x, hx⟩ : ∃ x, x = attrR l0_3 a1 := ⟨_, rfl⟩
  obtain ⟨b, hb⟩ : ∃ b, b = decide (0 ≤ idxS (nmAttr l0_3) a1 0) := ⟨_, rfl⟩
  replace HH := HH.out
  rw [← hx, ← hb] at HH ⊢
  have HH1 := Aside0.mk HH
  clear HH
  have HH := HH1
  clear HH1
  clear hx hb HR0 HC0
  have e1 := Aside0.mk (show w.heap.size ≤ w8.heap.size from below_size HB.out)
  go_wp2_with (first | (fail))
  all_goals (go_ret; exact ⟨by have q := HH.out; subst q; simp_all, below_alloc HB.out _⟩)
def model_Number.f (a0 : ByteArray) (a1 : Int) : Option (ByteArray × Bool × Int × List Int) := some (a0, true, a1, ([] : List Int))
set_option maxHeartbeats 8000000 in
set_option maxRecDepth 100000 in
theorem model_Number.calls (a0 : ByteArray) (a1 : Int) (r1 : ByteArray) (r2 : Bool) (r3 : Int) (r4 : List Int) (w : World) (h : model_Number.f a0 a1 = some (r1, r2, r3, r4)) :
    Calls Tryz.prog 41 #[.string a0, .int .i64 a1] w fun e w' => ∃ v3_ : Value, e = .returned (.agg #[.string r1, .bool r2, .int .i64 r3, v3_]) ∧ Kd.R (Kd.int .i64) 2 w' w.heap.size (fun _ => True) v3_ r4 ∧ Below w.heap.size w w' := by
  have hu65 := Tryz.underlying65; have HB := mk0 (Below.refl w.heap.size w); have H : (some (a0, true, a1, ([] : List Int))) = some (r1, r2, r3, r4) := h; clear h
  simp only [Option.some.injEq, Prod.mk.injEq] at H
  obtain ⟨rfl, rfl, rfl, rfl⟩ := H
  go_enter Tryz.func41, Tryz.ntmps41
  go_wp2_with (first | ((with_reducible refine gate_dst (N := 4) rfl ?_); refine boxE (N := 4) (cs := #[.string (⟨#[]⟩ : ByteArray), .bool false, .int .i64 0, .slice none 0 0]) (t := 65) ?_; intro gb101 hg w3 hbox hb; have BK101 := mk0 hbox; have GW101 := mk0 ((by rw [hg]; exact (below_size (hbA HB)) : w.heap.size ≤ gb101)); have GE101 := mk0 ((by rw [hg]; exact (below_size (hbA HB)) : w.heap.size ≤ gb101)); replace HB := mk0 (below_step (hbA HB) hb); clear hb hbox hg; have hcz4_0 : w3.cell? ⟨gb101, 0, none⟩ = some (.string (⟨#[]⟩ : ByteArray)) := (blk_cell BK101.out 0).trans rfl; have hcz4_1 : w3.cell? ⟨gb101, 1, none⟩ = some (.bool false) := (blk_cell BK101.out 1).trans rfl; have hcz4_2 : w3.cell? ⟨gb101, 2, none⟩ = some (.int .i64 0) := (blk_cell BK101.out 2).trans rfl; have hcz4_3 : w3.cell? ⟨gb101, 3, none⟩ = some (.slice none 0 0) := (blk_cell BK101.out 3).trans rfl; have hfz4_0 := fz BK101 0; have hfz4_1 := fz BK101 1; have hfz4_2 := fz BK101 2; have hfz4_3 := blk_frozen BK101.out 3))
  refine bodyPost_ret (results_cell_row rfl _ _ gb101 65 #[.string a0, .bool true, .int .i64 a1, .slice none 0 0] (0, 0) _ rfl (bkW BK101) Tryz.underlying65 rfl (by kernel_rfl)) rfl ?_
  exact ⟨_, cl3, by first | exact Kd.R_nil _ _ _ _ _ | exact Kd.N_nil _ _ _ _ _ | exact Kd.V_nil _ _ _ _ _ | exact Kd.Q_nil _ _ _ _ _ | exact Kd.S_nil _ _ _ _ _, hbA HB⟩
end Go.Proofs.YthidedmnmdlfkaaGreat.X
namespace Go.Proofs.YthidedmnmdlfkaaGreat.X
open Go.RowKit Go.Proofs.YthidedmnmdlfkaaGreatW.PrintWords Go.Proofs.YthidedmnmdlfkaaGreatW.PrintLast Go.Proofs.YthidedmnmdlfkaaGreatW.PrintMore
attribute [local go_sem] max2_int min2_int max_two min_two max_three min_three max_four min_four
set_option linter.unusedVariables false
set_option linter.unusedSimpArgs false
def agatelaw10_Awake.f  : Option (Bool) := (model_Number.f (⟨#[97, 120, 105, 115]⟩ : ByteArray) 1).bind fun bt101 => ((some (([(⟨bt101.1, bt101.2.1, bt101.2.2.1, bt101.2.2.2⟩ : S65)] : List (S65)) : List (S65))).bind fun y107 => ((agatelaw07_Awake.f).bind fun t111 => (if t111 = true then ((model_Node_One.f (⟨#[]⟩ : ByteArray) ([] : List ByteArray) (⟨#[]⟩ : ByteArray) y107 (⟨#[97, 120, 105, 115]⟩ : ByteArray) 7).bind fun t112 => (if t112 = 1 then ((model_Node_One.f (⟨#[]⟩ : ByteArray) ([] : List ByteArray) (⟨#[]⟩ : ByteArray) y107 (⟨#[107, 101, 101, 112]⟩ : ByteArray) 7).bind fun t113 => (some (t113 == 7))) else (some false))) else (some false))))
attribute [local irreducible] Calls
set_option maxHeartbeats 8000000 in
set_option maxRecDepth 100000 in
theorem agatelaw10_Awake.calls  (r : Bool) (w : World) (h : agatelaw10_Awake.f  = some r) :
  Calls Tryz.prog 20 #[] w fun e w' => e = .returned (.bool r) ∧ Below w.heap.size w w' := by
 have hu25 := Tryz.underlying25; have HB := mk0 (Below.refl w.heap.size w); have H : ((model_Number.f (⟨#[97, 120, 105, 115]⟩ : ByteArray) 1).bind fun bt101 => ((some (([(⟨bt101.1, bt101.2.1, bt101.2.2.1, bt101.2.2.2⟩ : S65)] : List (S65)) : List (S65))).bind fun y107 => ((agatelaw07_Awake.f).bind fun t111 => (if t111 = true then ((model_Node_One.f (⟨#[]⟩ : ByteArray) ([] : List ByteArray) (⟨#[]⟩ : ByteArray) y107 (⟨#[97, 120, 105, 115]⟩ : ByteArray) 7).bind fun t112 => (if t112 = 1 then ((model_Node_One.f (⟨#[]⟩ : ByteArray) ([] : List ByteArray) (⟨#[]⟩ : ByteArray) y107 (⟨#[107, 101, 101, 112]⟩ : ByteArray) 7).bind fun t113 => (some (t113 == 7))) else (some false))) else (some false))))) = some r := h; clear h; replace H := Option.bind_eq_some_iff.mp H; obtain ⟨⟨t101, t102, t103, t104⟩, A10, H⟩ := H; replace H : ((some (([(⟨t101, t102, t103, t104⟩ : S65)] : List (S65)) : List (S65))).bind fun y107 => ((agatelaw07_Awake.f).bind fun t111 => (if t111 = true then ((model_Node_One.f (⟨#[]⟩ : ByteArray) ([] : List ByteArray) (⟨#[]⟩ : ByteArray) y107 (⟨#[97, 120, 105, 115]⟩ : ByteArray) 7).bind fun t112 => (if t112 = 1 then ((model_Node_One.f (⟨#[]⟩ : ByteArray) ([] : List ByteArray) (⟨#[]⟩ : ByteArray) y107 (⟨#[107, 101, 101, 112]⟩ : ByteArray) 7).bind fun t113 => (some (t113 == 7))) else (some false))) else (some false)))) = some r := H; have A1 := mk0 A10; clear A10; obtain ⟨y107, hy107⟩ : ∃ y_ : List (S65), y_ = (([(⟨t101, t102, t103, t104⟩ : S65)] : List (S65))) := ⟨_, rfl⟩; replace H : ((agatelaw07_Awake.f).bind fun t111 => (if t111 = true then ((model_Node_One.f (⟨#[]⟩ : ByteArray) ([] : List ByteArray) (⟨#[]⟩ : ByteArray) y107 (⟨#[97, 120, 105, 115]⟩ : ByteArray) 7).bind fun t112 => (if t112 = 1 then ((model_Node_One.f (⟨#[]⟩ : ByteArray) ([] : List ByteArray) (⟨#[]⟩ : ByteArray) y107 (⟨#[107, 101, 101, 112]⟩ : ByteArray) 7).bind fun t113 => (some (t113 == 7))) else (some false))) else (some false))) = some r := by first | (rw [hy107]; with_reducible exact H) | (have H2_ := (Option.bind_some _ _).symm.trans H; rw [hy107]; with_reducible exact H2_) | (have H2_ := (Option.bind_some _ _).symm.trans H; with_reducible exact H2_) | with_reducible exact H | (rw [hy107]; exact H) | exact H
 have Ny107 := mk0 hy107; clear hy107; replace H := bnd H; obtain ⟨t111, A2, H⟩ := H
 by_cases c3 : t111 = true
 ·
  subst c3; have H1 : ((model_Node_One.f (⟨#[]⟩ : ByteArray) ([] : List ByteArray) (⟨#[]⟩ : ByteArray) y107 (⟨#[97, 120, 105, 115]⟩ : ByteArray) 7).bind fun t112 => (if t112 = 1 then ((model_Node_One.f (⟨#[]⟩ : ByteArray) ([] : List ByteArray) (⟨#[]⟩ : ByteArray) y107 (⟨#[107, 101, 101, 112]⟩ : ByteArray) 7).bind fun t113 => (some (t113 == 7))) else (some false))) = some r := by rw [if_pos rfl] at H; exact H
  clear H; have H := H1; clear H1; replace H := bnd H; obtain ⟨t112, A4, H⟩ := H
  by_cases c5 : t112 = 1
  ·
   rw [if_pos c5] at H; have c5b0 := beq_iff_eq.mpr c5; have c5b1 := bne_eq_false_iff_eq.mpr c5; clear c5; replace H := bnd H; obtain ⟨t113, A6, H⟩ := H; obtain rfl := Option.some.inj H
   go_enter Tryz.func20, Tryz.ntmps20
   go_wp2_with (first | ((with_reducible refine gate_callee (f := 41) rfl ?_); refine glE (some 2) rfl rfl Tryz.func41 (by kernel_rfl) rfl #[.string (⟨#[97, 120, 105, 115]⟩ : ByteArray), .int .i64 1] rfl ?_; (with_reducible refine (model_Number.calls (⟨#[97, 120, 105, 115]⟩ : ByteArray) 1 t101 t102 t103 t104 _ A1.out).mono ?_); rintro e w7 ⟨v105, rfl, ho0, hb⟩; refine ⟨_, rfl, ?_⟩; have HO106 := mk0 (Kd.R_lower ho0 (below_size (hbA HB))); replace HB := hbS HB hb; (try clear hb); (try clear hk); (try clear ho0); obtain ⟨Ao8, co8, eo8⟩ := Kd.R_slice HO106.out; subst eo8) | ((with_reducible refine gate_dst (N := 3) rfl ?_); refine Kd.N_lit k65 _ 65 ?hg (N' := 3) ?hd (xs := ([(⟨t101, t102, t103, t104⟩ : S65)] : List (S65))) (inner := [.string t101, .bool t102, .int .i64 t103, .slice Ao8 t104.length co8]) (ok := (fun _ => True)) (okp := (fun _ => True)) ?hr ?hp (fun _ hk => hk) ((show ∀ k_, w7.heap.size ≤ k_ → (fun _ => True) k_ from fun k_ hk => trivial) _ (Nat.le_refl _)) (Below.refl _ _) (Nat.le_refl _) (by simp) ?_; (case hd => rfl); (case hg => rfl); (case hr => first | (go_simp; done) | (go_simp; rfl)); (case hp => exact (Reps.c4 (show Kd.FK k65 _ _ (⟨t101, t102, t103, t104⟩ : S65) [.string t101, .bool t102, .int .i64 t103, .slice Ao8 t104.length co8] from (k65_mkF _ _ (⟨t101, t102, t103, t104⟩ : S65) (Kd.R_reads' (Kd.R_mono (ok' := (fun _ => True)) (HO106.out) (fun k_ hk => trivial))).2.1 (Kd.R_F (Kd.R_mono (ok' := (fun _ => True)) (HO106.out) (fun k_ hk => trivial))))) (Reps.none _ _))); intro v108 w9 ho10 hb hg_ hnew_; clear hg_ hnew_; (first | rw [← Ny107.out] at ho10 | (simp only [Int.reduceToNat] at ho10; rw [← Ny107.out] at ho10)); have HO109 := mk0 (Kd.N_lower ho10 (below_size (hbA HB))); replace HB := hbS HB hb; clear HO106; clear hb ho10; obtain ⟨Ao11, co11, eo11⟩ := Kd.N_slice HO109.out; subst eo11) | ((with_reducible refine gate_dst (N := 1) rfl ?_); refine boxE (N := 1) (cs := #[.string (⟨#[]⟩ : ByteArray), .slice none 0 0, .string (⟨#[]⟩ : ByteArray), .slice none 0 0]) (t := 25) ?_; intro gb110 hg w12 hbox hb; replace HO109 := mk0 (Kd.N_below (Kd.N_elderB (by (with_reducible repeat (first | apply Kd.N_alloc | apply Kd.N_drewN | apply Kd.N_drew)); exact HO109.out) gb110 (Nat.le_of_eq hg.symm)) hb); have BK110 := mk0 hbox; have GW110 := gwS HB hg; have GE110 := gwS HB hg; replace HB := hbS HB hb; clear hb hbox hg; obtain ⟨hcz13_0, hcz13_1, hcz13_2, hcz13_3⟩ := cz4 BK110; have hfz13_0 := fz BK110 0; have hfz13_1 := fz BK110 1; have hfz13_2 := fz BK110 2; have hfz13_3 := fz BK110 3) | ((with_reducible refine gate_callee (f := 42) rfl ?_); refine glE (some 5) rfl rfl Tryz.func42 (by kernel_rfl) rfl #[] rfl ?_; (with_reducible refine (agatelaw07_Awake.calls  true _ A2.out).mono ?_); rintro e w14 ⟨rfl, hb⟩; refine ⟨_, rfl, ?_⟩; replace HO109 := mk0 (Kd.N_below (by (with_reducible repeat (first | apply Kd.N_alloc | apply Kd.N_drewN | apply Kd.N_drew)); exact (Kd.N_mono (Kd.N_far (p := ⟨gb110, 3, none⟩) (Kd.N_far (p := ⟨gb110, 2, none⟩) (Kd.N_far (p := ⟨gb110, 1, none⟩) (Kd.N_far (p := ⟨gb110, 0, none⟩) (Kd.N_mono HO109.out (fun k_ hk => (⟨hk, hk.2⟩ : _ ∧ k_ ≠ gb110))) (fun _ hk => hk.2) (.string (⟨#[]⟩ : ByteArray))) (fun _ hk => hk.2) (.slice none 0 0)) (fun _ hk => hk.2) (.string (⟨#[]⟩ : ByteArray))) (fun _ hk => hk.2) (.slice Ao11 y107.length co11)) (fun _ h_ => h_.1))) hb); replace BK110 := mk0 (blk_below (g := gb110) (o := .cells #[.string (⟨#[]⟩ : ByteArray), .slice none 0 0, .string (⟨#[]⟩ : ByteArray), .slice Ao11 y107.length co11] 25 (0, 0)) (bkW BK110) hb); replace HB := hbS HB hb; (try clear hb); (try clear hk); obtain ⟨hcz15_0, hcz15_1, hcz15_2, hcz15_3⟩ := cz4 BK110; have hfz15_0 := fz BK110 0; have hfz15_1 := fz BK110 1; have hfz15_2 := fz BK110 2; have hfz15_3 := fz BK110 3) | (go_at_call 43; (refine (model_Node_One.calls (⟨#[]⟩ : ByteArray) _ _ ([] : List ByteArray) (⟨#[]⟩ : ByteArray) _ _ y107 (⟨#[97, 120, 105, 115]⟩ : ByteArray) 7 t112 _ ?side1 ?side2 ?side3 ?side4 A4.out).mono ?_); (case side1 => exact Kd.C_nil _ _); (case side2 => exact Nat.le_refl _); (case side3 => repeat (first | exact (Kd.N_reads' HO109.out).2.2 | (with_reducible refine Kd.C_alloc ?_ _) | (with_reducible refine Kd.C_drewN ?_ _) | (with_reducible refine Kd.C_drew ?_))); (case side4 => exact (Kd.N_reads' HO109.out).2.1); rintro e w16 ⟨rfl, hb⟩; replace HO109 := mk0 (Kd.N_below (by (with_reducible repeat (first | apply Kd.N_alloc | apply Kd.N_drewN | apply Kd.N_drew)); exact HO109.out) hb); replace BK110 := bkS BK110 hb; replace HB := hbS HB hb; (try clear hb); (try clear hk); obtain ⟨hcz17_0, hcz17_1, hcz17_2, hcz17_3⟩ := cz4 BK110; have hfz17_0 := fz BK110 0; have hfz17_1 := fz BK110 1; have hfz17_2 := fz BK110 2; have hfz17_3 := fz BK110 3) | (go_at_call 43; (refine (model_Node_One.calls (⟨#[]⟩ : ByteArray) _ _ ([] : List ByteArray) (⟨#[]⟩ : ByteArray) _ _ y107 (⟨#[107, 101, 101, 112]⟩ : ByteArray) 7 t113 _ ?side1 ?side2 ?side3 ?side4 A6.out).mono ?_); (case side1 => exact Kd.C_nil _ _); (case side2 => exact Nat.le_refl _); (case side3 => repeat (first | exact (Kd.N_reads' HO109.out).2.2 | (with_reducible refine Kd.C_alloc ?_ _) | (with_reducible refine Kd.C_drewN ?_ _) | (with_reducible refine Kd.C_drew ?_))); (case side4 => exact (Kd.N_reads' HO109.out).2.1); rintro e w18 ⟨rfl, hb⟩; replace HO109 := mk0 (Kd.N_below (by (with_reducible repeat (first | apply Kd.N_alloc | apply Kd.N_drewN | apply Kd.N_drew)); exact HO109.out) hb); replace BK110 := bkS BK110 hb; replace HB := hbS HB hb; (try clear hb); (try clear hk)))
   go_ret
   exact ⟨cl3, hbA HB⟩
  ·
   rw [if_neg c5] at H; have c5b0 := beq_eq_false_iff_ne.mpr c5; have c5b1 := bne_iff_ne.mpr c5; obtain rfl := Option.some.inj H
   go_enter Tryz.func20, Tryz.ntmps20
   go_wp2_with (first | ((with_reducible refine gate_callee (f := 41) rfl ?_); refine glE (some 2) rfl rfl Tryz.func41 (by kernel_rfl) rfl #[.string (⟨#[97, 120, 105, 115]⟩ : ByteArray), .int .i64 1] rfl ?_; (with_reducible refine (model_Number.calls (⟨#[97, 120, 105, 115]⟩ : ByteArray) 1 t101 t102 t103 t104 _ A1.out).mono ?_); rintro e w19 ⟨v105, rfl, ho0, hb⟩; refine ⟨_, rfl, ?_⟩; have HO106 := mk0 (Kd.R_lower ho0 (below_size (hbA HB))); replace HB := hbS HB hb; (try clear hb); (try clear hk); (try clear ho0); obtain ⟨Ao20, co20, eo20⟩ := Kd.R_slice HO106.out; subst eo20) | ((with_reducible refine gate_dst (N := 3) rfl ?_); refine Kd.N_lit k65 _ 65 ?hg (N' := 3) ?hd (xs := ([(⟨t101, t102, t103, t104⟩ : S65)] : List (S65))) (inner := [.string t101, .bool t102, .int .i64 t103, .slice Ao20 t104.length co20]) (ok := (fun _ => True)) (okp := (fun _ => True)) ?hr ?hp (fun _ hk => hk) ((show ∀ k_, w19.heap.size ≤ k_ → (fun _ => True) k_ from fun k_ hk => trivial) _ (Nat.le_refl _)) (Below.refl _ _) (Nat.le_refl _) (by simp) ?_; (case hd => rfl); (case hg => rfl); (case hr => first | (go_simp; done) | (go_simp; rfl)); (case hp => exact (Reps.c4 (show Kd.FK k65 _ _ (⟨t101, t102, t103, t104⟩ : S65) [.string t101, .bool t102, .int .i64 t103, .slice Ao20 t104.length co20] from (k65_mkF _ _ (⟨t101, t102, t103, t104⟩ : S65) (Kd.R_reads' (Kd.R_mono (ok' := (fun _ => True)) (HO106.out) (fun k_ hk => trivial))).2.1 (Kd.R_F (Kd.R_mono (ok' := (fun _ => True)) (HO106.out) (fun k_ hk => trivial))))) (Reps.none _ _))); intro v108 w21 ho22 hb hg_ hnew_; clear hg_ hnew_; (first | rw [← Ny107.out] at ho22 | (simp only [Int.reduceToNat] at ho22; rw [← Ny107.out] at ho22)); have HO109 := mk0 (Kd.N_lower ho22 (below_size (hbA HB))); replace HB := hbS HB hb; clear HO106; clear hb ho22; obtain ⟨Ao23, co23, eo23⟩ := Kd.N_slice HO109.out; subst eo23) | ((with_reducible refine gate_dst (N := 1) rfl ?_); refine boxE (N := 1) (cs := #[.string (⟨#[]⟩ : ByteArray), .slice none 0 0, .string (⟨#[]⟩ : ByteArray), .slice none 0 0]) (t := 25) ?_; intro gb110 hg w24 hbox hb; replace HO109 := mk0 (Kd.N_below (Kd.N_elderB (by (with_reducible repeat (first | apply Kd.N_alloc | apply Kd.N_drewN | apply Kd.N_drew)); exact HO109.out) gb110 (Nat.le_of_eq hg.symm)) hb); have BK110 := mk0 hbox; have GW110 := gwS HB hg; have GE110 := gwS HB hg; replace HB := hbS HB hb; clear hb hbox hg; obtain ⟨hcz25_0, hcz25_1, hcz25_2, hcz25_3⟩ := cz4 BK110; have hfz25_0 := fz BK110 0; have hfz25_1 := fz BK110 1; have hfz25_2 := fz BK110 2; have hfz25_3 := fz BK110 3) | ((with_reducible refine gate_callee (f := 42) rfl ?_); refine glE (some 5) rfl rfl Tryz.func42 (by kernel_rfl) rfl #[] rfl ?_; (with_reducible refine (agatelaw07_Awake.calls  true _ A2.out).mono ?_); rintro e w26 ⟨rfl, hb⟩; refine ⟨_, rfl, ?_⟩; replace HO109 := mk0 (Kd.N_below (by (with_reducible repeat (first | apply Kd.N_alloc | apply Kd.N_drewN | apply Kd.N_drew)); exact (Kd.N_mono (Kd.N_far (p := ⟨gb110, 3, none⟩) (Kd.N_far (p := ⟨gb110, 2, none⟩) (Kd.N_far (p := ⟨gb110, 1, none⟩) (Kd.N_far (p := ⟨gb110, 0, none⟩) (Kd.N_mono HO109.out (fun k_ hk => (⟨hk, hk.2⟩ : _ ∧ k_ ≠ gb110))) (fun _ hk => hk.2) (.string (⟨#[]⟩ : ByteArray))) (fun _ hk => hk.2) (.slice none 0 0)) (fun _ hk => hk.2) (.string (⟨#[]⟩ : ByteArray))) (fun _ hk => hk.2) (.slice Ao23 y107.length co23)) (fun _ h_ => h_.1))) hb); replace BK110 := mk0 (blk_below (g := gb110) (o := .cells #[.string (⟨#[]⟩ : ByteArray), .slice none 0 0, .string (⟨#[]⟩ : ByteArray), .slice Ao23 y107.length co23] 25 (0, 0)) (bkW BK110) hb); replace HB := hbS HB hb; (try clear hb); (try clear hk); obtain ⟨hcz27_0, hcz27_1, hcz27_2, hcz27_3⟩ := cz4 BK110; have hfz27_0 := fz BK110 0; have hfz27_1 := fz BK110 1; have hfz27_2 := fz BK110 2; have hfz27_3 := fz BK110 3) | (go_at_call 43; (refine (model_Node_One.calls (⟨#[]⟩ : ByteArray) _ _ ([] : List ByteArray) (⟨#[]⟩ : ByteArray) _ _ y107 (⟨#[97, 120, 105, 115]⟩ : ByteArray) 7 t112 _ ?side1 ?side2 ?side3 ?side4 A4.out).mono ?_); (case side1 => exact Kd.C_nil _ _); (case side2 => exact Nat.le_refl _); (case side3 => repeat (first | exact (Kd.N_reads' HO109.out).2.2 | (with_reducible refine Kd.C_alloc ?_ _) | (with_reducible refine Kd.C_drewN ?_ _) | (with_reducible refine Kd.C_drew ?_))); (case side4 => exact (Kd.N_reads' HO109.out).2.1); rintro e w28 ⟨rfl, hb⟩; replace HO109 := mk0 (Kd.N_below (by (with_reducible repeat (first | apply Kd.N_alloc | apply Kd.N_drewN | apply Kd.N_drew)); exact HO109.out) hb); replace BK110 := bkS BK110 hb; replace HB := hbS HB hb; (try clear hb); (try clear hk)))
   go_ret
   exact ⟨cl3, hbA HB⟩
 ·
  replace c3 := Bool.eq_false_iff.mpr c3; subst c3; have H1 : (some false) = some r := by rw [if_neg (show ¬ (false = true) by decide)] at H; exact H
  clear H; have H := H1; clear H1; obtain rfl := Option.some.inj H
  go_enter Tryz.func20, Tryz.ntmps20
  go_wp2_with (first | ((with_reducible refine gate_callee (f := 41) rfl ?_); refine glE (some 2) rfl rfl Tryz.func41 (by kernel_rfl) rfl #[.string (⟨#[97, 120, 105, 115]⟩ : ByteArray), .int .i64 1] rfl ?_; (with_reducible refine (model_Number.calls (⟨#[97, 120, 105, 115]⟩ : ByteArray) 1 t101 t102 t103 t104 _ A1.out).mono ?_); rintro e w29 ⟨v105, rfl, ho0, hb⟩; refine ⟨_, rfl, ?_⟩; have HO106 := mk0 (Kd.R_lower ho0 (below_size (hbA HB))); replace HB := hbS HB hb; (try clear hb); (try clear hk); (try clear ho0); obtain ⟨Ao30, co30, eo30⟩ := Kd.R_slice HO106.out; subst eo30) | ((with_reducible refine gate_dst (N := 3) rfl ?_); refine Kd.N_lit k65 _ 65 ?hg (N' := 3) ?hd (xs := ([(⟨t101, t102, t103, t104⟩ : S65)] : List (S65))) (inner := [.string t101, .bool t102, .int .i64 t103, .slice Ao30 t104.length co30]) (ok := (fun _ => True)) (okp := (fun _ => True)) ?hr ?hp (fun _ hk => hk) ((show ∀ k_, w29.heap.size ≤ k_ → (fun _ => True) k_ from fun k_ hk => trivial) _ (Nat.le_refl _)) (Below.refl _ _) (Nat.le_refl _) (by simp) ?_; (case hd => rfl); (case hg => rfl); (case hr => first | (go_simp; done) | (go_simp; rfl)); (case hp => exact (Reps.c4 (show Kd.FK k65 _ _ (⟨t101, t102, t103, t104⟩ : S65) [.string t101, .bool t102, .int .i64 t103, .slice Ao30 t104.length co30] from (k65_mkF _ _ (⟨t101, t102, t103, t104⟩ : S65) (Kd.R_reads' (Kd.R_mono (ok' := (fun _ => True)) (HO106.out) (fun k_ hk => trivial))).2.1 (Kd.R_F (Kd.R_mono (ok' := (fun _ => True)) (HO106.out) (fun k_ hk => trivial))))) (Reps.none _ _))); intro v108 w31 ho32 hb hg_ hnew_; clear hg_ hnew_; (first | rw [← Ny107.out] at ho32 | (simp only [Int.reduceToNat] at ho32; rw [← Ny107.out] at ho32)); have HO109 := mk0 (Kd.N_lower ho32 (below_size (hbA HB))); replace HB := hbS HB hb; clear HO106; clear hb ho32; obtain ⟨Ao33, co33, eo33⟩ := Kd.N_slice HO109.out; subst eo33) | ((with_reducible refine gate_dst (N := 1) rfl ?_); refine boxE (N := 1) (cs := #[.string (⟨#[]⟩ : ByteArray), .slice none 0 0, .string (⟨#[]⟩ : ByteArray), .slice none 0 0]) (t := 25) ?_; intro gb110 hg w34 hbox hb; replace HO109 := mk0 (Kd.N_below (Kd.N_elderB (by (with_reducible repeat (first | apply Kd.N_alloc | apply Kd.N_drewN | apply Kd.N_drew)); exact HO109.out) gb110 (Nat.le_of_eq hg.symm)) hb); have BK110 := mk0 hbox; have GW110 := gwS HB hg; have GE110 := gwS HB hg; replace HB := hbS HB hb; clear hb hbox hg; obtain ⟨hcz35_0, hcz35_1, hcz35_2, hcz35_3⟩ := cz4 BK110; have hfz35_0 := fz BK110 0; have hfz35_1 := fz BK110 1; have hfz35_2 := fz BK110 2; have hfz35_3 := fz BK110 3) | ((with_reducible refine gate_callee (f := 42) rfl ?_); refine glE (some 5) rfl rfl Tryz.func42 (by kernel_rfl) rfl #[] rfl ?_; (with_reducible refine (agatelaw07_Awake.calls  false _ A2.out).mono ?_); rintro e w36 ⟨rfl, hb⟩; refine ⟨_, rfl, ?_⟩; replace HO109 := mk0 (Kd.N_below (by (with_reducible repeat (first | apply Kd.N_alloc | apply Kd.N_drewN | apply Kd.N_drew)); exact (Kd.N_mono (Kd.N_far (p := ⟨gb110, 3, none⟩) (Kd.N_far (p := ⟨gb110, 2, none⟩) (Kd.N_far (p := ⟨gb110, 1, none⟩) (Kd.N_far (p := ⟨gb110, 0, none⟩) (Kd.N_mono HO109.out (fun k_ hk => (⟨hk, hk.2⟩ : _ ∧ k_ ≠ gb110))) (fun _ hk => hk.2) (.string (⟨#[]⟩ : ByteArray))) (fun _ hk => hk.2) (.slice none 0 0)) (fun _ hk => hk.2) (.string (⟨#[]⟩ : ByteArray))) (fun _ hk => hk.2) (.slice Ao33 y107.length co33)) (fun _ h_ => h_.1))) hb); replace BK110 := mk0 (blk_below (g := gb110) (o := .cells #[.string (⟨#[]⟩ : ByteArray), .slice none 0 0, .string (⟨#[]⟩ : ByteArray), .slice Ao33 y107.length co33] 25 (0, 0)) (bkW BK110) hb); replace HB := hbS HB hb; (try clear hb); (try clear hk)))
  go_ret
  exact ⟨cl3, hbA HB⟩
end Go.Proofs.YthidedmnmdlfkaaGreat.X
namespace Go.Proofs.YthidedmnmdlfkaaGreat.X
open Go.RowKit Go.Proofs.YthidedmnmdlfkaaGreatW.PrintWords Go.Proofs.YthidedmnmdlfkaaGreatW.PrintLast Go.Proofs.YthidedmnmdlfkaaGreatW.PrintMore
attribute [local go_sem] max2_int min2_int max_two min_two max_three min_three max_four min_four
set_option linter.unusedVariables false
set_option linter.unusedSimpArgs false
theorem wp_scope_pre {P : Program} {pre rest : Code} (l : Nat) {Q : Exit → Act → World → Prop} {a : Act} {w : World} (J : Act → World → Prop) (μ : Act → World → Nat)
    (hf : findLabel pre l = none)
    (start : ∀ K : Act → World → Prop, (∀ a w, J a w → K a w) → pre.wp P (Exit.then K (fun _ _ _ => False)) a w)
    (pass : ∀ a w, J a w → rest.wp P (Exit.jump l (fun a' w' => J a' w' ∧ μ a' w' < μ a w) Q) a w) : (Code.scope (pre.seq ((Code.label l).seq rest))).wp P Q a w := by
  refine wp_scope_jumps (rest := Code.skip.seq rest) l J μ (by simp [findLabel, hf]) ?_ (fun a w hJ => wp_seq (wp_skip (pass a w hJ)))
  refine wp_seq ?_
  refine Code.wp_mono ?_ (start (((Code.label l).seq rest).wp P (Exit.jump l J Q)) ?_)
  · intro e a w h
    cases e with
    | normal => exact h
    | _ => exact h.elim
  · intro a w hJ
    refine wp_seq (wp_label ?_)
    refine Code.wp_mono ?_ (pass a w hJ)
    intro e a1 w1 he
    cases e with
    | goto l => exact ⟨he.1, he.2.1⟩
    | _ => exact he
def varint_Put.f (a0 : Int) : Option ByteArray := if 0 ≤ a0 ∧ a0 < 18446744073709551616 then some (vStr a0.toNat) else none
def varint_Put.Rel (N : Nat) (w : World) (a' : Act) (w' : World) : Prop := ∃ (m : Nat) (xs : List Int) (u3 u4 u5 u6 u7 u8 u9 u10 u11 u12 u13 u14 u15 u16 u17 u18 u19 u20 : Value),
    a' = { tmps := #[.int .u64 m, undef, .string ⟨#[]⟩, u3, u4, u5, u6, u7, u8, u9, u10, u11, u12, u13, u14, u15, u16, u17, u18, u19, u20], defers := [] } ∧ Aside0 (m < 18446744073709551616) ∧
    Aside0 (Kd.R (Kd.int .u8) 5 w' w.heap.size (fun _ => True) u3 xs) ∧ Aside0 (Below w.heap.size w w') ∧ Aside0 (xs ++ (vPut m).map Int.ofNat = (vPut N).map Int.ofNat)
set_option maxHeartbeats 8000000 in
set_option maxRecDepth 100000 in
theorem varint_Put.calls (a0 : Int) (r : ByteArray) (w : World) (h : varint_Put.f a0 = some r) :
    Calls Tryz.prog 64 #[.int .u64 a0] w fun e w' => e = .returned (.string r) ∧ Below w.heap.size w w' := by
  unfold varint_Put.f at h
  by_cases h0 : 0 ≤ a0 ∧ a0 < 18446744073709551616
  · rw [if_pos h0] at h
    obtain ⟨h0, h1⟩ := h0
    obtain ⟨n, rfl⟩ := Int.eq_ofNat_of_zero_le h0
    have HJ : Aside0 (strOfNums ((vPut n).map Int.ofNat) = r) := ⟨Option.some.inj h⟩
    have H1 := Aside0.mk h1
    clear h h1
    go_enter Tryz.func64, Tryz.ntmps64
    go_wp2
    refine wp_scope_pre 0 (varint_Put.Rel n w) (fun a' _ => match a'.tmps.getD 0 undef with | .int _ q => q.toNat | _ => 0) rfl ?_ ?_
    · intro K hK
      have HK := Aside0.mk hK
      clear hK
      go_wp2
      refine HK.out _ _ ⟨n, [], _, _, _, _, _, _, _, _, _, _, _, _, _, _, _, _, _, _, rfl, ⟨by have := H1.out; omega⟩, ⟨Kd.R_nil _ _ _ _ _⟩, ⟨Below.refl _ _⟩, ⟨rfl⟩⟩
    rintro a' w' ⟨m, xs, u3, u4, u5, u6, u7, u8, u9, u10, u11, u12, u13, u14, u15, u16, u17, u18, u19, u20, rfl, HM, HO, HB, HE⟩
    have HL : Aside0 (xs.length ≤ 10) := ⟨by
      have := congrArg List.length HE.out
      simp only [List.length_append, List.length_map, vPut_length] at this
      have := vSize_10 n (by have := H1.out; omega)
      omega⟩
    by_cases hge : 128 ≤ (m : Int)
    · have HX : Aside0 ((xs ++ [((m : Int) % 128 + 128)]) ++ (vPut (m / 128)).map Int.ofNat = (vPut n).map Int.ofNat) := ⟨by
        rw [← HE.out, vPut_ge (v := m) (by omega)]; simp⟩
      go_wp2_with (first | ((with_reducible refine gate_builtin (b := .append) (xs := #[.tmp 6, .tmp 11]) rfl ?_); at_builtin; refine Kd.R_append (Kd.int .u8) (w0 := w) w.heap.size rfl (.tmp 6) (.tmp 11) 98 5 (.int .u8 0) 1 rfl Tryz.underlying98 info5 rfl (by decide) (by omega) u3 xs ((m : Int) % 128 + 128) [.int .u8 ((m : Int) % 128 + 128)] (fun _ => True) (fun _ => False) rfl rfl ?aP (fun _ hk => hk.elim) ?aF ?aO ?aB ?aS ?aL ?_; (case aP => exact rfl); (case aB => exact (by repeat (first | (with_reducible first | exact HB.out | apply below_alloc | apply pw_below_drewN | apply below_drew1) | exact HB.out))); (case aF => exact (fun _ _ => trivial)); (case aO => exact (by (with_reducible repeat (first | apply Kd.R_alloc | apply Kd.R_drewN | apply Kd.R_drew)); exact HO.out)); (case aS => exact (below_size (by repeat (first | (with_reducible first | exact HB.out | apply below_alloc | apply pw_below_drewN | apply below_drew1) | exact HB.out)))); (case aL => have := HL.out; omega); intro v105 w8 ho hb hg hat; have n0_ := Aside0.mk hb; have n1_ := Aside0.mk ho; clear HB; clear HO; have HB := n0_; have HO := n1_; clear n0_ n1_; clear ho hb hg hat))
      go_step3
      refine ⟨rfl, ⟨m / 128, _, _, _, _, _, _, _, _, _, _, _, _, _, _, _, _, _, _, _, by rfl, ⟨by have := HM.out; omega⟩, HO, HB, HX⟩, ?_⟩
      simp
      omega
    · have HX : Aside0 (xs ++ [(m : Int)] = (vPut n).map Int.ofNat) := ⟨by
        rw [← HE.out, vPut_lt (v := m) (by omega)]; rfl⟩
      go_wp2_with (first | ((with_reducible refine gate_builtin (b := .append) (xs := #[.tmp 15, .tmp 18]) rfl ?_); at_builtin; refine Kd.R_append (Kd.int .u8) (w0 := w) w.heap.size rfl (.tmp 15) (.tmp 18) 98 5 (.int .u8 0) 1 rfl Tryz.underlying98 info5 rfl (by decide) (by omega) u3 xs ((m : Int)) [.int .u8 ((m : Int))] (fun _ => True) (fun _ => False) rfl rfl ?aP (fun _ hk => hk.elim) ?aF ?aO ?aB ?aS ?aL ?_; (case aP => exact rfl); (case aB => exact (by repeat (first | (with_reducible first | exact HB.out | apply below_alloc | apply pw_below_drewN | apply below_drew1) | exact HB.out))); (case aF => exact (fun _ _ => trivial)); (case aO => exact (by (with_reducible repeat (first | apply Kd.R_alloc | apply Kd.R_drewN | apply Kd.R_drew)); exact HO.out)); (case aS => exact (below_size (by repeat (first | (with_reducible first | exact HB.out | apply below_alloc | apply pw_below_drewN | apply below_drew1) | exact HB.out)))); (case aL => have := HL.out; omega); intro v105 w8 ho hb hg hat; have n0_ := Aside0.mk hb; have n1_ := Aside0.mk ho; clear HB; clear HO; have HB := n0_; have HO := n1_; clear n0_ n1_; have hcv := own_string (P := Tryz.prog) Tryz.underlying98 Tryz.underlying5 Tryz.underlying9 (Kd.own_of_R HO.out); clear ho hb hg hat))
      simp only [Exit.jump]
      go_ret
      exact ⟨by rw [← HJ.out, ← HX.out]; rfl, HB.out⟩
  · rw [if_neg h0] at h; cases h
def wire_may.f (a0 : Int) (a1 : Int) : Option (Bool) := if a0 ≥ 1 then (if a0 ≤ 536870911 then (if a1 = 0 then (some true) else (if a1 = 1 then (some true) else (if a1 = 2 then (some true) else (some (a1 == 5))))) else (some false)) else (some false)
set_option maxHeartbeats 8000000 in
set_option maxRecDepth 100000 in
theorem wire_may.calls (a0 : Int) (a1 : Int) (r : Bool) (w : World) (h : wire_may.f a0 a1 = some r) :
    Calls Tryz.prog 63 #[.int .u64 a0, .int .u64 a1] w fun e w' => e = .returned (.bool r) ∧ Drawn0 w w' := by
  have H : (if a0 ≥ 1 then (if a0 ≤ 536870911 then (if a1 = 0 then (some true) else (if a1 = 1 then (some true) else (if a1 = 2 then (some true) else (some (a1 == 5))))) else (some false)) else (some false)) = some r := h; clear h
  by_cases c3 : a0 ≥ 1
  · rw [if_pos c3] at H
    have c3b0 := decide_eq_true c3; clear c3
    by_cases c4 : a0 ≤ 536870911
    · rw [if_pos c4] at H
      have c4b0 := decide_eq_true c4; clear c4
      by_cases c5 : a1 = 0
      · rw [if_pos c5] at H
        have c5b0 := beq_iff_eq.mpr c5; have c5b1 := bne_eq_false_iff_eq.mpr c5; clear c5; obtain rfl := Option.some.inj H
        go_enter Tryz.func63, Tryz.ntmps63
        go_wp2
        go_ret
        exact ⟨by first | rfl | (simp; done) | (simp [*]; done), by repeat (first | exact Drawn0.refl _ | apply Drawn0.step)⟩
      · rw [if_neg c5] at H
        have c5b0 := beq_eq_false_iff_ne.mpr c5; have c5b1 := bne_iff_ne.mpr c5
        by_cases c6 : a1 = 1
        · rw [if_pos c6] at H
          have c6b0 := beq_iff_eq.mpr c6; have c6b1 := bne_eq_false_iff_eq.mpr c6; clear c6; obtain rfl := Option.some.inj H
          go_enter Tryz.func63, Tryz.ntmps63
          go_wp2
          go_ret
          exact ⟨by first | rfl | (simp; done) | (simp [*]; done), by repeat (first | exact Drawn0.refl _ | apply Drawn0.step)⟩
        · rw [if_neg c6] at H
          have c6b0 := beq_eq_false_iff_ne.mpr c6; have c6b1 := bne_iff_ne.mpr c6
          by_cases c7 : a1 = 2
          · rw [if_pos c7] at H
            have c7b0 := beq_iff_eq.mpr c7; have c7b1 := bne_eq_false_iff_eq.mpr c7; clear c7; obtain rfl := Option.some.inj H
            go_enter Tryz.func63, Tryz.ntmps63
            go_wp2
            go_ret
            exact ⟨by first | rfl | (simp; done) | (simp [*]; done), by repeat (first | exact Drawn0.refl _ | apply Drawn0.step)⟩
          · rw [if_neg c7] at H
            have c7b0 := beq_eq_false_iff_ne.mpr c7; have c7b1 := bne_iff_ne.mpr c7; obtain rfl := Option.some.inj H
            go_enter Tryz.func63, Tryz.ntmps63
            go_wp2
            go_ret
            exact ⟨by first | rfl | (simp; done) | (simp [*]; done), by repeat (first | exact Drawn0.refl _ | apply Drawn0.step)⟩
    · rw [if_neg c4] at H
      have c4b0 := decide_eq_false c4; clear c4; obtain rfl := Option.some.inj H
      go_enter Tryz.func63, Tryz.ntmps63
      go_wp2
      go_ret
      exact ⟨by first | rfl | (simp; done) | (simp [*]; done), by repeat (first | exact Drawn0.refl _ | apply Drawn0.step)⟩
  · rw [if_neg c3] at H
    have c3b0 := decide_eq_false c3; clear c3; obtain rfl := Option.some.inj H
    go_enter Tryz.func63, Tryz.ntmps63
    go_wp2
    go_ret
    exact ⟨by first | rfl | (simp; done) | (simp [*]; done), by repeat (first | exact Drawn0.refl _ | apply Drawn0.step)⟩
def wire_laid.l0 : Nat → Int → List Int → Int → Int → Option (ByteArray)
  | 0, _, _, _, _ => none
  | k + 1, x0, x5, x7, x8 => if x8 < x7 then (if 0 ≤ (wrap64 (8 * x8)) then (if x5.length < 140737488355328 then (wire_laid.l0 k x0 (x5 ++ [(shr .u64 x0 (wrap64 (8 * x8))) % 256]) x7 (wrap64 (x8 + 1))) else (none)) else (none)) else (some (strOfNums x5))
def wire_laid.f (k : Nat) (a0 : Int) (a1 : Int) : Option (ByteArray) := wire_laid.l0 k a0 ([] : List Int) a1 0
set_option maxHeartbeats 8000000 in
set_option maxRecDepth 100000 in
theorem wire_laid.calls (k : Nat) (a0 : Int) (a1 : Int) (r : ByteArray) (w : World) (h : wire_laid.f k a0 a1 = some r) :
    Calls Tryz.prog 65 #[.int .u64 a0, .int .i64 a1] w fun e w' => e = .returned (.string r) ∧ Below w.heap.size w w' := by
  have HB := mk0 (Below.refl w.heap.size w); have H : (wire_laid.l0 k a0 ([] : List Int) a1 0) = some r := h; clear h; have H' := mk0 H; clear H
  go_enter Tryz.func65, Tryz.ntmps65
  go_wp2
  go_loopg [5, 8] k (fun kq v5 v8 w' => ∃ (x5_1 : List Int) (x8_1 : Int), v8 = .int .i64 x8_1 ∧ Aside0 (wire_laid.l0 kq a0 x5_1 a1 x8_1 = some r) ∧ Aside0 (kq ≤ k) ∧ Aside0 (Kd.R (Kd.int .u8) 5 w' w.heap.size (fun _ => True) v5 x5_1) ∧ Aside0 (Below w.heap.size w w'))
  case atStart => exact ⟨(([] : List Int)), (0), cl0, H', ⟨Nat.le_refl _⟩, ⟨by first | exact Kd.R_nil _ _ _ _ _ | exact Kd.N_nil _ _ _ _ _ | exact Kd.V_nil _ _ _ _ _ | exact Kd.Q_nil _ _ _ _ _ | exact Kd.S_nil _ _ _ _ _⟩, ⟨hbA HB⟩⟩
  case round =>
    clear H'; obtain ⟨x5_1, x8_1, rfl, HA, HK1, HO_5, HB⟩ := hrel
    cases gk with
    | zero => exact absurd HA.out (by simp [wire_laid.l0])
    | succ k1 =>
      have H := HA.out; clear HA
      simp only [wire_laid.l0] at H
      by_cases c3 : x8_1 < a1
      · rw [if_pos c3] at H
        have c3b0 := decide_eq_true c3; clear c3; obtain ⟨ji4, hji4⟩ : ∃ j_ : Int, (wrap64 (8 * x8_1)) = j_ := ⟨_, rfl⟩; replace H : (if 0 ≤ (ji4) then (if x5_1.length < 140737488355328 then (wire_laid.l0 k1 a0 (x5_1 ++ [(shr .u64 a0 (ji4)) % 256]) a1 (wrap64 (x8_1 + 1))) else (none)) else (none)) = some r := by first | (rw [hji4] at H; exact H) | (simp only [hji4] at H ⊢; exact H)
        have hji4w : (IntKind.i64.wrap (8 * x8_1)) = ji4 := (i64_w _).trans hji4
        by_cases c5 : 0 ≤ (ji4)
        · rw [if_pos c5] at H
          have c5b0 := eq_true c5; have c5b1 := decide_eq_true c5; clear c5; obtain ⟨ji6, hji6⟩ : ∃ j_ : Int, (shr .u64 a0 (ji4)) = j_ := ⟨_, rfl⟩; replace H : (if x5_1.length < 140737488355328 then (wire_laid.l0 k1 a0 (x5_1 ++ [(ji6) % 256]) a1 (wrap64 (x8_1 + 1))) else (none)) = some r := by first | (rw [hji6] at H; exact H) | (simp only [hji6] at H ⊢; exact H)
          have hji6_ : (a0 / 2 ^ min (ji4).toNat 64) = ji6 := hji6; have hji6z : (ji4) ≤ 64 → (a0 / 2 ^ (ji4).toNat) = ji6 := shr_small hji6
          by_cases c7 : x5_1.length < 140737488355328
          · rw [if_pos c7] at H
            have LMc7 := mk0 c7; clear c7; obtain ⟨y101, hy101⟩ : ∃ y_ : List Int, y_ = (x5_1 ++ [(ji6) % 256]) := ⟨_, rfl⟩; replace H : (wire_laid.l0 k1 a0 y101 a1 (wrap64 (x8_1 + 1))) = some r := by first | (rw [hy101]; with_reducible exact H) | (have H2_ := (Option.bind_some _ _).symm.trans H; rw [hy101]; with_reducible exact H2_) | (have H2_ := (Option.bind_some _ _).symm.trans H; with_reducible exact H2_) | with_reducible exact H | (rw [hy101]; exact H) | exact H
            have Ny101 := mk0 hy101; clear hy101; have H' := mk0 H; clear H
            go_wp2_with (first | ((with_reducible refine gate_builtin (b := .append) (xs := #[.tmp 11, .tmp 17]) rfl ?_); at_builtin; refine Kd.R_append (Kd.int .u8) (w0 := w) w.heap.size rfl (.tmp 11) (.tmp 17) 98 5 (.int .u8 0) 1 rfl Tryz.underlying98 info5 rfl (by decide) (by omega) u5 x5_1 ((ji6) % 256) [.int .u8 ((ji6) % 256)] (fun _ => True) (fun _ => False) rfl rfl ?aP (fun _ hk => hk.elim) ?aF ?aO ?aB ?aS ?aL ?_; (case aP => exact rfl); (case aB => exact (hbA HB)); (case aF => exact (fun _ _ => trivial)); (case aO => exact (by (with_reducible repeat (first | apply Kd.R_alloc | apply Kd.R_drewN | apply Kd.R_drew)); exact HO_5.out)); (case aS => exact (below_size (hbA HB))); (case aL => have := LMc7.out; omega); intro v102 w8 ho hb hg hat; rw [← Ny101.out] at ho; replace HB := mk0 hb; have HO103 := mk0 ho; clear HO_5; clear ho hb hg hat))
            go_roundg k1
            case measure => have := HK1.out; omega
            case rel => exact ⟨(y101), (wrap64 (x8_1 + 1)), cl0, H', cl2 HK1, ⟨by (with_reducible repeat (first | apply Kd.R_alloc | apply Kd.R_drewN | apply Kd.R_drew)); exact HO103.out⟩, ⟨hbA HB⟩⟩
          · rw [if_neg c7] at H; exact ne0 H
        · rw [if_neg c5] at H; exact ne0 H
      · rw [if_neg c3] at H
        have c3b0 := decide_eq_false c3; clear c3; obtain rfl := Option.some.inj H; have hcv9 := own_string (P := Tryz.prog) Tryz.underlying98 Tryz.underlying5 Tryz.underlying9 (Kd.own_of_R HO_5.out)
        go_wp2
        go_ret
        exact ⟨cl3, hbA HB⟩
def wire_laid_s.f (a0 a1 : Int) : Option ByteArray := if 0 ≤ a0 ∧ a0 < 18446744073709551616 ∧ 0 ≤ a1 ∧ a1 ≤ 8 then some (laidStr a0.toNat a1.toNat) else none
theorem wire_laid_eval (v n : Nat) (hv : v < 18446744073709551616) (hn : n ≤ 8) (d : Nat) : ∀ (k i : Nat), n - i = d → i ≤ n → d < k →
    wire_laid.l0 k (v : Int) ((laidS v i).map Int.ofNat) (n : Int) (i : Int) = some (laidStr v n) := by
  induction d with
  | zero =>
    intro k i hd hi hk
    obtain ⟨k, rfl⟩ : ∃ m, k = m + 1 := ⟨k - 1, by omega⟩
    obtain rfl : i = n := by omega
    simp only [wire_laid.l0]
    rw [if_neg (by omega)]; rfl
  | succ d ih =>
    intro k i hd hi hk
    obtain ⟨k, rfl⟩ : ∃ m, k = m + 1 := ⟨k - 1, by omega⟩
    simp only [wire_laid.l0]
    have e0 : wrap64 (8 * (i : Int)) = ((8 * i : Nat) : Int) := by rw [wrap64_id (by omega) (by omega)]; omega
    have e1 : shr .u64 (v : Int) ((8 * i : Nat) : Int) % 256 = Int.ofNat (v / 256 ^ i % 256) := by
      show (v : Int) / 2 ^ min ((8 * i : Nat) : Int).toNat 64 % 256 = _
      have hp : (256 : Nat) ^ i = 2 ^ (8 * i) := by rw [Nat.pow_mul]
      rw [Int.toNat_natCast, Nat.min_eq_left (by omega), hp]
      simp
    rw [if_pos (by omega), if_pos (by rw [e0]; omega), if_pos (by simp [laidS_length]; omega), e0, e1, wrap64_id (by omega) (by omega)]
    have := ih k (i + 1) (by omega) (by omega) (by omega)
    rw [laidS_succ, List.map_append] at this
    exact this
theorem wire_laid_s.ev (a0 a1 : Int) (r) (h : wire_laid_s.f a0 a1 = some r) : ∃ k, wire_laid.f k a0 a1 = some r := by
  unfold wire_laid_s.f at h
  split at h
  · rename_i hr
    obtain ⟨v, rfl⟩ := Int.eq_ofNat_of_zero_le hr.1
    obtain ⟨n, rfl⟩ := Int.eq_ofNat_of_zero_le hr.2.2.1
    exact ⟨n + 1, (wire_laid_eval v n (by omega) (by omega) n (n + 1) 0 (by omega) (by omega) (by omega)).trans h⟩
  · cases h
set_option maxHeartbeats 1000000 in
theorem wire_laid_s.calls (a0 : Int) (a1 : Int) (r : ByteArray) (w : World) (h : wire_laid_s.f a0 a1 = some r) :
    Calls Tryz.prog 65 #[.int .u64 a0, .int .i64 a1] w fun e w' => e = .returned (.string r) ∧ Below w.heap.size w w' := by
  obtain ⟨k, hk⟩ := wire_laid_s.ev a0 a1 _ h
  exact wire_laid.calls k a0 a1 r w hk
def wire_Field_Bytes.j0 : Nat → Bool → Int → Int → Int → ByteArray → Option (ByteArray)
 | 0, _, _, _, _, _ => none
 | k + 1, x21, x102000, x102001, x102002, x102003 => if x21 = true then (some (⟨#[]⟩ : ByteArray)) else ((varint_Put.f (Go.bits .or .u64 (IntKind.u64.wrap ((IntKind.u64.wrap (x102000)) * 8)) (IntKind.u64.wrap (x102001)))).bind fun t103 => (if x102001 = 0 then ((varint_Put.f x102002).bind fun t104 => (if t103.size + t104.size ≤ 9223372036854775807 then (some (t103 ++ t104)) else (none))) else (if x102001 = 2 then ((varint_Put.f (IntKind.u64.wrap ((x102003.size : Int)))).bind fun t105 => (if t103.size + t105.size ≤ 9223372036854775807 then (if (t103 ++ t105).size + x102003.size ≤ 9223372036854775807 then (some ((t103 ++ t105) ++ x102003)) else (none)) else (none))) else (if x102001 = 1 then ((wire_laid_s.f x102002 8).bind fun t106 => (if t103.size + t106.size ≤ 9223372036854775807 then (some (t103 ++ t106)) else (none))) else (if x102002 > 4294967295 then (some (⟨#[]⟩ : ByteArray)) else ((wire_laid_s.f x102002 4).bind fun t107 => (if t103.size + t107.size ≤ 9223372036854775807 then (some (t103 ++ t107)) else (none))))))))
def wire_Field_Bytes.f (k : Nat) (a0_0 : Int) (a0_1 : Int) (a0_2 : Int) (a0_3 : ByteArray) : Option (ByteArray) := if a0_0 < 0 then (wire_Field_Bytes.j0 k true a0_0 a0_1 a0_2 a0_3) else (if a0_1 < 0 then (wire_Field_Bytes.j0 k true a0_0 a0_1 a0_2 a0_3) else ((wire_may.f (IntKind.u64.wrap (a0_0)) (IntKind.u64.wrap (a0_1))).bind fun t102 => (wire_Field_Bytes.j0 k (!t102) a0_0 a0_1 a0_2 a0_3)))
def wire_Field_Bytes.T8 : Bool × List (List Nat × List Nat) := (true, [([], []), ([], []), ([1], [1]), ([2], [2]), ([3], [3]), ([4], [4]), ([0, 5], [0, 5]), ([], []), ([7], [7]), ([6, 8], [6, 8]), ([9, 5, 0, 1, 2, 3, 4, 5, 6, 7, 8, 9], [9])])
def wire_Field_Bytes.B8 : List Nat := [0, 0, 2, 6, 14, 30, 63, 0, 128, 511, 1023]
theorem wire_Field_Bytes.tab8 : rtab .any (opsOf Tryz.f44 8) = wire_Field_Bytes.T8 := by kernel_rfl
theorem wire_Field_Bytes.bits8 : waitsOk wire_Field_Bytes.T8.2 wire_Field_Bytes.B8 = true := by kernel_rfl
set_option maxHeartbeats 8000000 in
set_option maxRecDepth 100000 in
theorem wire_Field_Bytes.calls (k : Nat) (a0_0 : Int) (a0_1 : Int) (a0_2 : Int) (a0_3 : ByteArray) (r : ByteArray) (w : World) (h : wire_Field_Bytes.f k a0_0 a0_1 a0_2 a0_3 = some r) :
  Calls Tryz.prog 44 #[.agg #[.int .i64 a0_0, .int .i64 a0_1, .int .u64 a0_2, .string a0_3]] w fun e w' => e = .returned (.string r) ∧ Below w.heap.size w w' := by
 have hu75 := Tryz.underlying75; have HB := mk0 (Below.refl w.heap.size w); have H : (if a0_0 < 0 then (wire_Field_Bytes.j0 k true a0_0 a0_1 a0_2 a0_3) else (if a0_1 < 0 then (wire_Field_Bytes.j0 k true a0_0 a0_1 a0_2 a0_3) else ((wire_may.f (IntKind.u64.wrap (a0_0)) (IntKind.u64.wrap (a0_1))).bind fun t102 => (wire_Field_Bytes.j0 k (!t102) a0_0 a0_1 a0_2 a0_3)))) = some r := h; clear h; have HC2 := mk0 H; clear H
 go_enter Tryz.func44, Tryz.ntmps44
 go_upto_region 1 with (first | ((with_reducible refine gate_dst (N := 1) rfl ?_); refine boxE (N := 1) (cs := #[.int .i64 a0_0, .int .i64 a0_1, .int .u64 a0_2, .string a0_3]) (t := 75) ?_; intro gb101 hg w3 hbox hb; have BK101 := mk0 hbox; have GW101 := gwS HB hg; have GE101 := gwS HB hg; replace HB := hbS HB hb; clear hb hbox hg))
 (try simp only [Act.put, List.setIfInBounds_toArray, List.set_cons_zero, List.set_cons_succ])
 go_cut [21] (fun v21 wc => ∃ (kq : Nat) (x21_1 : Bool), v21 = .bool x21_1 ∧ Aside0 (wire_Field_Bytes.j0 kq x21_1 a0_0 a0_1 a0_2 a0_3 = some r) ∧ Aside0 (kq ≤ k) ∧ Aside0 (wc.heap[gb101]? = some (.cells #[.int .i64 a0_0, .int .i64 a0_1, .int .u64 a0_2, .string a0_3] 75 (0, 0))) ∧ Aside0 (Below w.heap.size w wc))
 case first =>
  have H := HC2.out; clear HC2
  by_cases c4 : a0_0 < 0
  ·
   rw [if_pos c4] at H; have c4b0 := decide_eq_true c4; clear c4
   (first | rw [c4b0] | (simp only [i64_w, i32_w]; rw [c4b0]) | skip)
   have H' := mk0 H; clear H; obtain ⟨hcz5_0, hcz5_1, hcz5_2, hcz5_3⟩ := cz4 BK101
   go_wp2
   go_meet
   case rel => exact ⟨_, (true), cl0, H', cl1, ⟨bkA BK101⟩, ⟨hbA HB⟩⟩
  ·
   rw [if_neg c4] at H; have c4b0 := decide_eq_false c4; clear c4
   (first | rw [c4b0] | (simp only [i64_w, i32_w]; rw [c4b0]) | skip)
   by_cases c6 : a0_1 < 0
   ·
    rw [if_pos c6] at H; have c6b0 := decide_eq_true c6; clear c6; have H' := mk0 H; clear H; obtain ⟨hcz7_0, hcz7_1, hcz7_2, hcz7_3⟩ := cz4 BK101
    go_wp2
    go_meet
    case rel => exact ⟨_, (true), cl0, H', cl1, ⟨bkA BK101⟩, ⟨hbA HB⟩⟩
   ·
    rw [if_neg c6] at H; have c6b0 := decide_eq_false c6; clear c6; replace H := bnd H; obtain ⟨t102, A8, H⟩ := H; have H' := mk0 H; clear H; obtain ⟨hcz9_0, hcz9_1, hcz9_2, hcz9_3⟩ := cz4 BK101
    go_wp2_with (first | (go_at_call 63; (with_reducible refine (wire_may.calls (IntKind.u64.wrap (a0_0)) (IntKind.u64.wrap (a0_1)) t102 _ A8.out).mono ?_); rintro e w' ⟨rfl, ⟨nd, rfl⟩⟩))
    go_meet
    case rel => exact ⟨_, (!t102), cl0, H', cl1, ⟨bkA BK101⟩, ⟨hbA HB⟩⟩
 case rest =>
  clear HC2; obtain ⟨kq, x21_1, rfl, HA, HJ1, BK101, HB⟩ := hcut
  cases kq with
  | zero => exact absurd HA.out (by simp [wire_Field_Bytes.j0])
  | succ kj1 =>
   have H := HA.out; clear HA
   simp only [wire_Field_Bytes.j0] at H
   by_cases c10 : x21_1 = true
   ·
    subst c10; have H1 : (some (⟨#[]⟩ : ByteArray)) = some r := by rw [if_pos rfl] at H; exact H
    clear H; have H := H1; clear H1; obtain rfl := Option.some.inj H
    go_wp2
    go_ret
    exact ⟨cl3, hbA HB⟩
   ·
    replace c10 := Bool.eq_false_iff.mpr c10; subst c10; have H1 : ((varint_Put.f (Go.bits .or .u64 (IntKind.u64.wrap ((IntKind.u64.wrap (a0_0)) * 8)) (IntKind.u64.wrap (a0_1)))).bind fun t103 => (if a0_1 = 0 then ((varint_Put.f a0_2).bind fun t104 => (if t103.size + t104.size ≤ 9223372036854775807 then (some (t103 ++ t104)) else (none))) else (if a0_1 = 2 then ((varint_Put.f (IntKind.u64.wrap ((a0_3.size : Int)))).bind fun t105 => (if t103.size + t105.size ≤ 9223372036854775807 then (if (t103 ++ t105).size + a0_3.size ≤ 9223372036854775807 then (some ((t103 ++ t105) ++ a0_3)) else (none)) else (none))) else (if a0_1 = 1 then ((wire_laid_s.f a0_2 8).bind fun t106 => (if t103.size + t106.size ≤ 9223372036854775807 then (some (t103 ++ t106)) else (none))) else (if a0_2 > 4294967295 then (some (⟨#[]⟩ : ByteArray)) else ((wire_laid_s.f a0_2 4).bind fun t107 => (if t103.size + t107.size ≤ 9223372036854775807 then (some (t103 ++ t107)) else (none)))))))) = some r := by rw [if_neg (show ¬ (false = true) by decide)] at H; exact H
    clear H; have H := H1; clear H1; replace H := bnd H; obtain ⟨t103, A11, H⟩ := H
    by_cases c12 : a0_1 = 0
    ·
     rw [if_pos c12] at H; have c12b0 := beq_iff_eq.mpr c12; have c12b1 := bne_eq_false_iff_eq.mpr c12; clear c12; replace H := bnd H; obtain ⟨t104, A13, H⟩ := H; replace H := ifS H; obtain ⟨c14, H⟩ := H; have c14b0 := eq_true c14; have c14b1 := decide_eq_true c14; try have c14b2 := eq_false (Nat.not_lt.2 c14)
     try have c14b3 := c14b2
     try simp only [ByteArray.size_append] at c14b3
     obtain rfl := Option.some.inj H; obtain ⟨hcz15_0, hcz15_1, hcz15_2, hcz15_3⟩ := cz4 BK101
     go_wp2_with (first | ((with_reducible refine gate_callee (f := 64) rfl ?_); refine glE (some 30) rfl rfl Tryz.func64 (by kernel_rfl) rfl #[.int .u64 (Go.bits .or .u64 (IntKind.u64.wrap ((IntKind.u64.wrap (a0_0)) * 8)) (IntKind.u64.wrap (a0_1)))] rfl ?_; (with_reducible refine (varint_Put.calls (Go.bits .or .u64 (IntKind.u64.wrap ((IntKind.u64.wrap (a0_0)) * 8)) (IntKind.u64.wrap (a0_1))) t103 _ A11.out).mono ?_); rintro e w16 ⟨rfl, hb⟩; refine ⟨_, rfl, ?_⟩; replace BK101 := bkS BK101 hb; replace HB := hbS HB hb; (try clear hb); obtain ⟨hcz17_0, hcz17_1, hcz17_2, hcz17_3⟩ := cz4 BK101) | ((with_reducible refine gate_callee (f := 64) rfl ?_); refine glE (some 38) rfl rfl Tryz.func64 (by kernel_rfl) rfl #[.int .u64 a0_2] rfl ?_; (with_reducible refine (varint_Put.calls a0_2 t104 _ A13.out).mono ?_); rintro e w18 ⟨rfl, hb⟩; refine ⟨_, rfl, ?_⟩; replace BK101 := bkS BK101 hb; replace HB := hbS HB hb; (try clear hb)))
     go_ret
     exact ⟨cl3, hbA HB⟩
    ·
     rw [if_neg c12] at H; have c12b0 := beq_eq_false_iff_ne.mpr c12; have c12b1 := bne_iff_ne.mpr c12
     by_cases c19 : a0_1 = 2
     ·
      rw [if_pos c19] at H; have c19b0 := beq_iff_eq.mpr c19; have c19b1 := bne_eq_false_iff_eq.mpr c19; clear c19; replace H := bnd H; obtain ⟨t105, A20, H⟩ := H; replace H := ifS H; obtain ⟨c21, H⟩ := H; have c21b0 := eq_true c21; have c21b1 := decide_eq_true c21; try have c21b2 := eq_false (Nat.not_lt.2 c21)
      try have c21b3 := c21b2
      try simp only [ByteArray.size_append] at c21b3
      replace H := ifS H; obtain ⟨c22, H⟩ := H; have c22b0 := eq_true c22; have c22b1 := decide_eq_true c22; try have c22b2 := eq_false (Nat.not_lt.2 c22)
      try have c22b3 := c22b2
      try simp only [ByteArray.size_append] at c22b3
      obtain rfl := Option.some.inj H; obtain ⟨hcz23_0, hcz23_1, hcz23_2, hcz23_3⟩ := cz4 BK101
      try go_wp2_with (first | ((with_reducible refine gate_callee (f := 64) rfl ?_); refine glE (some 30) rfl rfl Tryz.func64 (by kernel_rfl) rfl #[.int .u64 (Go.bits .or .u64 (IntKind.u64.wrap ((IntKind.u64.wrap (a0_0)) * 8)) (IntKind.u64.wrap (a0_1)))] rfl ?_; (with_reducible refine (varint_Put.calls (Go.bits .or .u64 (IntKind.u64.wrap ((IntKind.u64.wrap (a0_0)) * 8)) (IntKind.u64.wrap (a0_1))) t103 _ A11.out).mono ?_); rintro e w24 ⟨rfl, hb⟩; refine ⟨_, rfl, ?_⟩; replace BK101 := bkS BK101 hb; replace HB := hbS HB hb; (try clear hb); obtain ⟨hcz25_0, hcz25_1, hcz25_2, hcz25_3⟩ := cz4 BK101; have hfz25_3 := blk_frozen BK101.out 3)); replace BK101 := mk0 (blk_drew BK101.out); replace HB := mk0 (below_drew1 HB.out)
      refine start_ (n := 11) (S := fun w' => w'.cell? ⟨gb101, 0, none⟩ = some (.int .i64 a0_0) ∧ w'.cell? ⟨gb101, 1, none⟩ = some (.int .i64 a0_1) ∧ w'.cell? ⟨gb101, 2, none⟩ = some (.int .u64 a0_2) ∧ w'.cell? ⟨gb101, 3, none⟩ = some (.string a0_3)) (ds := []) (bA 11 0) (by kernel_rfl) rfl rfl ⟨bcA BK101 0, bcA BK101 1, bcA BK101 2, bcA BK101 3⟩ (fun hHeld => ?_); refine with_tabW wire_Field_Bytes.tab8 wire_Field_Bytes.bits8 (fun HT_ HW_ => ?_)
      generalize w24.drew = w26 at BK101 HB hHeld ⊢
      refine puE (i := 0) (N := some 42) (bA 11 1) HT_ ?_
      refine puE (i := 1) (N := some 43) (bA 11 3) HT_ ?_
      refine puE (i := 7) (N := some 49) (bA 11 131) HT_ ?_
      refine taE (i := 2) (N := some 44) (bA 11 135) HT_ HW_ hHeld ?_
      refine puE (i := 3) (N := some 45) (bA 11 143) HT_ ?_
      refine puE (i := 4) (N := some 46) (bA 11 159) HT_ ?_
      refine taE (i := 8) (N := some 50) (bA 11 415) HT_ HW_ hHeld ?_
      refine one_ (i := 5) (N := some 47) (bA 11 447) rfl rfl (one_of HT_.out (by kernel_rfl)) (by decide) (fun K hK => ?_)
      refine goE Tryz.func64 (by kernel_rfl) rfl #[.int .u64 (IntKind.u64.wrap ((a0_3.size : Int)))] (by rfl) rfl rfl ?_
      with_reducible refine (varint_Put.calls (IntKind.u64.wrap ((a0_3.size : Int))) t105 _ A20.out).mono ?_
      rintro e w27 ⟨rfl, hb⟩
      refine ⟨_, rfl, ?_⟩
      replace BK101 := bkS BK101 hb; replace HB := hbS HB hb; try clear hb
      refine hK.out _ _ ⟨bcA BK101 0, bcA BK101 1, bcA BK101 2, bcA BK101 3⟩ (fun hHeld => ?_)
      clear hK K
      refine noE 47 ?_
      refine puE (i := 6) (N := some 48) (bA 11 511) HT_ ?_
      refine puE (i := 9) (N := some 51) (bA 11 1023) HT_ ?_
      refine puE (i := 10) (N := some 2) (bA 11 2047) HT_ ?_
      refine done_ (done_of HT_.out (by kernel_rfl)) ?_
      try go_wp2
      go_ret
      exact ⟨cl3, hbA HB⟩
     ·
      rw [if_neg c19] at H; have c19b0 := beq_eq_false_iff_ne.mpr c19; have c19b1 := bne_iff_ne.mpr c19
      by_cases c28 : a0_1 = 1
      ·
       rw [if_pos c28] at H; have c28b0 := beq_iff_eq.mpr c28; have c28b1 := bne_eq_false_iff_eq.mpr c28; clear c28; replace H := bnd H; obtain ⟨t106, A29, H⟩ := H; replace H := ifS H; obtain ⟨c30, H⟩ := H; have c30b0 := eq_true c30; have c30b1 := decide_eq_true c30; try have c30b2 := eq_false (Nat.not_lt.2 c30)
       try have c30b3 := c30b2
       try simp only [ByteArray.size_append] at c30b3
       obtain rfl := Option.some.inj H; obtain ⟨hcz31_0, hcz31_1, hcz31_2, hcz31_3⟩ := cz4 BK101
       go_wp2_with (first | ((with_reducible refine gate_callee (f := 64) rfl ?_); refine glE (some 30) rfl rfl Tryz.func64 (by kernel_rfl) rfl #[.int .u64 (Go.bits .or .u64 (IntKind.u64.wrap ((IntKind.u64.wrap (a0_0)) * 8)) (IntKind.u64.wrap (a0_1)))] rfl ?_; (with_reducible refine (varint_Put.calls (Go.bits .or .u64 (IntKind.u64.wrap ((IntKind.u64.wrap (a0_0)) * 8)) (IntKind.u64.wrap (a0_1))) t103 _ A11.out).mono ?_); rintro e w32 ⟨rfl, hb⟩; refine ⟨_, rfl, ?_⟩; replace BK101 := bkS BK101 hb; replace HB := hbS HB hb; (try clear hb); obtain ⟨hcz33_0, hcz33_1, hcz33_2, hcz33_3⟩ := cz4 BK101) | ((with_reducible refine gate_callee (f := 65) rfl ?_); refine glE (some 57) rfl rfl Tryz.func65 (by kernel_rfl) rfl #[.int .u64 a0_2, .int .i64 8] rfl ?_; (with_reducible refine (wire_laid_s.calls a0_2 8 t106 _ A29.out).mono ?_); rintro e w34 ⟨rfl, hb⟩; refine ⟨_, rfl, ?_⟩; replace BK101 := bkS BK101 hb; replace HB := hbS HB hb; (try clear hb)))
       go_ret
       exact ⟨cl3, hbA HB⟩
      ·
       rw [if_neg c28] at H; have c28b0 := beq_eq_false_iff_ne.mpr c28; have c28b1 := bne_iff_ne.mpr c28
       by_cases c35 : a0_2 > 4294967295
       ·
        rw [if_pos c35] at H; have c35b0 := decide_eq_true c35; clear c35; obtain rfl := Option.some.inj H; obtain ⟨hcz36_0, hcz36_1, hcz36_2, hcz36_3⟩ := cz4 BK101
        go_wp2_with (first | ((with_reducible refine gate_callee (f := 64) rfl ?_); refine glE (some 30) rfl rfl Tryz.func64 (by kernel_rfl) rfl #[.int .u64 (Go.bits .or .u64 (IntKind.u64.wrap ((IntKind.u64.wrap (a0_0)) * 8)) (IntKind.u64.wrap (a0_1)))] rfl ?_; (with_reducible refine (varint_Put.calls (Go.bits .or .u64 (IntKind.u64.wrap ((IntKind.u64.wrap (a0_0)) * 8)) (IntKind.u64.wrap (a0_1))) t103 _ A11.out).mono ?_); rintro e w37 ⟨rfl, hb⟩; refine ⟨_, rfl, ?_⟩; replace BK101 := bkS BK101 hb; replace HB := hbS HB hb; (try clear hb); obtain ⟨hcz38_0, hcz38_1, hcz38_2, hcz38_3⟩ := cz4 BK101; have hfz38_3 := blk_frozen BK101.out 3))
        go_ret
        exact ⟨cl3, hbA HB⟩
       ·
        rw [if_neg c35] at H; have c35b0 := decide_eq_false c35; clear c35; replace H := bnd H; obtain ⟨t107, A39, H⟩ := H; replace H := ifS H; obtain ⟨c40, H⟩ := H; have c40b0 := eq_true c40; have c40b1 := decide_eq_true c40; try have c40b2 := eq_false (Nat.not_lt.2 c40)
        try have c40b3 := c40b2
        try simp only [ByteArray.size_append] at c40b3
        obtain rfl := Option.some.inj H; obtain ⟨hcz41_0, hcz41_1, hcz41_2, hcz41_3⟩ := cz4 BK101
        go_wp2_with (first | ((with_reducible refine gate_callee (f := 64) rfl ?_); refine glE (some 30) rfl rfl Tryz.func64 (by kernel_rfl) rfl #[.int .u64 (Go.bits .or .u64 (IntKind.u64.wrap ((IntKind.u64.wrap (a0_0)) * 8)) (IntKind.u64.wrap (a0_1)))] rfl ?_; (with_reducible refine (varint_Put.calls (Go.bits .or .u64 (IntKind.u64.wrap ((IntKind.u64.wrap (a0_0)) * 8)) (IntKind.u64.wrap (a0_1))) t103 _ A11.out).mono ?_); rintro e w42 ⟨rfl, hb⟩; refine ⟨_, rfl, ?_⟩; replace BK101 := bkS BK101 hb; replace HB := hbS HB hb; (try clear hb); obtain ⟨hcz43_0, hcz43_1, hcz43_2, hcz43_3⟩ := cz4 BK101) | ((with_reducible refine gate_callee (f := 65) rfl ?_); refine glE (some 65) rfl rfl Tryz.func65 (by kernel_rfl) rfl #[.int .u64 a0_2, .int .i64 4] rfl ?_; (with_reducible refine (wire_laid_s.calls a0_2 4 t107 _ A39.out).mono ?_); rintro e w44 ⟨rfl, hb⟩; refine ⟨_, rfl, ?_⟩; replace BK101 := bkS BK101 hb; replace HB := hbS HB hb; (try clear hb)))
        go_ret
        exact ⟨cl3, hbA HB⟩
end Go.Proofs.YthidedmnmdlfkaaGreat.X
