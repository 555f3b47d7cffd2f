import Derived.Test.YtdemgfbolcmcdaaMOpsTell2
import Derived.Test.YtdemgfbolcmcdaaMOpsTell14
import Derived.Test.YtdemgfbolcmcdaaMOpsTell3
import Derived.Test.YtdemgfbolcmcdaaMOpsTell11
namespace Go.Proofs.Ytdemgfbolcmcdaa.X
open Go.RowKit Go.Proofs.YtdemgfbolcmcdaaW.PrintWords Go.Proofs.YtdemgfbolcmcdaaW.PrintLast Go.Proofs.YtdemgfbolcmcdaaW.PrintMore
attribute [local go_sem] max2_int min2_int max_two min_two max_three min_three max_four min_four
set_option linter.unusedVariables false
set_option linter.unusedSimpArgs false
def agateref13_Rows.j0 : Nat → ByteArray → Int → Bool → Option (List Int)
 | 0, _, _, _ => none
 | k + 1, x0, x1, x32 => if x32 = true then (some (([1] : List Int))) else (if x0.toList = ([83, 108, 105, 99, 101] : List UInt8) then (if x1 > 9 then (some (([1, 2, 3] : List Int))) else (some ([] : List Int))) else (some ([] : List Int)))
def agateref13_Rows.f (k : Nat) (a0 : ByteArray) (a1 : Int) : Option (List Int) := (agateref13_Find.f k a0 a1).bind fun bt101 => (if bt101.2.2.2.2.2.2 = true then (if a0.toList = ([82, 101, 115, 104, 97, 112, 101] : List UInt8) then (agateref13_Rows.j0 k a0 a1 true) else (if a1 = 13 then (if a0.toList = ([83, 113, 117, 101, 101, 122, 101] : List UInt8) then (agateref13_Rows.j0 k a0 a1 true) else (if a0.toList = ([85, 110, 115, 113, 117, 101, 101, 122, 101] : List UInt8) then (agateref13_Rows.j0 k a0 a1 true) else (agateref13_Rows.j0 k a0 a1 (a0.toList == ([82, 101, 100, 117, 99, 101, 83, 117, 109] : List UInt8))))) else (agateref13_Rows.j0 k a0 a1 false))) else (some ([] : List Int)))
theorem agateref13_Rows.mono_l : ∀ k, (∀ y0 y1 y2, LeO (agateref13_Rows.j0 k y0 y1 y2) (agateref13_Rows.j0 (k + 1) y0 y1 y2))
 | 0 => fun _ _ _ r h => by simp [agateref13_Rows.j0] at h
 | k + 1 => by
  have ih0 := agateref13_Rows.mono_l k
  ·
   intro y0 y1 y2
   unfold agateref13_Rows.j0
   repeat' first
   | (with_reducible exact ih0 _ _ _)
   | (with_reducible exact agateref13_Find.mono _ _ _)
   | (with_reducible exact LeO.refl _)
   | (with_reducible exact LeO.none _)
   | (with_reducible refine LeO.ite ?_ ?_)
   | (with_reducible refine LeO.bind ?_ (fun _ => ?_))
   | exact ih0 _ _ _
   | exact agateref13_Find.mono _ _ _
   | exact LeO.none _
   | refine LeO.ite ?_ ?_
   | refine LeO.bind ?_ (fun _ => ?_)
theorem agateref13_Rows.mono : ∀ a0 a1 k, LeO (agateref13_Rows.f k a0 a1) (agateref13_Rows.f (k + 1) a0 a1) := by
 intro a0 a1 k
 have ih0 := agateref13_Rows.mono_l k
 unfold agateref13_Rows.f
 repeat' first
   | (with_reducible exact ih0 _ _ _)
   | (with_reducible exact agateref13_Find.mono _ _ _)
   | (with_reducible exact LeO.refl _)
   | (with_reducible exact LeO.none _)
   | (with_reducible refine LeO.ite ?_ ?_)
   | (with_reducible refine LeO.bind ?_ (fun _ => ?_))
   | exact ih0 _ _ _
   | exact agateref13_Find.mono _ _ _
   | exact LeO.none _
   | refine LeO.ite ?_ ?_
   | refine LeO.bind ?_ (fun _ => ?_)
set_option maxHeartbeats 8000000 in
set_option maxRecDepth 100000 in
theorem agateref13_Rows.calls (k : Nat) (a0 : ByteArray) (a1 : Int) (r : List Int) (w : World) (h : agateref13_Rows.f k a0 a1 = some r) :
  Calls Try.prog 34 #[.string a0, .int .i64 a1] w fun e w' => ∃ v0_ : Value, e = .returned (v0_) ∧ Kd.R (Kd.int .i64) 3 w' w.heap.size (fun _ => True) v0_ r ∧ Below w.heap.size w w' := by
 have hu72 := Try.underlying72
 have HB := Aside0.mk (Below.refl w.heap.size w)
 have H : ((agateref13_Find.f k a0 a1).bind fun bt101 => (if bt101.2.2.2.2.2.2 = true then (if a0.toList = ([82, 101, 115, 104, 97, 112, 101] : List UInt8) then (agateref13_Rows.j0 k a0 a1 true) else (if a1 = 13 then (if a0.toList = ([83, 113, 117, 101, 101, 122, 101] : List UInt8) then (agateref13_Rows.j0 k a0 a1 true) else (if a0.toList = ([85, 110, 115, 113, 117, 101, 101, 122, 101] : List UInt8) then (agateref13_Rows.j0 k a0 a1 true) else (agateref13_Rows.j0 k a0 a1 (a0.toList == ([82, 101, 100, 117, 99, 101, 83, 117, 109] : List UInt8))))) else (agateref13_Rows.j0 k a0 a1 false))) else (some ([] : List Int)))) = some r := h
 clear h
 replace H := Option.bind_eq_some_iff.mp H
 obtain ⟨⟨t101, t102, t103, t104, t105, t106, t109⟩, A30, H⟩ := H
 replace H : (if t109 = true then (if a0.toList = ([82, 101, 115, 104, 97, 112, 101] : List UInt8) then (agateref13_Rows.j0 k a0 a1 true) else (if a1 = 13 then (if a0.toList = ([83, 113, 117, 101, 101, 122, 101] : List UInt8) then (agateref13_Rows.j0 k a0 a1 true) else (if a0.toList = ([85, 110, 115, 113, 117, 101, 101, 122, 101] : List UInt8) then (agateref13_Rows.j0 k a0 a1 true) else (agateref13_Rows.j0 k a0 a1 (a0.toList == ([82, 101, 100, 117, 99, 101, 83, 117, 109] : List UInt8))))) else (agateref13_Rows.j0 k a0 a1 false))) else (some ([] : List Int))) = some r := H
 have A3 := Aside0.mk A30
 clear A30
 by_cases c4 : t109 = true
 ·
  subst c4
  have H1 : (if a0.toList = ([82, 101, 115, 104, 97, 112, 101] : List UInt8) then (agateref13_Rows.j0 k a0 a1 true) else (if a1 = 13 then (if a0.toList = ([83, 113, 117, 101, 101, 122, 101] : List UInt8) then (agateref13_Rows.j0 k a0 a1 true) else (if a0.toList = ([85, 110, 115, 113, 117, 101, 101, 122, 101] : List UInt8) then (agateref13_Rows.j0 k a0 a1 true) else (agateref13_Rows.j0 k a0 a1 (a0.toList == ([82, 101, 100, 117, 99, 101, 83, 117, 109] : List UInt8))))) else (agateref13_Rows.j0 k a0 a1 false))) = some r := by rw [if_pos rfl] at H; exact H
  clear H
  have H := H1
  clear H1
  have HC5 := Aside0.mk H
  clear H
  go_enter Try.func34, Try.ntmps34
  go_upto_region 4 with (first | ((with_reducible refine gate_callee (f := 25) rfl ?_); refine goesL_ (some 10) rfl rfl Try.func25 (by kernel_rfl) rfl #[.string a0, .int .i64 a1] rfl (by (try simp only [List.map_toArray, List.map_cons, List.map_nil]); first | done | rfl | (simp only [List.length_drop, List.length_take]; rfl)) ?_; (with_reducible refine (agateref13_Find.calls k a0 a1 t101 t102 t103 t104 t105 t106 true _ A3.out).mono ?_); rintro e w6 ⟨v107, rfl, ho0, hb⟩; refine ⟨_, rfl, ?_⟩; have n0_ := Aside0.mk (Kd.V_lower (Kd.V_mono (ok' := fun k_ => True) ho0 (fun k_ hk_ => trivial)) (below_size (hbA HB))); have n1_ := Aside0.mk (below_step (hbA HB) hb); clear HB; have HO108 := n0_; have HB := n1_; clear n0_ n1_; (try clear hb); (try clear hb2); (try clear hk); (try clear hi); (try clear ho0)) | ((with_reducible refine gate_dst (N := 5) rfl ?_); refine box_event ?hg (N := 5) ?hd (cs := #[.string (⟨#[]⟩ : ByteArray), .int .i64 0, .int .i64 0, .int .i64 0, .int .i64 0, .slice none 0 0]) (t := 72) ?hr ?_; (case hd => rfl); (case hg => rfl); (case hr => first | (go_simp; done) | (go_simp; rfl)); intro gb110 hg w7 hbox hb; have n0_ := Aside0.mk (Kd.V_below (Kd.V_elderB (by (with_reducible repeat (first | apply Kd.V_alloc | apply Kd.V_drewN | apply Kd.V_drew)); exact HO108.out) gb110 (Nat.le_of_eq hg.symm)) hb); have n1_ := Aside0.mk (below_step (hbA HB) hb); have n2_ := Aside0.mk (hbox); have n3_ := Aside0.mk ((by rw [hg]; exact (below_size (hbA HB)) : w.heap.size ≤ gb110)); have n4_ := Aside0.mk ((by rw [hg]; exact (below_size (hbA HB)) : w.heap.size ≤ gb110)); clear HO108; clear HB; have HO108 := n0_; have HB := n1_; have BK110 := n2_; have GW110 := n3_; have GE110 := n4_; clear n0_ n1_ n2_ n3_ n4_; clear hb hbox hg; have hcz8_0 : w7.cell? ⟨gb110, 0, none⟩ = some (.string (⟨#[]⟩ : ByteArray)) := bcA BK110 0; have hcz8_1 : w7.cell? ⟨gb110, 1, none⟩ = some (.int .i64 0) := bcA BK110 1; have hcz8_2 : w7.cell? ⟨gb110, 2, none⟩ = some (.int .i64 0) := bcA BK110 2; have hcz8_3 : w7.cell? ⟨gb110, 3, none⟩ = some (.int .i64 0) := bcA BK110 3; have hcz8_4 : w7.cell? ⟨gb110, 4, none⟩ = some (.int .i64 0) := bcA BK110 4; have hcz8_5 : w7.cell? ⟨gb110, 5, none⟩ = some (.slice none 0 0) := bcA BK110 5; have hfz8_0 := blk_frozen BK110.out 0; have hfz8_1 := blk_frozen BK110.out 1; have hfz8_2 := blk_frozen BK110.out 2; have hfz8_3 := blk_frozen BK110.out 3; have hfz8_4 := blk_frozen BK110.out 4; have hfz8_5 := blk_frozen BK110.out 5; obtain ⟨Ao9, co9, eo9⟩ := Kd.V_slice HO108.out; subst eo9))
  (try simp only [Act.put, List.setIfInBounds_toArray, List.set_cons_zero, List.set_cons_succ])
  go_cut [32] (fun v32 wc => ∃ (kq : Nat) (x32_4 : Bool), v32 = .bool x32_4 ∧ Aside0 (agateref13_Rows.j0 kq a0 a1 x32_4 = some r) ∧ Aside0 (kq ≤ k) ∧ Aside0 (Kd.V k91 91 wc w.heap.size (fun k_ => k_ ≠ gb110) (.slice Ao9 t106.length co9) t106) ∧ Aside0 (wc.heap[gb110]? = some (.cells #[.string t101, .int .i64 t102, .int .i64 t103, .int .i64 t104, .int .i64 t105, (.slice Ao9 t106.length co9)] 72 (0, 0))) ∧ Aside0 (Below w.heap.size w wc))
  case first =>
   have H := HC5.out; clear HC5
   by_cases c10 : a0.toList = ([82, 101, 115, 104, 97, 112, 101] : List UInt8)
   ·
    rw [if_pos c10] at H
    have c10b0 : (a0.toList == ([82, 101, 115, 104, 97, 112, 101] : List UInt8)) = true := beq_iff_eq.mpr c10
    have c10b1 : (a0.toList != ([82, 101, 115, 104, 97, 112, 101] : List UInt8)) = false := bne_eq_false_iff_eq.mpr c10
    clear c10
    (first | rw [c10b0] | (simp only [i64_w, i32_w]; rw [c10b0]) | skip)
    have H' := Aside0.mk H
    clear H
    go_wp2
    go_meet
    case rel => exact ⟨_, (true), (by first | rfl | (simp; done) | (simp [*]; done)), H', ⟨by first | omega | exact Nat.le_refl _⟩, ⟨by (with_reducible repeat (first | apply Kd.V_alloc | apply Kd.V_drewN | apply Kd.V_drew)); exact Kd.V_mono (Kd.V_far (p := ⟨gb110, 5, none⟩) (Kd.V_far (p := ⟨gb110, 4, none⟩) (Kd.V_far (p := ⟨gb110, 3, none⟩) (Kd.V_far (p := ⟨gb110, 2, none⟩) (Kd.V_far (p := ⟨gb110, 1, none⟩) (Kd.V_far (p := ⟨gb110, 0, none⟩) (Kd.V_mono HO108.out (fun k_ hk => (⟨hk, hk.2⟩ : _ ∧ k_ ≠ gb110))) (fun _ hk => hk.2) (.string t101)) (fun _ hk => hk.2) (.int .i64 t102)) (fun _ hk => hk.2) (.int .i64 t103)) (fun _ hk => hk.2) (.int .i64 t104)) (fun _ hk => hk.2) (.int .i64 t105)) (fun _ hk => hk.2) (.slice Ao9 t106.length co9)) (fun _ hk => hk.1.2)⟩, ⟨by (with_reducible repeat (first | refine blk_drewN ?_ _ | refine blk_drew ?_ | refine blk_alloc ?_ _)); refine blk_put (cs := #[.string t101, .int .i64 t102, .int .i64 t103, .int .i64 t104, .int .i64 t105, .slice none 0 0]) ?_ 5 _ rfl; (with_reducible repeat (first | refine blk_drewN ?_ _ | refine blk_drew ?_ | refine blk_alloc ?_ _)); refine blk_put (cs := #[.string t101, .int .i64 t102, .int .i64 t103, .int .i64 t104, .int .i64 0, .slice none 0 0]) ?_ 4 _ rfl; (with_reducible repeat (first | refine blk_drewN ?_ _ | refine blk_drew ?_ | refine blk_alloc ?_ _)); refine blk_put (cs := #[.string t101, .int .i64 t102, .int .i64 t103, .int .i64 0, .int .i64 0, .slice none 0 0]) ?_ 3 _ rfl; (with_reducible repeat (first | refine blk_drewN ?_ _ | refine blk_drew ?_ | refine blk_alloc ?_ _)); refine blk_put (cs := #[.string t101, .int .i64 t102, .int .i64 0, .int .i64 0, .int .i64 0, .slice none 0 0]) ?_ 2 _ rfl; (with_reducible repeat (first | refine blk_drewN ?_ _ | refine blk_drew ?_ | refine blk_alloc ?_ _)); refine blk_put (cs := #[.string t101, .int .i64 0, .int .i64 0, .int .i64 0, .int .i64 0, .slice none 0 0]) ?_ 1 _ rfl; (with_reducible repeat (first | refine blk_drewN ?_ _ | refine blk_drew ?_ | refine blk_alloc ?_ _)); refine blk_put (cs := #[.string (⟨#[]⟩ : ByteArray), .int .i64 0, .int .i64 0, .int .i64 0, .int .i64 0, .slice none 0 0]) ?_ 0 _ rfl; (with_reducible repeat (first | refine blk_drewN ?_ _ | refine blk_drew ?_ | refine blk_alloc ?_ _)); exact BK110.out⟩, ⟨hbA HB⟩⟩
   ·
    rw [if_neg c10] at H
    have c10b0 : (a0.toList == ([82, 101, 115, 104, 97, 112, 101] : List UInt8)) = false := beq_eq_false_iff_ne.mpr c10
    have c10b1 : (a0.toList != ([82, 101, 115, 104, 97, 112, 101] : List UInt8)) = true := bne_iff_ne.mpr c10
    (first | rw [c10b0] | (simp only [i64_w, i32_w]; rw [c10b0]) | skip)
    by_cases c11 : a1 = 13
    ·
     rw [if_pos c11] at H
     have c11b0 : (a1 == 13) = true := beq_iff_eq.mpr c11
     have c11b1 : (a1 != 13) = false := bne_eq_false_iff_eq.mpr c11
     clear c11
     by_cases c12 : a0.toList = ([83, 113, 117, 101, 101, 122, 101] : List UInt8)
     ·
      rw [if_pos c12] at H
      have c12b0 : (a0.toList == ([83, 113, 117, 101, 101, 122, 101] : List UInt8)) = true := beq_iff_eq.mpr c12
      have c12b1 : (a0.toList != ([83, 113, 117, 101, 101, 122, 101] : List UInt8)) = false := bne_eq_false_iff_eq.mpr c12
      clear c12
      have H' := Aside0.mk H
      clear H
      go_wp2
      go_meet
      case rel => exact ⟨_, (true), (by first | rfl | (simp; done) | (simp [*]; done)), H', ⟨by first | omega | exact Nat.le_refl _⟩, ⟨by (with_reducible repeat (first | apply Kd.V_alloc | apply Kd.V_drewN | apply Kd.V_drew)); exact Kd.V_mono (Kd.V_far (p := ⟨gb110, 5, none⟩) (Kd.V_far (p := ⟨gb110, 4, none⟩) (Kd.V_far (p := ⟨gb110, 3, none⟩) (Kd.V_far (p := ⟨gb110, 2, none⟩) (Kd.V_far (p := ⟨gb110, 1, none⟩) (Kd.V_far (p := ⟨gb110, 0, none⟩) (Kd.V_mono HO108.out (fun k_ hk => (⟨hk, hk.2⟩ : _ ∧ k_ ≠ gb110))) (fun _ hk => hk.2) (.string t101)) (fun _ hk => hk.2) (.int .i64 t102)) (fun _ hk => hk.2) (.int .i64 t103)) (fun _ hk => hk.2) (.int .i64 t104)) (fun _ hk => hk.2) (.int .i64 t105)) (fun _ hk => hk.2) (.slice Ao9 t106.length co9)) (fun _ hk => hk.1.2)⟩, ⟨by (with_reducible repeat (first | refine blk_drewN ?_ _ | refine blk_drew ?_ | refine blk_alloc ?_ _)); refine blk_put (cs := #[.string t101, .int .i64 t102, .int .i64 t103, .int .i64 t104, .int .i64 t105, .slice none 0 0]) ?_ 5 _ rfl; (with_reducible repeat (first | refine blk_drewN ?_ _ | refine blk_drew ?_ | refine blk_alloc ?_ _)); refine blk_put (cs := #[.string t101, .int .i64 t102, .int .i64 t103, .int .i64 t104, .int .i64 0, .slice none 0 0]) ?_ 4 _ rfl; (with_reducible repeat (first | refine blk_drewN ?_ _ | refine blk_drew ?_ | refine blk_alloc ?_ _)); refine blk_put (cs := #[.string t101, .int .i64 t102, .int .i64 t103, .int .i64 0, .int .i64 0, .slice none 0 0]) ?_ 3 _ rfl; (with_reducible repeat (first | refine blk_drewN ?_ _ | refine blk_drew ?_ | refine blk_alloc ?_ _)); refine blk_put (cs := #[.string t101, .int .i64 t102, .int .i64 0, .int .i64 0, .int .i64 0, .slice none 0 0]) ?_ 2 _ rfl; (with_reducible repeat (first | refine blk_drewN ?_ _ | refine blk_drew ?_ | refine blk_alloc ?_ _)); refine blk_put (cs := #[.string t101, .int .i64 0, .int .i64 0, .int .i64 0, .int .i64 0, .slice none 0 0]) ?_ 1 _ rfl; (with_reducible repeat (first | refine blk_drewN ?_ _ | refine blk_drew ?_ | refine blk_alloc ?_ _)); refine blk_put (cs := #[.string (⟨#[]⟩ : ByteArray), .int .i64 0, .int .i64 0, .int .i64 0, .int .i64 0, .slice none 0 0]) ?_ 0 _ rfl; (with_reducible repeat (first | refine blk_drewN ?_ _ | refine blk_drew ?_ | refine blk_alloc ?_ _)); exact BK110.out⟩, ⟨hbA HB⟩⟩
     ·
      rw [if_neg c12] at H
      have c12b0 : (a0.toList == ([83, 113, 117, 101, 101, 122, 101] : List UInt8)) = false := beq_eq_false_iff_ne.mpr c12
      have c12b1 : (a0.toList != ([83, 113, 117, 101, 101, 122, 101] : List UInt8)) = true := bne_iff_ne.mpr c12
      by_cases c13 : a0.toList = ([85, 110, 115, 113, 117, 101, 101, 122, 101] : List UInt8)
      ·
       rw [if_pos c13] at H
       have c13b0 : (a0.toList == ([85, 110, 115, 113, 117, 101, 101, 122, 101] : List UInt8)) = true := beq_iff_eq.mpr c13
       have c13b1 : (a0.toList != ([85, 110, 115, 113, 117, 101, 101, 122, 101] : List UInt8)) = false := bne_eq_false_iff_eq.mpr c13
       clear c13
       have H' := Aside0.mk H
       clear H
       go_wp2
       go_meet
       case rel => exact ⟨_, (true), (by first | rfl | (simp; done) | (simp [*]; done)), H', ⟨by first | omega | exact Nat.le_refl _⟩, ⟨by (with_reducible repeat (first | apply Kd.V_alloc | apply Kd.V_drewN | apply Kd.V_drew)); exact Kd.V_mono (Kd.V_far (p := ⟨gb110, 5, none⟩) (Kd.V_far (p := ⟨gb110, 4, none⟩) (Kd.V_far (p := ⟨gb110, 3, none⟩) (Kd.V_far (p := ⟨gb110, 2, none⟩) (Kd.V_far (p := ⟨gb110, 1, none⟩) (Kd.V_far (p := ⟨gb110, 0, none⟩) (Kd.V_mono HO108.out (fun k_ hk => (⟨hk, hk.2⟩ : _ ∧ k_ ≠ gb110))) (fun _ hk => hk.2) (.string t101)) (fun _ hk => hk.2) (.int .i64 t102)) (fun _ hk => hk.2) (.int .i64 t103)) (fun _ hk => hk.2) (.int .i64 t104)) (fun _ hk => hk.2) (.int .i64 t105)) (fun _ hk => hk.2) (.slice Ao9 t106.length co9)) (fun _ hk => hk.1.2)⟩, ⟨by (with_reducible repeat (first | refine blk_drewN ?_ _ | refine blk_drew ?_ | refine blk_alloc ?_ _)); refine blk_put (cs := #[.string t101, .int .i64 t102, .int .i64 t103, .int .i64 t104, .int .i64 t105, .slice none 0 0]) ?_ 5 _ rfl; (with_reducible repeat (first | refine blk_drewN ?_ _ | refine blk_drew ?_ | refine blk_alloc ?_ _)); refine blk_put (cs := #[.string t101, .int .i64 t102, .int .i64 t103, .int .i64 t104, .int .i64 0, .slice none 0 0]) ?_ 4 _ rfl; (with_reducible repeat (first | refine blk_drewN ?_ _ | refine blk_drew ?_ | refine blk_alloc ?_ _)); refine blk_put (cs := #[.string t101, .int .i64 t102, .int .i64 t103, .int .i64 0, .int .i64 0, .slice none 0 0]) ?_ 3 _ rfl; (with_reducible repeat (first | refine blk_drewN ?_ _ | refine blk_drew ?_ | refine blk_alloc ?_ _)); refine blk_put (cs := #[.string t101, .int .i64 t102, .int .i64 0, .int .i64 0, .int .i64 0, .slice none 0 0]) ?_ 2 _ rfl; (with_reducible repeat (first | refine blk_drewN ?_ _ | refine blk_drew ?_ | refine blk_alloc ?_ _)); refine blk_put (cs := #[.string t101, .int .i64 0, .int .i64 0, .int .i64 0, .int .i64 0, .slice none 0 0]) ?_ 1 _ rfl; (with_reducible repeat (first | refine blk_drewN ?_ _ | refine blk_drew ?_ | refine blk_alloc ?_ _)); refine blk_put (cs := #[.string (⟨#[]⟩ : ByteArray), .int .i64 0, .int .i64 0, .int .i64 0, .int .i64 0, .slice none 0 0]) ?_ 0 _ rfl; (with_reducible repeat (first | refine blk_drewN ?_ _ | refine blk_drew ?_ | refine blk_alloc ?_ _)); exact BK110.out⟩, ⟨hbA HB⟩⟩
      ·
       rw [if_neg c13] at H
       have c13b0 : (a0.toList == ([85, 110, 115, 113, 117, 101, 101, 122, 101] : List UInt8)) = false := beq_eq_false_iff_ne.mpr c13
       have c13b1 : (a0.toList != ([85, 110, 115, 113, 117, 101, 101, 122, 101] : List UInt8)) = true := bne_iff_ne.mpr c13
       have H' := Aside0.mk H
       clear H
       go_wp2
       go_meet
       case rel => exact ⟨_, ((a0.toList == ([82, 101, 100, 117, 99, 101, 83, 117, 109] : List UInt8))), (by first | rfl | (simp; done) | (simp [*]; done)), H', ⟨by first | omega | exact Nat.le_refl _⟩, ⟨by (with_reducible repeat (first | apply Kd.V_alloc | apply Kd.V_drewN | apply Kd.V_drew)); exact Kd.V_mono (Kd.V_far (p := ⟨gb110, 5, none⟩) (Kd.V_far (p := ⟨gb110, 4, none⟩) (Kd.V_far (p := ⟨gb110, 3, none⟩) (Kd.V_far (p := ⟨gb110, 2, none⟩) (Kd.V_far (p := ⟨gb110, 1, none⟩) (Kd.V_far (p := ⟨gb110, 0, none⟩) (Kd.V_mono HO108.out (fun k_ hk => (⟨hk, hk.2⟩ : _ ∧ k_ ≠ gb110))) (fun _ hk => hk.2) (.string t101)) (fun _ hk => hk.2) (.int .i64 t102)) (fun _ hk => hk.2) (.int .i64 t103)) (fun _ hk => hk.2) (.int .i64 t104)) (fun _ hk => hk.2) (.int .i64 t105)) (fun _ hk => hk.2) (.slice Ao9 t106.length co9)) (fun _ hk => hk.1.2)⟩, ⟨by (with_reducible repeat (first | refine blk_drewN ?_ _ | refine blk_drew ?_ | refine blk_alloc ?_ _)); refine blk_put (cs := #[.string t101, .int .i64 t102, .int .i64 t103, .int .i64 t104, .int .i64 t105, .slice none 0 0]) ?_ 5 _ rfl; (with_reducible repeat (first | refine blk_drewN ?_ _ | refine blk_drew ?_ | refine blk_alloc ?_ _)); refine blk_put (cs := #[.string t101, .int .i64 t102, .int .i64 t103, .int .i64 t104, .int .i64 0, .slice none 0 0]) ?_ 4 _ rfl; (with_reducible repeat (first | refine blk_drewN ?_ _ | refine blk_drew ?_ | refine blk_alloc ?_ _)); refine blk_put (cs := #[.string t101, .int .i64 t102, .int .i64 t103, .int .i64 0, .int .i64 0, .slice none 0 0]) ?_ 3 _ rfl; (with_reducible repeat (first | refine blk_drewN ?_ _ | refine blk_drew ?_ | refine blk_alloc ?_ _)); refine blk_put (cs := #[.string t101, .int .i64 t102, .int .i64 0, .int .i64 0, .int .i64 0, .slice none 0 0]) ?_ 2 _ rfl; (with_reducible repeat (first | refine blk_drewN ?_ _ | refine blk_drew ?_ | refine blk_alloc ?_ _)); refine blk_put (cs := #[.string t101, .int .i64 0, .int .i64 0, .int .i64 0, .int .i64 0, .slice none 0 0]) ?_ 1 _ rfl; (with_reducible repeat (first | refine blk_drewN ?_ _ | refine blk_drew ?_ | refine blk_alloc ?_ _)); refine blk_put (cs := #[.string (⟨#[]⟩ : ByteArray), .int .i64 0, .int .i64 0, .int .i64 0, .int .i64 0, .slice none 0 0]) ?_ 0 _ rfl; (with_reducible repeat (first | refine blk_drewN ?_ _ | refine blk_drew ?_ | refine blk_alloc ?_ _)); exact BK110.out⟩, ⟨hbA HB⟩⟩
    ·
     rw [if_neg c11] at H
     have c11b0 : (a1 == 13) = false := beq_eq_false_iff_ne.mpr c11
     have c11b1 : (a1 != 13) = true := bne_iff_ne.mpr c11
     have H' := Aside0.mk H
     clear H
     go_wp2
     go_meet
     case rel => exact ⟨_, (false), (by first | rfl | (simp; done) | (simp [*]; done)), H', ⟨by first | omega | exact Nat.le_refl _⟩, ⟨by (with_reducible repeat (first | apply Kd.V_alloc | apply Kd.V_drewN | apply Kd.V_drew)); exact Kd.V_mono (Kd.V_far (p := ⟨gb110, 5, none⟩) (Kd.V_far (p := ⟨gb110, 4, none⟩) (Kd.V_far (p := ⟨gb110, 3, none⟩) (Kd.V_far (p := ⟨gb110, 2, none⟩) (Kd.V_far (p := ⟨gb110, 1, none⟩) (Kd.V_far (p := ⟨gb110, 0, none⟩) (Kd.V_mono HO108.out (fun k_ hk => (⟨hk, hk.2⟩ : _ ∧ k_ ≠ gb110))) (fun _ hk => hk.2) (.string t101)) (fun _ hk => hk.2) (.int .i64 t102)) (fun _ hk => hk.2) (.int .i64 t103)) (fun _ hk => hk.2) (.int .i64 t104)) (fun _ hk => hk.2) (.int .i64 t105)) (fun _ hk => hk.2) (.slice Ao9 t106.length co9)) (fun _ hk => hk.1.2)⟩, ⟨by (with_reducible repeat (first | refine blk_drewN ?_ _ | refine blk_drew ?_ | refine blk_alloc ?_ _)); refine blk_put (cs := #[.string t101, .int .i64 t102, .int .i64 t103, .int .i64 t104, .int .i64 t105, .slice none 0 0]) ?_ 5 _ rfl; (with_reducible repeat (first | refine blk_drewN ?_ _ | refine blk_drew ?_ | refine blk_alloc ?_ _)); refine blk_put (cs := #[.string t101, .int .i64 t102, .int .i64 t103, .int .i64 t104, .int .i64 0, .slice none 0 0]) ?_ 4 _ rfl; (with_reducible repeat (first | refine blk_drewN ?_ _ | refine blk_drew ?_ | refine blk_alloc ?_ _)); refine blk_put (cs := #[.string t101, .int .i64 t102, .int .i64 t103, .int .i64 0, .int .i64 0, .slice none 0 0]) ?_ 3 _ rfl; (with_reducible repeat (first | refine blk_drewN ?_ _ | refine blk_drew ?_ | refine blk_alloc ?_ _)); refine blk_put (cs := #[.string t101, .int .i64 t102, .int .i64 0, .int .i64 0, .int .i64 0, .slice none 0 0]) ?_ 2 _ rfl; (with_reducible repeat (first | refine blk_drewN ?_ _ | refine blk_drew ?_ | refine blk_alloc ?_ _)); refine blk_put (cs := #[.string t101, .int .i64 0, .int .i64 0, .int .i64 0, .int .i64 0, .slice none 0 0]) ?_ 1 _ rfl; (with_reducible repeat (first | refine blk_drewN ?_ _ | refine blk_drew ?_ | refine blk_alloc ?_ _)); refine blk_put (cs := #[.string (⟨#[]⟩ : ByteArray), .int .i64 0, .int .i64 0, .int .i64 0, .int .i64 0, .slice none 0 0]) ?_ 0 _ rfl; (with_reducible repeat (first | refine blk_drewN ?_ _ | refine blk_drew ?_ | refine blk_alloc ?_ _)); exact BK110.out⟩, ⟨hbA HB⟩⟩
  case rest =>
   clear HC5; try clear c4; try clear c10; try clear c10b0; try clear c10b1; try clear c11; try clear c11b0; try clear c11b1; try clear c12; try clear c12b0; try clear c12b1; try clear c13; try clear c13b0; try clear c13b1; try clear hcz8_0; try clear hcz8_1; try clear hcz8_2; try clear hcz8_3; try clear hcz8_4; try clear hcz8_5; try clear hfz8_0; try clear hfz8_1; try clear hfz8_2; try clear hfz8_3; try clear hfz8_4; try clear hfz8_5
   obtain ⟨kq, x32_4, rfl, HA, HJ4, HO_111005, BK110, HB⟩ := hcut
   cases kq with
   | zero => exact absurd HA.out (by simp [agateref13_Rows.j0])
   | succ kj4 =>
    have H := HA.out; clear HA
    simp only [agateref13_Rows.j0] at H
    by_cases c14 : x32_4 = true
    ·
     subst c14
     have H1 : (some (([1] : List Int))) = some r := by rw [if_pos rfl] at H; exact H
     clear H
     have H := H1
     clear H1
     obtain ⟨y111, hy111⟩ : ∃ y_ : List Int, y_ = (([1] : List Int)) := ⟨_, rfl⟩
     replace H : (some y111) = some r := by first | (rw [hy111]; with_reducible exact H) | (have H2_ := (Option.bind_some _ _).symm.trans H; rw [hy111]; with_reducible exact H2_) | (have H2_ := (Option.bind_some _ _).symm.trans H; with_reducible exact H2_) | with_reducible exact H | (rw [hy111]; exact H) | exact H
     have Ny111 := Aside0.mk hy111
     clear hy111
     obtain rfl := Option.some.inj H
     go_wp2_with (first | ((with_reducible refine gate_dst (N := 33) rfl ?_); refine Kd.R_lit (Kd.int .i64) _ 3 ?hg (N := 33) ?hd (xs := ([1] : List Int)) (inner := [.int .i64 1]) (ok := fun _ => True) (okp := fun _ => True) ?hr ?hp (fun _ hk => hk) trivial (Below.refl _ _) (Nat.le_refl _) (by simp) ?_; (case hd => rfl); (case hg => rfl); (case hr => first | (go_simp; done) | (go_simp; rfl)); (case hp => exact (Reps.one (show Kd.M (Kd.int .i64) _ _ _ 1 [.int .i64 1] from rfl) (Reps.none _ _))); intro v112 w15 ho16 hb hg_ hnew_; clear hg_ hnew_; (first | rw [← Ny111.out] at ho16 | (simp only [Int.reduceToNat] at ho16; rw [← Ny111.out] at ho16)); have n0_ := Aside0.mk (Kd.V_elder' (by (with_reducible repeat (first | apply Kd.V_alloc | apply Kd.V_drewN | apply Kd.V_drew)); exact HO_111005.out) (Kd.R_base ho16) hb); have n1_ := Aside0.mk (Kd.R_lower ho16 (below_size (hbA HB))); have n2_ := Aside0.mk (blk_below (g := gb110) (bkA BK110) hb); have n3_ := Aside0.mk (below_step (hbA HB) hb); clear HO_111005; clear BK110; clear HB; have HO_111005 := n0_; have HO113 := n1_; have BK110 := n2_; have HB := n3_; clear n0_ n1_ n2_ n3_; clear hb ho16))
     go_ret
     exact ⟨_, by first | rfl | (simp [errW_none, errW_some] <;> rfl) | (simp [*, errW_none, errW_some] <;> rfl), krA HO113, hbA HB⟩
    ·
     replace c14 := Bool.eq_false_iff.mpr c14
     subst c14
     have H1 : (if a0.toList = ([83, 108, 105, 99, 101] : List UInt8) then (if a1 > 9 then (some (([1, 2, 3] : List Int))) else (some ([] : List Int))) else (some ([] : List Int))) = some r := by rw [if_neg (show ¬ (false = true) by decide)] at H; exact H
     clear H
     have H := H1
     clear H1
     by_cases c17 : a0.toList = ([83, 108, 105, 99, 101] : List UInt8)
     ·
      rw [if_pos c17] at H
      have c17b0 : (a0.toList == ([83, 108, 105, 99, 101] : List UInt8)) = true := beq_iff_eq.mpr c17
      have c17b1 : (a0.toList != ([83, 108, 105, 99, 101] : List UInt8)) = false := bne_eq_false_iff_eq.mpr c17
      clear c17
      by_cases c18 : a1 > 9
      ·
       rw [if_pos c18] at H
       have c18b0 : decide (9 < a1) = true := decide_eq_true c18
       clear c18
       obtain ⟨y114, hy114⟩ : ∃ y_ : List Int, y_ = (([1, 2, 3] : List Int)) := ⟨_, rfl⟩
       replace H : (some y114) = some r := by first | (rw [hy114]; with_reducible exact H) | (have H2_ := (Option.bind_some _ _).symm.trans H; rw [hy114]; with_reducible exact H2_) | (have H2_ := (Option.bind_some _ _).symm.trans H; with_reducible exact H2_) | with_reducible exact H | (rw [hy114]; exact H) | exact H
       have Ny114 := Aside0.mk hy114
       clear hy114
       obtain rfl := Option.some.inj H
       go_wp2_with (first | ((with_reducible refine gate_dst (N := 40) rfl ?_); refine Kd.R_lit (Kd.int .i64) _ 3 ?hg (N := 40) ?hd (xs := ([1, 2, 3] : List Int)) (inner := [.int .i64 1, .int .i64 2, .int .i64 3]) (ok := fun _ => True) (okp := fun _ => True) ?hr ?hp (fun _ hk => hk) trivial (Below.refl _ _) (Nat.le_refl _) (by simp) ?_; (case hd => rfl); (case hg => rfl); (case hr => first | (go_simp; done) | (go_simp; rfl)); (case hp => exact (Reps.one (show Kd.M (Kd.int .i64) _ _ _ 1 [.int .i64 1] from rfl) (Reps.one (show Kd.M (Kd.int .i64) _ _ _ 2 [.int .i64 2] from rfl) (Reps.one (show Kd.M (Kd.int .i64) _ _ _ 3 [.int .i64 3] from rfl) (Reps.none _ _))))); intro v115 w19 ho20 hb hg_ hnew_; clear hg_ hnew_; (first | rw [← Ny114.out] at ho20 | (simp only [Int.reduceToNat] at ho20; rw [← Ny114.out] at ho20)); have n0_ := Aside0.mk (Kd.V_elder' (by (with_reducible repeat (first | apply Kd.V_alloc | apply Kd.V_drewN | apply Kd.V_drew)); exact HO_111005.out) (Kd.R_base ho20) hb); have n1_ := Aside0.mk (Kd.R_lower ho20 (below_size (hbA HB))); have n2_ := Aside0.mk (blk_below (g := gb110) (bkA BK110) hb); have n3_ := Aside0.mk (below_step (hbA HB) hb); clear HO_111005; clear BK110; clear HB; have HO_111005 := n0_; have HO116 := n1_; have BK110 := n2_; have HB := n3_; clear n0_ n1_ n2_ n3_; clear hb ho20))
       go_ret
       exact ⟨_, by first | rfl | (simp [errW_none, errW_some] <;> rfl) | (simp [*, errW_none, errW_some] <;> rfl), krA HO116, hbA HB⟩
      ·
       rw [if_neg c18] at H
       have c18b0 : decide (9 < a1) = false := decide_eq_false c18
       clear c18
       obtain rfl := Option.some.inj H
       go_wp2
       go_ret
       exact ⟨_, by first | rfl | (simp [errW_none, errW_some] <;> rfl) | (simp [*, errW_none, errW_some] <;> rfl), by first | exact Kd.R_nil _ _ _ _ _ | exact Kd.N_nil _ _ _ _ _ | exact Kd.V_nil _ _ _ _ _ | exact Kd.Q_nil _ _ _ _ _ | exact Kd.S_nil _ _ _ _ _, hbA HB⟩
     ·
      rw [if_neg c17] at H
      have c17b0 : (a0.toList == ([83, 108, 105, 99, 101] : List UInt8)) = false := beq_eq_false_iff_ne.mpr c17
      have c17b1 : (a0.toList != ([83, 108, 105, 99, 101] : List UInt8)) = true := bne_iff_ne.mpr c17
      obtain rfl := Option.some.inj H
      go_wp2
      go_ret
      exact ⟨_, by first | rfl | (simp [errW_none, errW_some] <;> rfl) | (simp [*, errW_none, errW_some] <;> rfl), by first | exact Kd.R_nil _ _ _ _ _ | exact Kd.N_nil _ _ _ _ _ | exact Kd.V_nil _ _ _ _ _ | exact Kd.Q_nil _ _ _ _ _ | exact Kd.S_nil _ _ _ _ _, hbA HB⟩
 ·
  replace c4 := Bool.eq_false_iff.mpr c4
  subst c4
  have H1 : (some ([] : List Int)) = some r := by rw [if_neg (show ¬ (false = true) by decide)] at H; exact H
  clear H
  have H := H1
  clear H1
  obtain rfl := Option.some.inj H
  go_enter Try.func34, Try.ntmps34
  go_wp2_with (first | ((with_reducible refine gate_callee (f := 25) rfl ?_); refine goesL_ (some 10) rfl rfl Try.func25 (by kernel_rfl) rfl #[.string a0, .int .i64 a1] rfl (by (try simp only [List.map_toArray, List.map_cons, List.map_nil]); first | done | rfl | (simp only [List.length_drop, List.length_take]; rfl)) ?_; (with_reducible refine (agateref13_Find.calls k a0 a1 t101 t102 t103 t104 t105 t106 false _ A3.out).mono ?_); rintro e w21 ⟨v107, rfl, ho0, hb⟩; refine ⟨_, rfl, ?_⟩; have n0_ := Aside0.mk (Kd.V_lower (Kd.V_mono (ok' := fun k_ => True) ho0 (fun k_ hk_ => trivial)) (below_size (hbA HB))); have n1_ := Aside0.mk (below_step (hbA HB) hb); clear HB; have HO108 := n0_; have HB := n1_; clear n0_ n1_; (try clear hb); (try clear hb2); (try clear hk); (try clear hi); (try clear ho0)) | ((with_reducible refine gate_dst (N := 5) rfl ?_); refine box_event ?hg (N := 5) ?hd (cs := #[.string (⟨#[]⟩ : ByteArray), .int .i64 0, .int .i64 0, .int .i64 0, .int .i64 0, .slice none 0 0]) (t := 72) ?hr ?_; (case hd => rfl); (case hg => rfl); (case hr => first | (go_simp; done) | (go_simp; rfl)); intro gb110 hg w22 hbox hb; have n0_ := Aside0.mk (Kd.V_below (Kd.V_elderB (by (with_reducible repeat (first | apply Kd.V_alloc | apply Kd.V_drewN | apply Kd.V_drew)); exact HO108.out) gb110 (Nat.le_of_eq hg.symm)) hb); have n1_ := Aside0.mk (below_step (hbA HB) hb); have n2_ := Aside0.mk (hbox); have n3_ := Aside0.mk ((by rw [hg]; exact (below_size (hbA HB)) : w.heap.size ≤ gb110)); have n4_ := Aside0.mk ((by rw [hg]; exact (below_size (hbA HB)) : w.heap.size ≤ gb110)); clear HO108; clear HB; have HO108 := n0_; have HB := n1_; have BK110 := n2_; have GW110 := n3_; have GE110 := n4_; clear n0_ n1_ n2_ n3_ n4_; clear hb hbox hg; have hcz23_0 : w22.cell? ⟨gb110, 0, none⟩ = some (.string (⟨#[]⟩ : ByteArray)) := bcA BK110 0; have hcz23_1 : w22.cell? ⟨gb110, 1, none⟩ = some (.int .i64 0) := bcA BK110 1; have hcz23_2 : w22.cell? ⟨gb110, 2, none⟩ = some (.int .i64 0) := bcA BK110 2; have hcz23_3 : w22.cell? ⟨gb110, 3, none⟩ = some (.int .i64 0) := bcA BK110 3; have hcz23_4 : w22.cell? ⟨gb110, 4, none⟩ = some (.int .i64 0) := bcA BK110 4; have hcz23_5 : w22.cell? ⟨gb110, 5, none⟩ = some (.slice none 0 0) := bcA BK110 5; have hfz23_0 := blk_frozen BK110.out 0; have hfz23_1 := blk_frozen BK110.out 1; have hfz23_2 := blk_frozen BK110.out 2; have hfz23_3 := blk_frozen BK110.out 3; have hfz23_4 := blk_frozen BK110.out 4; have hfz23_5 := blk_frozen BK110.out 5; obtain ⟨Ao24, co24, eo24⟩ := Kd.V_slice HO108.out; subst eo24))
  go_ret
  exact ⟨_, by first | rfl | (simp [errW_none, errW_some] <;> rfl) | (simp [*, errW_none, errW_some] <;> rfl), by first | exact Kd.R_nil _ _ _ _ _ | exact Kd.N_nil _ _ _ _ _ | exact Kd.V_nil _ _ _ _ _ | exact Kd.Q_nil _ _ _ _ _ | exact Kd.S_nil _ _ _ _ _, hbA HB⟩
end Go.Proofs.Ytdemgfbolcmcdaa.X
namespace Go.Proofs.Ytdemgfbolcmcdaa.X
open Go.RowKit Go.Proofs.YtdemgfbolcmcdaaW.PrintWords Go.Proofs.YtdemgfbolcmcdaaW.PrintLast Go.Proofs.YtdemgfbolcmcdaaW.PrintMore
attribute [local go_sem] max2_int min2_int max_two min_two max_three min_three max_four min_four
set_option linter.unusedVariables false
set_option linter.unusedSimpArgs false
def ops_Rows.j0 : Nat → ByteArray → Int → Bool → Option (List Int)
 | 0, _, _, _ => none
 | k + 1, x0, x1, x19 => if x19 = true then (some (([1] : List Int))) else (if x1 > 9 then (if x0.toList = ([83, 108, 105, 99, 101] : List UInt8) then (some (([1, 2, 3] : List Int))) else (some ([] : List Int))) else (some ([] : List Int)))
def ops_Rows.f (k : Nat) (a0 : ByteArray) (a1 : Int) : Option (List Int) := (ops_Find.f k a0 a1).bind fun bt101 => (if bt101.2.2.2 = true then (if a0.toList = ([82, 101, 115, 104, 97, 112, 101] : List UInt8) then (some (([1] : List Int))) else (if a1 = 13 then (if a0.toList = ([83, 113, 117, 101, 101, 122, 101] : List UInt8) then (ops_Rows.j0 k a0 a1 true) else (if a0.toList = ([85, 110, 115, 113, 117, 101, 101, 122, 101] : List UInt8) then (ops_Rows.j0 k a0 a1 true) else (ops_Rows.j0 k a0 a1 (a0.toList == ([82, 101, 100, 117, 99, 101, 83, 117, 109] : List UInt8))))) else (ops_Rows.j0 k a0 a1 false))) else (some ([] : List Int)))
theorem ops_Rows.mono_l : ∀ k, (∀ y0 y1 y2, LeO (ops_Rows.j0 k y0 y1 y2) (ops_Rows.j0 (k + 1) y0 y1 y2))
 | 0 => fun _ _ _ r h => by simp [ops_Rows.j0] at h
 | k + 1 => by
  have ih0 := ops_Rows.mono_l k
  ·
   intro y0 y1 y2
   unfold ops_Rows.j0
   repeat' first
   | (with_reducible exact ih0 _ _ _)
   | (with_reducible exact ops_Find.mono _ _ _)
   | (with_reducible exact LeO.refl _)
   | (with_reducible exact LeO.none _)
   | (with_reducible refine LeO.ite ?_ ?_)
   | (with_reducible refine LeO.bind ?_ (fun _ => ?_))
   | exact ih0 _ _ _
   | exact ops_Find.mono _ _ _
   | exact LeO.none _
   | refine LeO.ite ?_ ?_
   | refine LeO.bind ?_ (fun _ => ?_)
theorem ops_Rows.mono : ∀ a0 a1 k, LeO (ops_Rows.f k a0 a1) (ops_Rows.f (k + 1) a0 a1) := by
 intro a0 a1 k
 have ih0 := ops_Rows.mono_l k
 unfold ops_Rows.f
 repeat' first
   | (with_reducible exact ih0 _ _ _)
   | (with_reducible exact ops_Find.mono _ _ _)
   | (with_reducible exact LeO.refl _)
   | (with_reducible exact LeO.none _)
   | (with_reducible refine LeO.ite ?_ ?_)
   | (with_reducible refine LeO.bind ?_ (fun _ => ?_))
   | exact ih0 _ _ _
   | exact ops_Find.mono _ _ _
   | exact LeO.none _
   | refine LeO.ite ?_ ?_
   | refine LeO.bind ?_ (fun _ => ?_)
set_option maxHeartbeats 8000000 in
set_option maxRecDepth 100000 in
theorem ops_Rows.calls (k : Nat) (a0 : ByteArray) (a1 : Int) (r : List Int) (w : World) (h : ops_Rows.f k a0 a1 = some r) :
  Calls Try.prog 33 #[.string a0, .int .i64 a1] w fun e w' => ∃ v0_ : Value, e = .returned (v0_) ∧ Kd.R (Kd.int .i64) 3 w' w.heap.size (fun _ => True) v0_ r ∧ Below w.heap.size w w' := by
 have hu86 := Try.underlying86
 have HB := Aside0.mk (Below.refl w.heap.size w)
 have H : ((ops_Find.f k a0 a1).bind fun bt101 => (if bt101.2.2.2 = true then (if a0.toList = ([82, 101, 115, 104, 97, 112, 101] : List UInt8) then (some (([1] : List Int))) else (if a1 = 13 then (if a0.toList = ([83, 113, 117, 101, 101, 122, 101] : List UInt8) then (ops_Rows.j0 k a0 a1 true) else (if a0.toList = ([85, 110, 115, 113, 117, 101, 101, 122, 101] : List UInt8) then (ops_Rows.j0 k a0 a1 true) else (ops_Rows.j0 k a0 a1 (a0.toList == ([82, 101, 100, 117, 99, 101, 83, 117, 109] : List UInt8))))) else (ops_Rows.j0 k a0 a1 false))) else (some ([] : List Int)))) = some r := h
 clear h
 replace H := Option.bind_eq_some_iff.mp H
 obtain ⟨⟨t101, t102, t103, t106⟩, A30, H⟩ := H
 replace H : (if t106 = true then (if a0.toList = ([82, 101, 115, 104, 97, 112, 101] : List UInt8) then (some (([1] : List Int))) else (if a1 = 13 then (if a0.toList = ([83, 113, 117, 101, 101, 122, 101] : List UInt8) then (ops_Rows.j0 k a0 a1 true) else (if a0.toList = ([85, 110, 115, 113, 117, 101, 101, 122, 101] : List UInt8) then (ops_Rows.j0 k a0 a1 true) else (ops_Rows.j0 k a0 a1 (a0.toList == ([82, 101, 100, 117, 99, 101, 83, 117, 109] : List UInt8))))) else (ops_Rows.j0 k a0 a1 false))) else (some ([] : List Int))) = some r := H
 have A3 := Aside0.mk A30
 clear A30
 by_cases c4 : t106 = true
 ·
  subst c4
  have H1 : (if a0.toList = ([82, 101, 115, 104, 97, 112, 101] : List UInt8) then (some (([1] : List Int))) else (if a1 = 13 then (if a0.toList = ([83, 113, 117, 101, 101, 122, 101] : List UInt8) then (ops_Rows.j0 k a0 a1 true) else (if a0.toList = ([85, 110, 115, 113, 117, 101, 101, 122, 101] : List UInt8) then (ops_Rows.j0 k a0 a1 true) else (ops_Rows.j0 k a0 a1 (a0.toList == ([82, 101, 100, 117, 99, 101, 83, 117, 109] : List UInt8))))) else (ops_Rows.j0 k a0 a1 false))) = some r := by rw [if_pos rfl] at H; exact H
  clear H
  have H := H1
  clear H1
  by_cases c5 : a0.toList = ([82, 101, 115, 104, 97, 112, 101] : List UInt8)
  ·
   rw [if_pos c5] at H
   have c5b0 : (a0.toList == ([82, 101, 115, 104, 97, 112, 101] : List UInt8)) = true := beq_iff_eq.mpr c5
   have c5b1 : (a0.toList != ([82, 101, 115, 104, 97, 112, 101] : List UInt8)) = false := bne_eq_false_iff_eq.mpr c5
   clear c5
   obtain ⟨y108, hy108⟩ : ∃ y_ : List Int, y_ = (([1] : List Int)) := ⟨_, rfl⟩
   replace H : (some y108) = some r := by first | (rw [hy108]; with_reducible exact H) | (have H2_ := (Option.bind_some _ _).symm.trans H; rw [hy108]; with_reducible exact H2_) | (have H2_ := (Option.bind_some _ _).symm.trans H; with_reducible exact H2_) | with_reducible exact H | (rw [hy108]; exact H) | exact H
   have Ny108 := Aside0.mk hy108
   clear hy108
   obtain rfl := Option.some.inj H
   go_enter Try.func33, Try.ntmps33
   go_wp2_with (first | ((with_reducible refine gate_callee (f := 32) rfl ?_); refine goesL_ (some 10) rfl rfl Try.func32 (by kernel_rfl) rfl #[.string a0, .int .i64 a1] rfl (by (try simp only [List.map_toArray, List.map_cons, List.map_nil]); first | done | rfl | (simp only [List.length_drop, List.length_take]; rfl)) ?_; (with_reducible refine (ops_Find.calls k a0 a1 t101 t102 t103 true _ A3.out).mono ?_); rintro e w6 ⟨v104, rfl, ho0, hb⟩; refine ⟨_, rfl, ?_⟩; have n0_ := Aside0.mk (Kd.V_lower (Kd.V_mono (ok' := fun k_ => True) ho0 (fun k_ hk_ => trivial)) (below_size (hbA HB))); have n1_ := Aside0.mk (below_step (hbA HB) hb); clear HB; have HO105 := n0_; have HB := n1_; clear n0_ n1_; (try clear hb); (try clear hb2); (try clear hk); (try clear hi); (try clear ho0)) | ((with_reducible refine gate_dst (N := 5) rfl ?_); refine box_event ?hg (N := 5) ?hd (cs := #[.int .i64 0, .int .i64 0, .slice none 0 0]) (t := 86) ?hr ?_; (case hd => rfl); (case hg => rfl); (case hr => first | (go_simp; done) | (go_simp; rfl)); intro gb107 hg w7 hbox hb; have n0_ := Aside0.mk (Kd.V_below (Kd.V_elderB (by (with_reducible repeat (first | apply Kd.V_alloc | apply Kd.V_drewN | apply Kd.V_drew)); exact HO105.out) gb107 (Nat.le_of_eq hg.symm)) hb); have n1_ := Aside0.mk (below_step (hbA HB) hb); have n2_ := Aside0.mk (hbox); have n3_ := Aside0.mk ((by rw [hg]; exact (below_size (hbA HB)) : w.heap.size ≤ gb107)); have n4_ := Aside0.mk ((by rw [hg]; exact (below_size (hbA HB)) : w.heap.size ≤ gb107)); clear HO105; clear HB; have HO105 := n0_; have HB := n1_; have BK107 := n2_; have GW107 := n3_; have GE107 := n4_; clear n0_ n1_ n2_ n3_ n4_; clear hb hbox hg; have hcz8_0 : w7.cell? ⟨gb107, 0, none⟩ = some (.int .i64 0) := bcA BK107 0; have hcz8_1 : w7.cell? ⟨gb107, 1, none⟩ = some (.int .i64 0) := bcA BK107 1; have hcz8_2 : w7.cell? ⟨gb107, 2, none⟩ = some (.slice none 0 0) := bcA BK107 2; have hfz8_0 := blk_frozen BK107.out 0; have hfz8_1 := blk_frozen BK107.out 1; have hfz8_2 := blk_frozen BK107.out 2; obtain ⟨Ao9, co9, eo9⟩ := Kd.V_slice HO105.out; subst eo9) | ((with_reducible refine gate_dst (N := 18) rfl ?_); refine Kd.R_lit (Kd.int .i64) _ 3 ?hg (N := 18) ?hd (xs := ([1] : List Int)) (inner := [.int .i64 1]) (ok := fun _ => True) (okp := fun _ => True) ?hr ?hp (fun _ hk => hk) trivial (Below.refl _ _) (Nat.le_refl _) (by simp) ?_; (case hd => rfl); (case hg => rfl); (case hr => first | (go_simp; done) | (go_simp; rfl)); (case hp => exact (Reps.one (show Kd.M (Kd.int .i64) _ _ _ 1 [.int .i64 1] from rfl) (Reps.none _ _))); intro v109 w10 ho11 hb hg_ hnew_; clear hg_ hnew_; (first | rw [← Ny108.out] at ho11 | (simp only [Int.reduceToNat] at ho11; rw [← Ny108.out] at ho11)); have n0_ := Aside0.mk (Kd.V_elder' (by (with_reducible repeat (first | apply Kd.V_alloc | apply Kd.V_drewN | apply Kd.V_drew)); exact (Kd.V_mono (Kd.V_far (p := ⟨gb107, 2, none⟩) (Kd.V_far (p := ⟨gb107, 1, none⟩) (Kd.V_far (p := ⟨gb107, 0, none⟩) (Kd.V_mono HO105.out (fun k_ hk => (⟨hk, hk.2⟩ : _ ∧ k_ ≠ gb107))) (fun _ hk => hk.2) (.int .i64 t101)) (fun _ hk => hk.2) (.int .i64 t102)) (fun _ hk => hk.2) (.slice Ao9 t103.length co9)) (fun _ h_ => h_.1))) (Kd.R_base ho11) hb); have n1_ := Aside0.mk (Kd.R_lower ho11 (below_size (hbA HB))); have n2_ := Aside0.mk (blk_below (g := gb107) (o := .cells #[.int .i64 t101, .int .i64 t102, .slice Ao9 t103.length co9] 86 (0, 0)) (by (with_reducible repeat (first | refine blk_drewN ?_ _ | refine blk_drew ?_ | refine blk_alloc ?_ _)); refine blk_put (cs := #[.int .i64 t101, .int .i64 t102, .slice none 0 0]) ?_ 2 _ rfl; (with_reducible repeat (first | refine blk_drewN ?_ _ | refine blk_drew ?_ | refine blk_alloc ?_ _)); refine blk_put (cs := #[.int .i64 t101, .int .i64 0, .slice none 0 0]) ?_ 1 _ rfl; (with_reducible repeat (first | refine blk_drewN ?_ _ | refine blk_drew ?_ | refine blk_alloc ?_ _)); refine blk_put (cs := #[.int .i64 0, .int .i64 0, .slice none 0 0]) ?_ 0 _ rfl; (with_reducible repeat (first | refine blk_drewN ?_ _ | refine blk_drew ?_ | refine blk_alloc ?_ _)); exact BK107.out) hb); have n3_ := Aside0.mk (below_step (hbA HB) hb); clear HO105; clear BK107; clear HB; have HO105 := n0_; have HO110 := n1_; have BK107 := n2_; have HB := n3_; clear n0_ n1_ n2_ n3_; clear hb ho11))
   go_ret
   exact ⟨_, by first | rfl | (simp [errW_none, errW_some] <;> rfl) | (simp [*, errW_none, errW_some] <;> rfl), krA HO110, hbA HB⟩
  ·
   rw [if_neg c5] at H
   have c5b0 : (a0.toList == ([82, 101, 115, 104, 97, 112, 101] : List UInt8)) = false := beq_eq_false_iff_ne.mpr c5
   have c5b1 : (a0.toList != ([82, 101, 115, 104, 97, 112, 101] : List UInt8)) = true := bne_iff_ne.mpr c5
   have HC12 := Aside0.mk H
   clear H
   go_enter Try.func33, Try.ntmps33
   go_upto_region 6 with (first | ((with_reducible refine gate_callee (f := 32) rfl ?_); refine goesL_ (some 10) rfl rfl Try.func32 (by kernel_rfl) rfl #[.string a0, .int .i64 a1] rfl (by (try simp only [List.map_toArray, List.map_cons, List.map_nil]); first | done | rfl | (simp only [List.length_drop, List.length_take]; rfl)) ?_; (with_reducible refine (ops_Find.calls k a0 a1 t101 t102 t103 true _ A3.out).mono ?_); rintro e w13 ⟨v104, rfl, ho0, hb⟩; refine ⟨_, rfl, ?_⟩; have n0_ := Aside0.mk (Kd.V_lower (Kd.V_mono (ok' := fun k_ => True) ho0 (fun k_ hk_ => trivial)) (below_size (hbA HB))); have n1_ := Aside0.mk (below_step (hbA HB) hb); clear HB; have HO105 := n0_; have HB := n1_; clear n0_ n1_; (try clear hb); (try clear hb2); (try clear hk); (try clear hi); (try clear ho0)) | ((with_reducible refine gate_dst (N := 5) rfl ?_); refine box_event ?hg (N := 5) ?hd (cs := #[.int .i64 0, .int .i64 0, .slice none 0 0]) (t := 86) ?hr ?_; (case hd => rfl); (case hg => rfl); (case hr => first | (go_simp; done) | (go_simp; rfl)); intro gb107 hg w14 hbox hb; have n0_ := Aside0.mk (Kd.V_below (Kd.V_elderB (by (with_reducible repeat (first | apply Kd.V_alloc | apply Kd.V_drewN | apply Kd.V_drew)); exact HO105.out) gb107 (Nat.le_of_eq hg.symm)) hb); have n1_ := Aside0.mk (below_step (hbA HB) hb); have n2_ := Aside0.mk (hbox); have n3_ := Aside0.mk ((by rw [hg]; exact (below_size (hbA HB)) : w.heap.size ≤ gb107)); have n4_ := Aside0.mk ((by rw [hg]; exact (below_size (hbA HB)) : w.heap.size ≤ gb107)); clear HO105; clear HB; have HO105 := n0_; have HB := n1_; have BK107 := n2_; have GW107 := n3_; have GE107 := n4_; clear n0_ n1_ n2_ n3_ n4_; clear hb hbox hg; have hcz15_0 : w14.cell? ⟨gb107, 0, none⟩ = some (.int .i64 0) := bcA BK107 0; have hcz15_1 : w14.cell? ⟨gb107, 1, none⟩ = some (.int .i64 0) := bcA BK107 1; have hcz15_2 : w14.cell? ⟨gb107, 2, none⟩ = some (.slice none 0 0) := bcA BK107 2; have hfz15_0 := blk_frozen BK107.out 0; have hfz15_1 := blk_frozen BK107.out 1; have hfz15_2 := blk_frozen BK107.out 2; obtain ⟨Ao16, co16, eo16⟩ := Kd.V_slice HO105.out; subst eo16))
   (try simp only [Act.put, List.setIfInBounds_toArray, List.set_cons_zero, List.set_cons_succ])
   go_cut [19] (fun v19 wc => ∃ (kq : Nat) (x19_11 : Bool), v19 = .bool x19_11 ∧ Aside0 (ops_Rows.j0 kq a0 a1 x19_11 = some r) ∧ Aside0 (kq ≤ k) ∧ Aside0 (Kd.V k90 90 wc w.heap.size (fun k_ => k_ ≠ gb107) (.slice Ao16 t103.length co16) t103) ∧ Aside0 (wc.heap[gb107]? = some (.cells #[.int .i64 t101, .int .i64 t102, (.slice Ao16 t103.length co16)] 86 (0, 0))) ∧ Aside0 (Below w.heap.size w wc))
   case first =>
    have H := HC12.out; clear HC12
    by_cases c17 : a1 = 13
    ·
     rw [if_pos c17] at H
     have c17b0 : (a1 == 13) = true := beq_iff_eq.mpr c17
     have c17b1 : (a1 != 13) = false := bne_eq_false_iff_eq.mpr c17
     clear c17
     (first | rw [c17b0] | (simp only [i64_w, i32_w]; rw [c17b0]) | skip)
     by_cases c18 : a0.toList = ([83, 113, 117, 101, 101, 122, 101] : List UInt8)
     ·
      rw [if_pos c18] at H
      have c18b0 : (a0.toList == ([83, 113, 117, 101, 101, 122, 101] : List UInt8)) = true := beq_iff_eq.mpr c18
      have c18b1 : (a0.toList != ([83, 113, 117, 101, 101, 122, 101] : List UInt8)) = false := bne_eq_false_iff_eq.mpr c18
      clear c18
      have H' := Aside0.mk H
      clear H
      go_wp2
      go_meet
      case rel => exact ⟨_, (true), (by first | rfl | (simp; done) | (simp [*]; done)), H', ⟨by first | omega | exact Nat.le_refl _⟩, ⟨by (with_reducible repeat (first | apply Kd.V_alloc | apply Kd.V_drewN | apply Kd.V_drew)); exact Kd.V_mono (Kd.V_far (p := ⟨gb107, 2, none⟩) (Kd.V_far (p := ⟨gb107, 1, none⟩) (Kd.V_far (p := ⟨gb107, 0, none⟩) (Kd.V_mono HO105.out (fun k_ hk => (⟨hk, hk.2⟩ : _ ∧ k_ ≠ gb107))) (fun _ hk => hk.2) (.int .i64 t101)) (fun _ hk => hk.2) (.int .i64 t102)) (fun _ hk => hk.2) (.slice Ao16 t103.length co16)) (fun _ hk => hk.1.2)⟩, ⟨by (with_reducible repeat (first | refine blk_drewN ?_ _ | refine blk_drew ?_ | refine blk_alloc ?_ _)); refine blk_put (cs := #[.int .i64 t101, .int .i64 t102, .slice none 0 0]) ?_ 2 _ rfl; (with_reducible repeat (first | refine blk_drewN ?_ _ | refine blk_drew ?_ | refine blk_alloc ?_ _)); refine blk_put (cs := #[.int .i64 t101, .int .i64 0, .slice none 0 0]) ?_ 1 _ rfl; (with_reducible repeat (first | refine blk_drewN ?_ _ | refine blk_drew ?_ | refine blk_alloc ?_ _)); refine blk_put (cs := #[.int .i64 0, .int .i64 0, .slice none 0 0]) ?_ 0 _ rfl; (with_reducible repeat (first | refine blk_drewN ?_ _ | refine blk_drew ?_ | refine blk_alloc ?_ _)); exact BK107.out⟩, ⟨hbA HB⟩⟩
     ·
      rw [if_neg c18] at H
      have c18b0 : (a0.toList == ([83, 113, 117, 101, 101, 122, 101] : List UInt8)) = false := beq_eq_false_iff_ne.mpr c18
      have c18b1 : (a0.toList != ([83, 113, 117, 101, 101, 122, 101] : List UInt8)) = true := bne_iff_ne.mpr c18
      by_cases c19 : a0.toList = ([85, 110, 115, 113, 117, 101, 101, 122, 101] : List UInt8)
      ·
       rw [if_pos c19] at H
       have c19b0 : (a0.toList == ([85, 110, 115, 113, 117, 101, 101, 122, 101] : List UInt8)) = true := beq_iff_eq.mpr c19
       have c19b1 : (a0.toList != ([85, 110, 115, 113, 117, 101, 101, 122, 101] : List UInt8)) = false := bne_eq_false_iff_eq.mpr c19
       clear c19
       have H' := Aside0.mk H
       clear H
       go_wp2
       go_meet
       case rel => exact ⟨_, (true), (by first | rfl | (simp; done) | (simp [*]; done)), H', ⟨by first | omega | exact Nat.le_refl _⟩, ⟨by (with_reducible repeat (first | apply Kd.V_alloc | apply Kd.V_drewN | apply Kd.V_drew)); exact Kd.V_mono (Kd.V_far (p := ⟨gb107, 2, none⟩) (Kd.V_far (p := ⟨gb107, 1, none⟩) (Kd.V_far (p := ⟨gb107, 0, none⟩) (Kd.V_mono HO105.out (fun k_ hk => (⟨hk, hk.2⟩ : _ ∧ k_ ≠ gb107))) (fun _ hk => hk.2) (.int .i64 t101)) (fun _ hk => hk.2) (.int .i64 t102)) (fun _ hk => hk.2) (.slice Ao16 t103.length co16)) (fun _ hk => hk.1.2)⟩, ⟨by (with_reducible repeat (first | refine blk_drewN ?_ _ | refine blk_drew ?_ | refine blk_alloc ?_ _)); refine blk_put (cs := #[.int .i64 t101, .int .i64 t102, .slice none 0 0]) ?_ 2 _ rfl; (with_reducible repeat (first | refine blk_drewN ?_ _ | refine blk_drew ?_ | refine blk_alloc ?_ _)); refine blk_put (cs := #[.int .i64 t101, .int .i64 0, .slice none 0 0]) ?_ 1 _ rfl; (with_reducible repeat (first | refine blk_drewN ?_ _ | refine blk_drew ?_ | refine blk_alloc ?_ _)); refine blk_put (cs := #[.int .i64 0, .int .i64 0, .slice none 0 0]) ?_ 0 _ rfl; (with_reducible repeat (first | refine blk_drewN ?_ _ | refine blk_drew ?_ | refine blk_alloc ?_ _)); exact BK107.out⟩, ⟨hbA HB⟩⟩
      ·
       rw [if_neg c19] at H
       have c19b0 : (a0.toList == ([85, 110, 115, 113, 117, 101, 101, 122, 101] : List UInt8)) = false := beq_eq_false_iff_ne.mpr c19
       have c19b1 : (a0.toList != ([85, 110, 115, 113, 117, 101, 101, 122, 101] : List UInt8)) = true := bne_iff_ne.mpr c19
       have H' := Aside0.mk H
       clear H
       go_wp2
       go_meet
       case rel => exact ⟨_, ((a0.toList == ([82, 101, 100, 117, 99, 101, 83, 117, 109] : List UInt8))), (by first | rfl | (simp; done) | (simp [*]; done)), H', ⟨by first | omega | exact Nat.le_refl _⟩, ⟨by (with_reducible repeat (first | apply Kd.V_alloc | apply Kd.V_drewN | apply Kd.V_drew)); exact Kd.V_mono (Kd.V_far (p := ⟨gb107, 2, none⟩) (Kd.V_far (p := ⟨gb107, 1, none⟩) (Kd.V_far (p := ⟨gb107, 0, none⟩) (Kd.V_mono HO105.out (fun k_ hk => (⟨hk, hk.2⟩ : _ ∧ k_ ≠ gb107))) (fun _ hk => hk.2) (.int .i64 t101)) (fun _ hk => hk.2) (.int .i64 t102)) (fun _ hk => hk.2) (.slice Ao16 t103.length co16)) (fun _ hk => hk.1.2)⟩, ⟨by (with_reducible repeat (first | refine blk_drewN ?_ _ | refine blk_drew ?_ | refine blk_alloc ?_ _)); refine blk_put (cs := #[.int .i64 t101, .int .i64 t102, .slice none 0 0]) ?_ 2 _ rfl; (with_reducible repeat (first | refine blk_drewN ?_ _ | refine blk_drew ?_ | refine blk_alloc ?_ _)); refine blk_put (cs := #[.int .i64 t101, .int .i64 0, .slice none 0 0]) ?_ 1 _ rfl; (with_reducible repeat (first | refine blk_drewN ?_ _ | refine blk_drew ?_ | refine blk_alloc ?_ _)); refine blk_put (cs := #[.int .i64 0, .int .i64 0, .slice none 0 0]) ?_ 0 _ rfl; (with_reducible repeat (first | refine blk_drewN ?_ _ | refine blk_drew ?_ | refine blk_alloc ?_ _)); exact BK107.out⟩, ⟨hbA HB⟩⟩
    ·
     rw [if_neg c17] at H
     have c17b0 : (a1 == 13) = false := beq_eq_false_iff_ne.mpr c17
     have c17b1 : (a1 != 13) = true := bne_iff_ne.mpr c17
     (first | rw [c17b0] | (simp only [i64_w, i32_w]; rw [c17b0]) | skip)
     have H' := Aside0.mk H
     clear H
     go_wp2
     go_meet
     case rel => exact ⟨_, (false), (by first | rfl | (simp; done) | (simp [*]; done)), H', ⟨by first | omega | exact Nat.le_refl _⟩, ⟨by (with_reducible repeat (first | apply Kd.V_alloc | apply Kd.V_drewN | apply Kd.V_drew)); exact Kd.V_mono (Kd.V_far (p := ⟨gb107, 2, none⟩) (Kd.V_far (p := ⟨gb107, 1, none⟩) (Kd.V_far (p := ⟨gb107, 0, none⟩) (Kd.V_mono HO105.out (fun k_ hk => (⟨hk, hk.2⟩ : _ ∧ k_ ≠ gb107))) (fun _ hk => hk.2) (.int .i64 t101)) (fun _ hk => hk.2) (.int .i64 t102)) (fun _ hk => hk.2) (.slice Ao16 t103.length co16)) (fun _ hk => hk.1.2)⟩, ⟨by (with_reducible repeat (first | refine blk_drewN ?_ _ | refine blk_drew ?_ | refine blk_alloc ?_ _)); refine blk_put (cs := #[.int .i64 t101, .int .i64 t102, .slice none 0 0]) ?_ 2 _ rfl; (with_reducible repeat (first | refine blk_drewN ?_ _ | refine blk_drew ?_ | refine blk_alloc ?_ _)); refine blk_put (cs := #[.int .i64 t101, .int .i64 0, .slice none 0 0]) ?_ 1 _ rfl; (with_reducible repeat (first | refine blk_drewN ?_ _ | refine blk_drew ?_ | refine blk_alloc ?_ _)); refine blk_put (cs := #[.int .i64 0, .int .i64 0, .slice none 0 0]) ?_ 0 _ rfl; (with_reducible repeat (first | refine blk_drewN ?_ _ | refine blk_drew ?_ | refine blk_alloc ?_ _)); exact BK107.out⟩, ⟨hbA HB⟩⟩
   case rest =>
    clear HC12; try clear c4; try clear c5; try clear c5b0; try clear c5b1; try clear c17; try clear c17b0; try clear c17b1; try clear c18; try clear c18b0; try clear c18b1; try clear c19; try clear c19b0; try clear c19b1; try clear hcz15_0; try clear hcz15_1; try clear hcz15_2; try clear hcz8_0; try clear hcz8_1; try clear hcz8_2; try clear hfz15_0; try clear hfz15_1; try clear hfz15_2; try clear hfz8_0; try clear hfz8_1; try clear hfz8_2
    obtain ⟨kq, x19_11, rfl, HA, HJ11, HO_108002, BK107, HB⟩ := hcut
    cases kq with
    | zero => exact absurd HA.out (by simp [ops_Rows.j0])
    | succ kj11 =>
     have H := HA.out; clear HA
     simp only [ops_Rows.j0] at H
     by_cases c20 : x19_11 = true
     ·
      subst c20
      have H1 : (some (([1] : List Int))) = some r := by rw [if_pos rfl] at H; exact H
      clear H
      have H := H1
      clear H1
      obtain ⟨y111, hy111⟩ : ∃ y_ : List Int, y_ = (([1] : List Int)) := ⟨_, rfl⟩
      replace H : (some y111) = some r := by first | (rw [hy111]; with_reducible exact H) | (have H2_ := (Option.bind_some _ _).symm.trans H; rw [hy111]; with_reducible exact H2_) | (have H2_ := (Option.bind_some _ _).symm.trans H; with_reducible exact H2_) | with_reducible exact H | (rw [hy111]; exact H) | exact H
      have Ny111 := Aside0.mk hy111
      clear hy111
      obtain rfl := Option.some.inj H
      go_wp2_with (first | ((with_reducible refine gate_dst (N := 34) rfl ?_); refine Kd.R_lit (Kd.int .i64) _ 3 ?hg (N := 34) ?hd (xs := ([1] : List Int)) (inner := [.int .i64 1]) (ok := fun _ => True) (okp := fun _ => True) ?hr ?hp (fun _ hk => hk) trivial (Below.refl _ _) (Nat.le_refl _) (by simp) ?_; (case hd => rfl); (case hg => rfl); (case hr => first | (go_simp; done) | (go_simp; rfl)); (case hp => exact (Reps.one (show Kd.M (Kd.int .i64) _ _ _ 1 [.int .i64 1] from rfl) (Reps.none _ _))); intro v112 w21 ho22 hb hg_ hnew_; clear hg_ hnew_; (first | rw [← Ny111.out] at ho22 | (simp only [Int.reduceToNat] at ho22; rw [← Ny111.out] at ho22)); have n0_ := Aside0.mk (Kd.V_elder' (by (with_reducible repeat (first | apply Kd.V_alloc | apply Kd.V_drewN | apply Kd.V_drew)); exact HO_108002.out) (Kd.R_base ho22) hb); have n1_ := Aside0.mk (Kd.R_lower ho22 (below_size (hbA HB))); have n2_ := Aside0.mk (blk_below (g := gb107) (bkA BK107) hb); have n3_ := Aside0.mk (below_step (hbA HB) hb); clear HO_108002; clear BK107; clear HB; have HO_108002 := n0_; have HO113 := n1_; have BK107 := n2_; have HB := n3_; clear n0_ n1_ n2_ n3_; clear hb ho22))
      go_ret
      exact ⟨_, by first | rfl | (simp [errW_none, errW_some] <;> rfl) | (simp [*, errW_none, errW_some] <;> rfl), krA HO113, hbA HB⟩
     ·
      replace c20 := Bool.eq_false_iff.mpr c20
      subst c20
      have H1 : (if a1 > 9 then (if a0.toList = ([83, 108, 105, 99, 101] : List UInt8) then (some (([1, 2, 3] : List Int))) else (some ([] : List Int))) else (some ([] : List Int))) = some r := by rw [if_neg (show ¬ (false = true) by decide)] at H; exact H
      clear H
      have H := H1
      clear H1
      by_cases c23 : a1 > 9
      ·
       rw [if_pos c23] at H
       have c23b0 : decide (9 < a1) = true := decide_eq_true c23
       clear c23
       by_cases c24 : a0.toList = ([83, 108, 105, 99, 101] : List UInt8)
       ·
        rw [if_pos c24] at H
        have c24b0 : (a0.toList == ([83, 108, 105, 99, 101] : List UInt8)) = true := beq_iff_eq.mpr c24
        have c24b1 : (a0.toList != ([83, 108, 105, 99, 101] : List UInt8)) = false := bne_eq_false_iff_eq.mpr c24
        clear c24
        obtain ⟨y114, hy114⟩ : ∃ y_ : List Int, y_ = (([1, 2, 3] : List Int)) := ⟨_, rfl⟩
        replace H : (some y114) = some r := by first | (rw [hy114]; with_reducible exact H) | (have H2_ := (Option.bind_some _ _).symm.trans H; rw [hy114]; with_reducible exact H2_) | (have H2_ := (Option.bind_some _ _).symm.trans H; with_reducible exact H2_) | with_reducible exact H | (rw [hy114]; exact H) | exact H
        have Ny114 := Aside0.mk hy114
        clear hy114
        obtain rfl := Option.some.inj H
        go_wp2_with (first | ((with_reducible refine gate_dst (N := 42) rfl ?_); refine Kd.R_lit (Kd.int .i64) _ 3 ?hg (N := 42) ?hd (xs := ([1, 2, 3] : List Int)) (inner := [.int .i64 1, .int .i64 2, .int .i64 3]) (ok := fun _ => True) (okp := fun _ => True) ?hr ?hp (fun _ hk => hk) trivial (Below.refl _ _) (Nat.le_refl _) (by simp) ?_; (case hd => rfl); (case hg => rfl); (case hr => first | (go_simp; done) | (go_simp; rfl)); (case hp => exact (Reps.one (show Kd.M (Kd.int .i64) _ _ _ 1 [.int .i64 1] from rfl) (Reps.one (show Kd.M (Kd.int .i64) _ _ _ 2 [.int .i64 2] from rfl) (Reps.one (show Kd.M (Kd.int .i64) _ _ _ 3 [.int .i64 3] from rfl) (Reps.none _ _))))); intro v115 w25 ho26 hb hg_ hnew_; clear hg_ hnew_; (first | rw [← Ny114.out] at ho26 | (simp only [Int.reduceToNat] at ho26; rw [← Ny114.out] at ho26)); have n0_ := Aside0.mk (Kd.V_elder' (by (with_reducible repeat (first | apply Kd.V_alloc | apply Kd.V_drewN | apply Kd.V_drew)); exact HO_108002.out) (Kd.R_base ho26) hb); have n1_ := Aside0.mk (Kd.R_lower ho26 (below_size (hbA HB))); have n2_ := Aside0.mk (blk_below (g := gb107) (bkA BK107) hb); have n3_ := Aside0.mk (below_step (hbA HB) hb); clear HO_108002; clear BK107; clear HB; have HO_108002 := n0_; have HO116 := n1_; have BK107 := n2_; have HB := n3_; clear n0_ n1_ n2_ n3_; clear hb ho26))
        go_ret
        exact ⟨_, by first | rfl | (simp [errW_none, errW_some] <;> rfl) | (simp [*, errW_none, errW_some] <;> rfl), krA HO116, hbA HB⟩
       ·
        rw [if_neg c24] at H
        have c24b0 : (a0.toList == ([83, 108, 105, 99, 101] : List UInt8)) = false := beq_eq_false_iff_ne.mpr c24
        have c24b1 : (a0.toList != ([83, 108, 105, 99, 101] : List UInt8)) = true := bne_iff_ne.mpr c24
        obtain rfl := Option.some.inj H
        go_wp2
        go_ret
        exact ⟨_, by first | rfl | (simp [errW_none, errW_some] <;> rfl) | (simp [*, errW_none, errW_some] <;> rfl), by first | exact Kd.R_nil _ _ _ _ _ | exact Kd.N_nil _ _ _ _ _ | exact Kd.V_nil _ _ _ _ _ | exact Kd.Q_nil _ _ _ _ _ | exact Kd.S_nil _ _ _ _ _, hbA HB⟩
      ·
       rw [if_neg c23] at H
       have c23b0 : decide (9 < a1) = false := decide_eq_false c23
       clear c23
       obtain rfl := Option.some.inj H
       go_wp2
       go_ret
       exact ⟨_, by first | rfl | (simp [errW_none, errW_some] <;> rfl) | (simp [*, errW_none, errW_some] <;> rfl), by first | exact Kd.R_nil _ _ _ _ _ | exact Kd.N_nil _ _ _ _ _ | exact Kd.V_nil _ _ _ _ _ | exact Kd.Q_nil _ _ _ _ _ | exact Kd.S_nil _ _ _ _ _, hbA HB⟩
 ·
  replace c4 := Bool.eq_false_iff.mpr c4
  subst c4
  have H1 : (some ([] : List Int)) = some r := by rw [if_neg (show ¬ (false = true) by decide)] at H; exact H
  clear H
  have H := H1
  clear H1
  obtain rfl := Option.some.inj H
  go_enter Try.func33, Try.ntmps33
  go_wp2_with (first | ((with_reducible refine gate_callee (f := 32) rfl ?_); refine goesL_ (some 10) rfl rfl Try.func32 (by kernel_rfl) rfl #[.string a0, .int .i64 a1] rfl (by (try simp only [List.map_toArray, List.map_cons, List.map_nil]); first | done | rfl | (simp only [List.length_drop, List.length_take]; rfl)) ?_; (with_reducible refine (ops_Find.calls k a0 a1 t101 t102 t103 false _ A3.out).mono ?_); rintro e w27 ⟨v104, rfl, ho0, hb⟩; refine ⟨_, rfl, ?_⟩; have n0_ := Aside0.mk (Kd.V_lower (Kd.V_mono (ok' := fun k_ => True) ho0 (fun k_ hk_ => trivial)) (below_size (hbA HB))); have n1_ := Aside0.mk (below_step (hbA HB) hb); clear HB; have HO105 := n0_; have HB := n1_; clear n0_ n1_; (try clear hb); (try clear hb2); (try clear hk); (try clear hi); (try clear ho0)) | ((with_reducible refine gate_dst (N := 5) rfl ?_); refine box_event ?hg (N := 5) ?hd (cs := #[.int .i64 0, .int .i64 0, .slice none 0 0]) (t := 86) ?hr ?_; (case hd => rfl); (case hg => rfl); (case hr => first | (go_simp; done) | (go_simp; rfl)); intro gb107 hg w28 hbox hb; have n0_ := Aside0.mk (Kd.V_below (Kd.V_elderB (by (with_reducible repeat (first | apply Kd.V_alloc | apply Kd.V_drewN | apply Kd.V_drew)); exact HO105.out) gb107 (Nat.le_of_eq hg.symm)) hb); have n1_ := Aside0.mk (below_step (hbA HB) hb); have n2_ := Aside0.mk (hbox); have n3_ := Aside0.mk ((by rw [hg]; exact (below_size (hbA HB)) : w.heap.size ≤ gb107)); have n4_ := Aside0.mk ((by rw [hg]; exact (below_size (hbA HB)) : w.heap.size ≤ gb107)); clear HO105; clear HB; have HO105 := n0_; have HB := n1_; have BK107 := n2_; have GW107 := n3_; have GE107 := n4_; clear n0_ n1_ n2_ n3_ n4_; clear hb hbox hg; have hcz29_0 : w28.cell? ⟨gb107, 0, none⟩ = some (.int .i64 0) := bcA BK107 0; have hcz29_1 : w28.cell? ⟨gb107, 1, none⟩ = some (.int .i64 0) := bcA BK107 1; have hcz29_2 : w28.cell? ⟨gb107, 2, none⟩ = some (.slice none 0 0) := bcA BK107 2; have hfz29_0 := blk_frozen BK107.out 0; have hfz29_1 := blk_frozen BK107.out 1; have hfz29_2 := blk_frozen BK107.out 2; obtain ⟨Ao30, co30, eo30⟩ := Kd.V_slice HO105.out; subst eo30))
  go_ret
  exact ⟨_, by first | rfl | (simp [errW_none, errW_some] <;> rfl) | (simp [*, errW_none, errW_some] <;> rfl), by first | exact Kd.R_nil _ _ _ _ _ | exact Kd.N_nil _ _ _ _ _ | exact Kd.V_nil _ _ _ _ _ | exact Kd.Q_nil _ _ _ _ _ | exact Kd.S_nil _ _ _ _ _, hbA HB⟩
end Go.Proofs.Ytdemgfbolcmcdaa.X
