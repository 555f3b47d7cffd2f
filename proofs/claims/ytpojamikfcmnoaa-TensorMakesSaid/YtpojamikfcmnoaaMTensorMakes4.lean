import Derived.Test.YtpojamikfcmnoaaMTensorMakes2
import Derived.Test.YtpojamikfcmnoaaMTensorMakes3
import Derived.Laws.BitsLemmas
import Derived.WalkLawsBesides
namespace Go.Proofs.Ytpojamikfcmnoaa.X
open Go.RowKit Go.Proofs.YtpojamikfcmnoaaW.PrintWords Go.Proofs.YtpojamikfcmnoaaW.PrintLast Go.Proofs.YtpojamikfcmnoaaW.PrintMore
attribute [local go_sem] max2_int min2_int max_two min_two max_three min_three max_four min_four
set_option linter.unusedVariables false
set_option linter.unusedSimpArgs false
def tensor_Tensor_Elem.f (a0_0 : ByteArray) (a0_1 : Int) (l0_2 : List Int) (a0_3 : ByteArray) (a1 : Int) : Option (ByteArray) := (kind_Kind_Size.f a0_1).bind fun t102 => (if t102 = 0 then (some (⟨#[]⟩ : ByteArray)) else (if a1 < 0 then (some (⟨#[]⟩ : ByteArray)) else (if a1 ≥ (wrap64 ((a0_3.size : Int) / t102)) then (some (⟨#[]⟩ : ByteArray)) else (if 0 ≤ (wrap64 (a1 * t102)) then (if (wrap64 (a1 * t102)) ≤ (wrap64 ((wrap64 (a1 * t102)) + t102)) then (if (wrap64 ((wrap64 (a1 * t102)) + t102)) ≤ (a0_3.size : Int) then (some (a0_3.extract ((wrap64 (a1 * t102)) : Int).toNat ((wrap64 ((wrap64 (a1 * t102)) + t102)) : Int).toNat)) else (none)) else (none)) else (none)))))
set_option maxHeartbeats 8000000 in
set_option maxRecDepth 100000 in
theorem tensor_Tensor_Elem.calls (a0_0 : ByteArray) (a0_1 : Int) (A0_2 : Option Addr) (c0_2 : Nat) (l0_2 : List Int) (a0_3 : ByteArray) (a1 : Int) (r : ByteArray) (w : World) (hr0_2 : Kd.C (Kd.int .i64) w A0_2 l0_2.length l0_2) (hc0_2 : l0_2.length ≤ c0_2) (h : tensor_Tensor_Elem.f a0_0 a0_1 l0_2 a0_3 a1 = some r) :
  Calls Try.prog 44 #[.agg #[.string a0_0, .int .i64 a0_1, .slice A0_2 l0_2.length c0_2, .string a0_3], .int .i64 a1] w fun e w' => e = .returned (.string r) ∧ Below w.heap.size w w' := by
 have hu62 := Try.underlying62
 have HR0_2 := Aside0.mk hr0_2
 have HC0_2 := Aside0.mk hc0_2
 clear hr0_2 hc0_2
 have HB := Aside0.mk (Below.refl w.heap.size w)
 have H : ((kind_Kind_Size.f a0_1).bind fun t102 => (if t102 = 0 then (some (⟨#[]⟩ : ByteArray)) else (if a1 < 0 then (some (⟨#[]⟩ : ByteArray)) else (if a1 ≥ (wrap64 ((a0_3.size : Int) / t102)) then (some (⟨#[]⟩ : ByteArray)) else (if 0 ≤ (wrap64 (a1 * t102)) then (if (wrap64 (a1 * t102)) ≤ (wrap64 ((wrap64 (a1 * t102)) + t102)) then (if (wrap64 ((wrap64 (a1 * t102)) + t102)) ≤ (a0_3.size : Int) then (some (a0_3.extract ((wrap64 (a1 * t102)) : Int).toNat ((wrap64 ((wrap64 (a1 * t102)) + t102)) : Int).toNat)) else (none)) else (none)) else (none)))))) = some r := h
 clear h
 replace H := Option.bind_eq_some_iff.mp H
 obtain ⟨t102, A30, H⟩ := H
 replace H : (if t102 = 0 then (some (⟨#[]⟩ : ByteArray)) else (if a1 < 0 then (some (⟨#[]⟩ : ByteArray)) else (if a1 ≥ (wrap64 ((a0_3.size : Int) / t102)) then (some (⟨#[]⟩ : ByteArray)) else (if 0 ≤ (wrap64 (a1 * t102)) then (if (wrap64 (a1 * t102)) ≤ (wrap64 ((wrap64 (a1 * t102)) + t102)) then (if (wrap64 ((wrap64 (a1 * t102)) + t102)) ≤ (a0_3.size : Int) then (some (a0_3.extract ((wrap64 (a1 * t102)) : Int).toNat ((wrap64 ((wrap64 (a1 * t102)) + t102)) : Int).toNat)) else (none)) else (none)) else (none))))) = some r := H
 have A3 := Aside0.mk A30
 clear A30
 by_cases c4 : t102 = 0
 ·
  rw [if_pos c4] at H
  have c4b0 : (t102 == 0) = true := beq_iff_eq.mpr c4
  have c4b1 : (t102 != 0) = false := bne_eq_false_iff_eq.mpr c4
  clear c4
  obtain rfl := Option.some.inj H
  go_enter Try.func44, Try.ntmps44
  go_wp2_with (first | ((with_reducible refine gate_dst (N := 2) rfl ?_); (try (refine gate_guard (by rfl) ?_; dsimp only)); refine box_event ?hg (N := 2) ?hd (cs := #[.string a0_0, .int .i64 a0_1, .slice A0_2 l0_2.length c0_2, .string a0_3]) (t := 62) ?hr ?_; (case hd => rfl); (case hg => rfl); (case hr => first | (go_simp; done) | (go_simp; rfl)); intro gb101 hg w5 hbox hb; have n0_ := Aside0.mk (below_step (hbA HB) hb); have n1_ := Aside0.mk (hbox); have n2_ := Aside0.mk ((by rw [hg]; exact (below_size (hbA HB)) : w.heap.size ≤ gb101)); have n3_ := Aside0.mk ((by rw [hg]; exact (below_size (hbA HB)) : w.heap.size ≤ gb101)); clear HB; have HB := n0_; have BK101 := n1_; have GW101 := n2_; have GE101 := n3_; clear n0_ n1_ n2_ n3_; clear hb hbox hg; have hcz6_0 : w5.cell? ⟨gb101, 0, none⟩ = some (.string a0_0) := bcA BK101 0; have hcz6_1 : w5.cell? ⟨gb101, 1, none⟩ = some (.int .i64 a0_1) := bcA BK101 1; have hcz6_2 : w5.cell? ⟨gb101, 2, none⟩ = some (.slice A0_2 l0_2.length c0_2) := bcA BK101 2; have hcz6_3 : w5.cell? ⟨gb101, 3, none⟩ = some (.string a0_3) := bcA BK101 3; have hfz6_0 := blk_frozen BK101.out 0; have hfz6_1 := blk_frozen BK101.out 1; have hfz6_2 := blk_frozen BK101.out 2; have hfz6_3 := blk_frozen BK101.out 3) | ((with_reducible refine gate_callee (f := 67) rfl ?_); refine goesL_ (some 8) rfl rfl Try.func67 (by kernel_rfl) rfl #[.int .i64 a0_1] rfl (by (try simp only [List.map_toArray, List.map_cons, List.map_nil]); first | done | rfl | (simp only [List.length_drop, List.length_take]; rfl)) ?_; (with_reducible refine (kind_Kind_Size.calls a0_1 t102 _ A3.out).mono ?_); rintro e w7 ⟨rfl, hb⟩; refine ⟨_, rfl, ?_⟩; have n0_ := Aside0.mk (blk_below (g := gb101) (bkA BK101) hb); have n1_ := Aside0.mk (below_step (hbA HB) hb); clear BK101; clear HB; have BK101 := n0_; have HB := n1_; clear n0_ n1_; (try clear hb); (try clear hb2); (try clear hk); (try clear hi)))
  go_ret
  exact ⟨by first | rfl | (simp [errW_none, errW_some] <;> rfl) | (simp [*, errW_none, errW_some] <;> rfl), hbA HB⟩
 ·
  rw [if_neg c4] at H
  have c4b0 : (t102 == 0) = false := beq_eq_false_iff_ne.mpr c4
  have c4b1 : (t102 != 0) = true := bne_iff_ne.mpr c4
  by_cases c8 : a1 < 0
  ·
   rw [if_pos c8] at H
   have c8b0 : decide (a1 < 0) = true := decide_eq_true c8
   clear c8
   obtain rfl := Option.some.inj H
   go_enter Try.func44, Try.ntmps44
   go_wp2_with (first | ((with_reducible refine gate_dst (N := 2) rfl ?_); (try (refine gate_guard (by rfl) ?_; dsimp only)); refine box_event ?hg (N := 2) ?hd (cs := #[.string a0_0, .int .i64 a0_1, .slice A0_2 l0_2.length c0_2, .string a0_3]) (t := 62) ?hr ?_; (case hd => rfl); (case hg => rfl); (case hr => first | (go_simp; done) | (go_simp; rfl)); intro gb101 hg w9 hbox hb; have n0_ := Aside0.mk (below_step (hbA HB) hb); have n1_ := Aside0.mk (hbox); have n2_ := Aside0.mk ((by rw [hg]; exact (below_size (hbA HB)) : w.heap.size ≤ gb101)); have n3_ := Aside0.mk ((by rw [hg]; exact (below_size (hbA HB)) : w.heap.size ≤ gb101)); clear HB; have HB := n0_; have BK101 := n1_; have GW101 := n2_; have GE101 := n3_; clear n0_ n1_ n2_ n3_; clear hb hbox hg; have hcz10_0 : w9.cell? ⟨gb101, 0, none⟩ = some (.string a0_0) := bcA BK101 0; have hcz10_1 : w9.cell? ⟨gb101, 1, none⟩ = some (.int .i64 a0_1) := bcA BK101 1; have hcz10_2 : w9.cell? ⟨gb101, 2, none⟩ = some (.slice A0_2 l0_2.length c0_2) := bcA BK101 2; have hcz10_3 : w9.cell? ⟨gb101, 3, none⟩ = some (.string a0_3) := bcA BK101 3; have hfz10_0 := blk_frozen BK101.out 0; have hfz10_1 := blk_frozen BK101.out 1; have hfz10_2 := blk_frozen BK101.out 2; have hfz10_3 := blk_frozen BK101.out 3) | ((with_reducible refine gate_callee (f := 67) rfl ?_); refine goesL_ (some 8) rfl rfl Try.func67 (by kernel_rfl) rfl #[.int .i64 a0_1] rfl (by (try simp only [List.map_toArray, List.map_cons, List.map_nil]); first | done | rfl | (simp only [List.length_drop, List.length_take]; rfl)) ?_; (with_reducible refine (kind_Kind_Size.calls a0_1 t102 _ A3.out).mono ?_); rintro e w11 ⟨rfl, hb⟩; refine ⟨_, rfl, ?_⟩; have n0_ := Aside0.mk (blk_below (g := gb101) (bkA BK101) hb); have n1_ := Aside0.mk (below_step (hbA HB) hb); clear BK101; clear HB; have BK101 := n0_; have HB := n1_; clear n0_ n1_; (try clear hb); (try clear hb2); (try clear hk); (try clear hi)))
   go_ret
   exact ⟨by first | rfl | (simp [errW_none, errW_some] <;> rfl) | (simp [*, errW_none, errW_some] <;> rfl), hbA HB⟩
  ·
   rw [if_neg c8] at H
   have c8b0 : decide (a1 < 0) = false := decide_eq_false c8
   clear c8
   by_cases c12 : a1 ≥ (wrap64 ((a0_3.size : Int) / t102))
   ·
    rw [if_pos c12] at H
    have c12b0 : decide ((wrap64 ((a0_3.size : Int) / t102)) ≤ a1) = true := decide_eq_true c12
    clear c12
    obtain rfl := Option.some.inj H
    go_enter Try.func44, Try.ntmps44
    go_wp2_with (first | ((with_reducible refine gate_dst (N := 2) rfl ?_); (try (refine gate_guard (by rfl) ?_; dsimp only)); refine box_event ?hg (N := 2) ?hd (cs := #[.string a0_0, .int .i64 a0_1, .slice A0_2 l0_2.length c0_2, .string a0_3]) (t := 62) ?hr ?_; (case hd => rfl); (case hg => rfl); (case hr => first | (go_simp; done) | (go_simp; rfl)); intro gb101 hg w13 hbox hb; have n0_ := Aside0.mk (below_step (hbA HB) hb); have n1_ := Aside0.mk (hbox); have n2_ := Aside0.mk ((by rw [hg]; exact (below_size (hbA HB)) : w.heap.size ≤ gb101)); have n3_ := Aside0.mk ((by rw [hg]; exact (below_size (hbA HB)) : w.heap.size ≤ gb101)); clear HB; have HB := n0_; have BK101 := n1_; have GW101 := n2_; have GE101 := n3_; clear n0_ n1_ n2_ n3_; clear hb hbox hg; have hcz14_0 : w13.cell? ⟨gb101, 0, none⟩ = some (.string a0_0) := bcA BK101 0; have hcz14_1 : w13.cell? ⟨gb101, 1, none⟩ = some (.int .i64 a0_1) := bcA BK101 1; have hcz14_2 : w13.cell? ⟨gb101, 2, none⟩ = some (.slice A0_2 l0_2.length c0_2) := bcA BK101 2; have hcz14_3 : w13.cell? ⟨gb101, 3, none⟩ = some (.string a0_3) := bcA BK101 3; have hfz14_0 := blk_frozen BK101.out 0; have hfz14_1 := blk_frozen BK101.out 1; have hfz14_2 := blk_frozen BK101.out 2; have hfz14_3 := blk_frozen BK101.out 3) | ((with_reducible refine gate_callee (f := 67) rfl ?_); refine goesL_ (some 8) rfl rfl Try.func67 (by kernel_rfl) rfl #[.int .i64 a0_1] rfl (by (try simp only [List.map_toArray, List.map_cons, List.map_nil]); first | done | rfl | (simp only [List.length_drop, List.length_take]; rfl)) ?_; (with_reducible refine (kind_Kind_Size.calls a0_1 t102 _ A3.out).mono ?_); rintro e w15 ⟨rfl, hb⟩; refine ⟨_, rfl, ?_⟩; have n0_ := Aside0.mk (blk_below (g := gb101) (bkA BK101) hb); have n1_ := Aside0.mk (below_step (hbA HB) hb); clear BK101; clear HB; have BK101 := n0_; have HB := n1_; clear n0_ n1_; (try clear hb); (try clear hb2); (try clear hk); (try clear hi); have hcz16_0 : w15.cell? ⟨gb101, 0, none⟩ = some (.string a0_0) := bcA BK101 0; have hcz16_1 : w15.cell? ⟨gb101, 1, none⟩ = some (.int .i64 a0_1) := bcA BK101 1; have hcz16_2 : w15.cell? ⟨gb101, 2, none⟩ = some (.slice A0_2 l0_2.length c0_2) := bcA BK101 2; have hcz16_3 : w15.cell? ⟨gb101, 3, none⟩ = some (.string a0_3) := bcA BK101 3; have hfz16_0 := blk_frozen BK101.out 0; have hfz16_1 := blk_frozen BK101.out 1; have hfz16_2 := blk_frozen BK101.out 2; have hfz16_3 := blk_frozen BK101.out 3))
    go_ret
    exact ⟨by first | rfl | (simp [errW_none, errW_some] <;> rfl) | (simp [*, errW_none, errW_some] <;> rfl), hbA HB⟩
   ·
    rw [if_neg c12] at H
    have c12b0 : decide ((wrap64 ((a0_3.size : Int) / t102)) ≤ a1) = false := decide_eq_false c12
    clear c12
    obtain ⟨ji17, hji17⟩ : ∃ j_ : Int, (wrap64 (a1 * t102)) = j_ := ⟨_, rfl⟩
    replace H : (if 0 ≤ (ji17) then (if (ji17) ≤ (wrap64 ((ji17) + t102)) then (if (wrap64 ((ji17) + t102)) ≤ (a0_3.size : Int) then (some (a0_3.extract ((ji17) : Int).toNat ((wrap64 ((ji17) + t102)) : Int).toNat)) else (none)) else (none)) else (none)) = some r := by first | (rw [hji17] at H; exact H) | (simp only [hji17] at H ⊢; exact H)
    (try rw [hji17] at A3)
    have hji17w : (IntKind.i64.wrap (a1 * t102)) = ji17 := (i64_w _).trans hji17
    by_cases c18 : 0 ≤ (ji17)
    ·
     rw [if_pos c18] at H
     have c18b0 := eq_true c18
     have c18b1 : decide (0 ≤ (ji17)) = true := decide_eq_true c18
     clear c18
     by_cases c19 : (ji17) ≤ (wrap64 ((ji17) + t102))
     ·
      rw [if_pos c19] at H
      have c19b0 := eq_true c19
      have c19b1 : decide ((ji17) ≤ (wrap64 ((ji17) + t102))) = true := decide_eq_true c19
      by_cases c20 : (wrap64 ((ji17) + t102)) ≤ (a0_3.size : Int)
      ·
       rw [if_pos c20] at H
       have c20b0 := eq_true c20
       have c20b1 : decide ((wrap64 ((ji17) + t102)) ≤ (a0_3.size : Int)) = true := decide_eq_true c20
       obtain rfl := Option.some.inj H
       go_enter Try.func44, Try.ntmps44
       go_wp2_with (first | ((with_reducible refine gate_dst (N := 2) rfl ?_); (try (refine gate_guard (by rfl) ?_; dsimp only)); refine box_event ?hg (N := 2) ?hd (cs := #[.string a0_0, .int .i64 a0_1, .slice A0_2 l0_2.length c0_2, .string a0_3]) (t := 62) ?hr ?_; (case hd => rfl); (case hg => rfl); (case hr => first | (go_simp; done) | (go_simp; rfl)); intro gb101 hg w21 hbox hb; have n0_ := Aside0.mk (below_step (hbA HB) hb); have n1_ := Aside0.mk (hbox); have n2_ := Aside0.mk ((by rw [hg]; exact (below_size (hbA HB)) : w.heap.size ≤ gb101)); have n3_ := Aside0.mk ((by rw [hg]; exact (below_size (hbA HB)) : w.heap.size ≤ gb101)); clear HB; have HB := n0_; have BK101 := n1_; have GW101 := n2_; have GE101 := n3_; clear n0_ n1_ n2_ n3_; clear hb hbox hg; have hcz22_0 : w21.cell? ⟨gb101, 0, none⟩ = some (.string a0_0) := bcA BK101 0; have hcz22_1 : w21.cell? ⟨gb101, 1, none⟩ = some (.int .i64 a0_1) := bcA BK101 1; have hcz22_2 : w21.cell? ⟨gb101, 2, none⟩ = some (.slice A0_2 l0_2.length c0_2) := bcA BK101 2; have hcz22_3 : w21.cell? ⟨gb101, 3, none⟩ = some (.string a0_3) := bcA BK101 3; have hfz22_0 := blk_frozen BK101.out 0; have hfz22_1 := blk_frozen BK101.out 1; have hfz22_2 := blk_frozen BK101.out 2; have hfz22_3 := blk_frozen BK101.out 3) | ((with_reducible refine gate_callee (f := 67) rfl ?_); refine goesL_ (some 8) rfl rfl Try.func67 (by kernel_rfl) rfl #[.int .i64 a0_1] rfl (by (try simp only [List.map_toArray, List.map_cons, List.map_nil]); first | done | rfl | (simp only [List.length_drop, List.length_take]; rfl)) ?_; (with_reducible refine (kind_Kind_Size.calls a0_1 t102 _ A3.out).mono ?_); rintro e w23 ⟨rfl, hb⟩; refine ⟨_, rfl, ?_⟩; have n0_ := Aside0.mk (blk_below (g := gb101) (bkA BK101) hb); have n1_ := Aside0.mk (below_step (hbA HB) hb); clear BK101; clear HB; have BK101 := n0_; have HB := n1_; clear n0_ n1_; (try clear hb); (try clear hb2); (try clear hk); (try clear hi); have hcz24_0 : w23.cell? ⟨gb101, 0, none⟩ = some (.string a0_0) := bcA BK101 0; have hcz24_1 : w23.cell? ⟨gb101, 1, none⟩ = some (.int .i64 a0_1) := bcA BK101 1; have hcz24_2 : w23.cell? ⟨gb101, 2, none⟩ = some (.slice A0_2 l0_2.length c0_2) := bcA BK101 2; have hcz24_3 : w23.cell? ⟨gb101, 3, none⟩ = some (.string a0_3) := bcA BK101 3; have hfz24_0 := blk_frozen BK101.out 0; have hfz24_1 := blk_frozen BK101.out 1; have hfz24_2 := blk_frozen BK101.out 2; have hfz24_3 := blk_frozen BK101.out 3))
       go_ret
       exact ⟨by first | rfl | (simp [errW_none, errW_some] <;> rfl) | (simp only [← hji17]; first | rfl | (simp [errW_none, errW_some] <;> rfl)) | (simp [*, errW_none, errW_some] <;> rfl), hbA HB⟩
      ·
       rw [if_neg c20] at H
       exact absurd H (by simp)
     ·
      rw [if_neg c19] at H
      exact absurd H (by simp)
    ·
     rw [if_neg c18] at H
     exact absurd H (by simp)
end Go.Proofs.Ytpojamikfcmnoaa.X
namespace Go.Proofs.Ytpojamikfcmnoaa.X
open Go.RowKit Go.Proofs.YtpojamikfcmnoaaW.PrintWords Go.Proofs.YtpojamikfcmnoaaW.PrintLast Go.Proofs.YtpojamikfcmnoaaW.PrintMore
attribute [local go_sem] max2_int min2_int max_two min_two max_three min_three max_four min_four
set_option linter.unusedVariables false
set_option linter.unusedSimpArgs false
def gauss_bits.f (a0 : ByteArray) : Option (Int) := if 0 < (a0.size : Int) then (if 1 < (a0.size : Int) then (if 2 < (a0.size : Int) then (if 3 < (a0.size : Int) then (some (Go.bits .or .u32 (Go.bits .or .u32 (Go.bits .or .u32 ((bt a0 0) % 4294967296) ((((bt a0 1) % 4294967296) * 256) % 4294967296)) ((((bt a0 2) % 4294967296) * 65536) % 4294967296)) ((((bt a0 3) % 4294967296) * 16777216) % 4294967296))) else (none)) else (none)) else (none)) else (none)
set_option maxHeartbeats 8000000 in
set_option maxRecDepth 100000 in
theorem gauss_bits.calls (a0 : ByteArray) (r : Int) (w : World) (h : gauss_bits.f a0 = some r) :
    Calls Try.prog 61 #[.string a0] w fun e w' => e = .returned (.int .u32 r) ∧ Drawn0 w w' := by
  have H : (if 0 < (a0.size : Int) then (if 1 < (a0.size : Int) then (if 2 < (a0.size : Int) then (if 3 < (a0.size : Int) then (some (Go.bits .or .u32 (Go.bits .or .u32 (Go.bits .or .u32 ((bt a0 0) % 4294967296) ((((bt a0 1) % 4294967296) * 256) % 4294967296)) ((((bt a0 2) % 4294967296) * 65536) % 4294967296)) ((((bt a0 3) % 4294967296) * 16777216) % 4294967296))) else (none)) else (none)) else (none)) else (none)) = some r := h
  clear h
  by_cases c2 : 0 < (a0.size : Int)
  · rw [if_pos c2] at H
    have c2b0 : decide (0 < (a0.size : Int)) = true := decide_eq_true c2
    have c2b1 : decide (0 < a0.size) = true := decide_eq_true (by omega)
    clear c2
    by_cases c4 : 1 < (a0.size : Int)
    · rw [if_pos c4] at H
      have c4b0 : decide (1 < (a0.size : Int)) = true := decide_eq_true c4
      have c4b1 : decide (1 < a0.size) = true := decide_eq_true (by omega)
      clear c4
      by_cases c6 : 2 < (a0.size : Int)
      · rw [if_pos c6] at H
        have c6b0 : decide (2 < (a0.size : Int)) = true := decide_eq_true c6
        have c6b1 : decide (2 < a0.size) = true := decide_eq_true (by omega)
        clear c6
        by_cases c8 : 3 < (a0.size : Int)
        · rw [if_pos c8] at H
          have c8b0 : decide (3 < (a0.size : Int)) = true := decide_eq_true c8
          have c8b1 : decide (3 < a0.size) = true := decide_eq_true (by omega)
          clear c8
          obtain rfl := Option.some.inj H
          have p3 : 0 ≤ (0 : Int) := (by omega)
          have q3 : 0 < a0.size := (by have : (0 : Int) < (a0.size : Int) := of_decide_eq_true (by first | (with_reducible assumption) | assumption); omega)
          have hx3 : ∀ h : 0 < a0.size, ((a0[0]'h).toNat : Int) = bt a0 0 := bt_at a0 0
          clear p3
          have qi3 : (0 < (a0.size : Int)) = True := eq_true (of_decide_eq_true (by first | (with_reducible assumption) | assumption))
          replace q3 := eq_true q3
          have p5 : 0 ≤ (1 : Int) := (by omega)
          have q5 : 1 < a0.size := (by have : (1 : Int) < (a0.size : Int) := of_decide_eq_true (by first | (with_reducible assumption) | assumption); omega)
          have hx5 : ∀ h : 1 < a0.size, ((a0[1]'h).toNat : Int) = bt a0 1 := bt_at a0 1
          clear p5
          have qi5 : (1 < (a0.size : Int)) = True := eq_true (of_decide_eq_true (by first | (with_reducible assumption) | assumption))
          replace q5 := eq_true q5
          have p7 : 0 ≤ (2 : Int) := (by omega)
          have q7 : 2 < a0.size := (by have : (2 : Int) < (a0.size : Int) := of_decide_eq_true (by first | (with_reducible assumption) | assumption); omega)
          have hx7 : ∀ h : 2 < a0.size, ((a0[2]'h).toNat : Int) = bt a0 2 := bt_at a0 2
          clear p7
          have qi7 : (2 < (a0.size : Int)) = True := eq_true (of_decide_eq_true (by first | (with_reducible assumption) | assumption))
          replace q7 := eq_true q7
          have p9 : 0 ≤ (3 : Int) := (by omega)
          have q9 : 3 < a0.size := (by have : (3 : Int) < (a0.size : Int) := of_decide_eq_true (by first | (with_reducible assumption) | assumption); omega)
          have hx9 : ∀ h : 3 < a0.size, ((a0[3]'h).toNat : Int) = bt a0 3 := bt_at a0 3
          clear p9
          have qi9 : (3 < (a0.size : Int)) = True := eq_true (of_decide_eq_true (by first | (with_reducible assumption) | assumption))
          replace q9 := eq_true q9
          go_enter Try.func61, Try.ntmps61
          go_wp2
          repeat (go_quiet (fail); try go_wp2)
          go_ret
          exact ⟨by first | rfl | (simp; done) | (simp [*]; done), by repeat (first | exact Drawn0.refl _ | apply Drawn0.step)⟩
        · rw [if_neg c8] at H
          exact absurd H (by simp)
      · rw [if_neg c6] at H
        exact absurd H (by simp)
    · rw [if_neg c4] at H
      exact absurd H (by simp)
  · rw [if_neg c2] at H
    exact absurd H (by simp)
end Go.Proofs.Ytpojamikfcmnoaa.X
namespace Go.Proofs.Ytpojamikfcmnoaa.X
open Go.RowKit Go.Proofs.YtpojamikfcmnoaaW.PrintWords Go.Proofs.YtpojamikfcmnoaaW.PrintLast Go.Proofs.YtpojamikfcmnoaaW.PrintMore
attribute [local go_sem] max2_int min2_int max_two min_two max_three min_three max_four min_four
set_option linter.unusedVariables false
set_option linter.unusedSimpArgs false
def wd (b : ByteArray) : Nat := ((bt b 0) + (bt b 1) * 256 + (bt b 2) * 65536 + (bt b 3) * 16777216).toNat
theorem wd_eq (b : ByteArray) : ((wd b : Nat) : Int) = (bt b 0) + (bt b 1) * 256 + (bt b 2) * 65536 + (bt b 3) * 16777216 := by
  have h0 := bt_range b 0
  have h1 := bt_range b 1
  have h2 := bt_range b 2
  have h3 := bt_range b 3
  unfold wd; omega
theorem wd_lt (b : ByteArray) : wd b < 4294967296 := by
  have h := wd_eq b
  have h0 := bt_range b 0
  have h1 := bt_range b 1
  have h2 := bt_range b 2
  have h3 := bt_range b 3
  omega
theorem or_low (x y : Int) (i : Nat) (hx0 : 0 ≤ x) (hx : x < 2 ^ i) (hy0 : 0 ≤ y) (hy : y % 2 ^ i = 0) (hx1 : x < 4294967296) (hy1 : y < 4294967296) : Go.bits .or .u32 x y = x + y := by
  have hc : Go.bits .or .u32 x y = Go.bits .or .u32 y x := by simp only [Go.bits, BitVec.or_comm]
  rw [hc, bits_join .u32 32 (by decide) (fun n h0 h1 => by rw [IntKind.wrap_u32]; omega) i y x hy0 hy (by omega) hx0 hx (by omega)]
  omega
end Go.Proofs.Ytpojamikfcmnoaa.X
namespace Go.Proofs.Ytpojamikfcmnoaa.X
open Go.RowKit Go.Proofs.YtpojamikfcmnoaaW.PrintWords Go.Proofs.YtpojamikfcmnoaaW.PrintLast Go.Proofs.YtpojamikfcmnoaaW.PrintMore
attribute [local go_sem] max2_int min2_int max_two min_two max_three min_three max_four min_four
set_option linter.unusedVariables false
set_option linter.unusedSimpArgs false
def gauss_bits_s.f (a0 : ByteArray) : Option Int := if 4 ≤ a0.size then some (wd a0 : Int) else none
theorem gauss_bits_s.ev (a0 : ByteArray) (r) (h : gauss_bits_s.f a0 = some r) : ∃ k : Nat, gauss_bits.f a0 = some r := by
  refine ⟨0, ?_⟩
  unfold gauss_bits_s.f at h
  split at h
  · rename_i hs
    rw [← h]
    unfold gauss_bits.f
    have h0 := bt_range a0 0
    have h1 := bt_range a0 1
    have h2 := bt_range a0 2
    have h3 := bt_range a0 3
    rw [if_pos (by omega), if_pos (by omega), if_pos (by omega), if_pos (by omega), wd_eq]
    generalize bt a0 0 = x0 at *
    generalize bt a0 1 = x1 at *
    generalize bt a0 2 = x2 at *
    generalize bt a0 3 = x3 at *
    rw [show x0 % 4294967296 = x0 by omega, show x1 % 4294967296 * 256 % 4294967296 = x1 * 256 by omega, show x2 % 4294967296 * 65536 % 4294967296 = x2 * 65536 by omega, show x3 % 4294967296 * 16777216 % 4294967296 = x3 * 16777216 by omega,
      or_low x0 (x1 * 256) 8 (by omega) (by omega) (by omega) (by omega) (by omega) (by omega), or_low (x0 + x1 * 256) (x2 * 65536) 16 (by omega) (by omega) (by omega) (by omega) (by omega) (by omega), or_low (x0 + x1 * 256 + x2 * 65536) (x3 * 16777216) 24 (by omega) (by omega) (by omega) (by omega) (by omega) (by omega)]
  · cases h
set_option maxHeartbeats 1000000 in
theorem gauss_bits_s.calls (a0 : ByteArray) (r : Int) (w : World) (h : gauss_bits_s.f a0 = some r) :
    Calls Try.prog 61 #[.string a0] w fun e w' => e = .returned (.int .u32 r) ∧ Drawn0 w w' := by
  obtain ⟨k, hk⟩ := gauss_bits_s.ev a0 _ h
  exact gauss_bits.calls a0 r w hk
end Go.Proofs.Ytpojamikfcmnoaa.X
namespace Go.Proofs.Ytpojamikfcmnoaa.X
open Go.RowKit Go.Proofs.YtpojamikfcmnoaaW.PrintWords Go.Proofs.YtpojamikfcmnoaaW.PrintLast Go.Proofs.YtpojamikfcmnoaaW.PrintMore
attribute [local go_sem] max2_int min2_int max_two min_two max_three min_three max_four min_four
set_option linter.unusedVariables false
set_option linter.unusedSimpArgs false
theorem cut_le (f : Ieee.Format) (s : Bool) (m : Nat) (p last : Int) (hm : m ≠ 0) (hl : p + (m.log2 : Int) - f.fractionBits ≤ last) : Ieee.Toward.even.cut s (m <<< (p - last).toNat) (last - p).toNat ≤ 2 * f.binade := by
  have hL := ((Nat.log2_eq_iff hm).1 rfl).2
  have hB : 2 * f.binade = 2 ^ (f.fractionBits + 1) := by rw [Nat.pow_succ, Nat.mul_comm]; rfl
  rw [hB, Nat.shiftLeft_eq]
  by_cases h : last ≤ p
  · rw [show (last - p).toNat = 0 by omega, cut_nought]
    have h1 : m * 2 ^ (p - last).toNat < 2 ^ (m.log2 + 1) * 2 ^ (p - last).toNat := (Nat.mul_lt_mul_right (Nat.two_pow_pos _)).2 hL
    rw [← Nat.pow_add] at h1
    exact Nat.le_of_lt (Nat.lt_of_lt_of_le h1 (Nat.pow_le_pow_right (by decide) (by omega)))
  · rw [show (p - last).toNat = 0 by omega, Nat.pow_zero, Nat.mul_one]
    unfold Ieee.Toward.cut
    dsimp only
    have hb : ∀ b : Bool, b.toNat ≤ 1 := fun b => by cases b <;> decide
    refine Nat.le_trans (Nat.add_le_add_left (hb _) _) ?_
    rw [Nat.one_shiftLeft]
    by_cases hd : (last - p).toNat ≤ m.log2 + 2
    · rw [Nat.min_eq_left hd]
      have h2 : m < 2 ^ (last - p).toNat * 2 ^ (f.fractionBits + 1) := by
        rw [← Nat.pow_add]
        exact Nat.lt_of_lt_of_le hL (Nat.pow_le_pow_right (by decide) (by omega))
      exact Nat.div_lt_of_lt_mul h2
    · rw [Nat.min_eq_right (by omega)]
      have h2 : m < 2 ^ (m.log2 + 2) := Nat.lt_of_lt_of_le hL (Nat.pow_le_pow_right (by decide) (by omega))
      rw [Nat.div_eq_of_lt h2]
      exact Nat.two_pow_pos _
theorem read_of_rung (f : Ieee.Format) (s : Bool) (r : Nat) (h : r ≤ f.infRung) : (∃ k q, f.read (f.word s r) = .number s k q) ∨ (r = f.infRung ∧ f.read (f.word s r) = .infinity s) := by
  have hsw := f.infRung_lt
  obtain ⟨r1, r2⟩ := read_word f s r (by omega)
  unfold Ieee.Format.read
  rw [r1, r2]
  by_cases h1 : r < f.binade
  · exact Or.inl ⟨r, f.leastPlace, if_pos h1⟩
  · by_cases h2 : r < f.infRung
    · refine Or.inl ⟨f.binade + r % f.binade, f.leastPlace + (r / f.binade - 1 : Nat), ?_⟩
      show (if r < f.binade then _ else if r < f.infRung then _ else _) = _
      rw [if_neg h1, if_pos h2]
    · refine Or.inr ⟨by omega, ?_⟩
      show (if r < f.binade then _ else if r < f.infRung then _ else if r = f.infRung then _ else _) = _
      rw [if_neg h1, if_neg h2, if_pos (by omega)]
theorem read_nearest_fin (f : Ieee.Format) (s : Bool) (m : Nat) (p : Int) (ht : (max (p + (m.log2 : Int) - f.fractionBits) f.leastPlace - f.leastPlace).toNat + 4 ≤ 2 ^ f.exponentBits) : ∃ k q, f.read (f.nearest s m p) = .number s k q := by
  unfold Ieee.Format.nearest
  by_cases hm : m = 0
  · rw [if_pos hm]
    obtain ⟨k, q, h, _⟩ := num_zero f s
    exact ⟨k, q, h⟩
  · rw [if_neg hm]
    dsimp only
    generalize hL : max (p + (m.log2 : Int) - f.fractionBits) f.leastPlace = last at ht
    have hc := cut_le f s m p last hm (by omega)
    generalize Ieee.Toward.even.cut s (m <<< (p - last).toNat) (last - p).toNat = K at hc
    have hB : 0 < f.binade := Nat.two_pow_pos _
    have hr : (last - f.leastPlace).toNat * f.binade + K < f.infRung := by
      unfold Ieee.Format.infRung
      have h1 : ((last - f.leastPlace).toNat + 3) * f.binade ≤ (2 ^ f.exponentBits - 1) * f.binade := Nat.mul_le_mul_right _ (by omega)
      rw [Nat.add_mul] at h1; omega
    rw [Nat.min_eq_left (Nat.le_of_lt hr)]
    rcases read_of_rung f s _ (Nat.le_of_lt hr) with h | ⟨h, _⟩
    · exact h
    · omega
theorem F_eq (n : Int) : floatOfInt .f64 n = dI (decide (n < 0)) n.natAbs := rfl
theorem sgn_int (n : Int) : sgn (decide (n < 0)) n.natAbs = n := by
  unfold sgn
  by_cases h : n < 0
  · rw [if_pos (decide_eq_true h)]; omega
  · rw [if_neg (by simp; omega)]; omega
theorem F_int (n : Int) (h0 : -9007199254740992 < n) (h1 : n < 9007199254740992) : IntF (floatOfInt .f64 n) (decide (n < 0)) n.natAbs := dI_int _ _ (by omega)
theorem F_lt (n : Int) : floatOfInt .f64 n < 18446744073709551616 := Ieee.double.nearest_lt _ _ _
theorem part_F (n : Int) (h0 : -9007199254740992 < n) (h1 : n < 9007199254740992) : partE (floatOfInt .f64 n) = decide (-1048576 ≤ n ∧ n ≤ 1048576) := by
  rw [part_int (F_lt n) (F_int n h0 h1)]
  have e : (decide (n.natAbs ≠ 0) || !decide (n < 0)) = true := by
    by_cases h : n < 0
    · rw [decide_eq_true (show n.natAbs ≠ 0 by omega)]; rfl
    · rw [decide_eq_false h]; simp
  rw [e, Bool.and_true, decide_eq_decide]
  omega
theorem F32 (n : Int) (h0 : -16777216 < n) (h1 : n < 16777216) : floatToFloatBits .f64 (floatOfInt .f64 n) .f32 = some (floatOfInt .f32 n) := by
  obtain ⟨m, p, e1, h2, h3, h4⟩ := int_place (F_int n (by omega) (by omega))
  have e2 : FloatKind.f64.decode (floatOfInt .f64 n) = .number (decide (n < 0)) m p := e1
  have ew : Ieee.single.nearest (decide (n < 0)) m p = Ieee.single.nearest (decide (n < 0)) n.natAbs 0 := by
    rcases h2 with ⟨ha, hm⟩ | ⟨ha, hp⟩
    · rw [ha, hm, word_zero, word_zero]
    · refine nearest_value Ieee.single _ m n.natAbs p 0 (by rw [sl]; omega) (by rw [sl]; decide) ?_
      rw [sl]
      obtain ⟨E, hE⟩ : ∃ E : Nat, E = 1074 := ⟨_, rfl⟩
      have hU : Ubig = 2 ^ E := by rw [hE]; exact Ubig_eq
      obtain ⟨W, hW⟩ : ∃ W : Nat, W = 2 ^ (E - 149) := ⟨_, rfl⟩
      have hW0 : 0 < W := by rw [hW]; exact Nat.two_pow_pos _
      have e3 : 2 ^ (p - (-149 : Int)).toNat * W = 2 ^ (p + 1074).toNat := by
        rw [hW, ← Nat.pow_add, show (p - (-149 : Int)).toNat + (E - 149) = (p + 1074).toNat by omega]
      have e4 : 2 ^ (0 - (-149 : Int)).toNat * W = Ubig := by
        rw [hW, ← Nat.pow_add, hU, show (0 - (-149 : Int)).toNat + (E - 149) = E by omega]
      clear hW
      refine Nat.eq_of_mul_eq_mul_right hW0 ?_
      rw [Nat.mul_assoc, e3, Nat.mul_assoc, e4, h4]
  have hn : ∃ k q, Ieee.single.read (Ieee.single.nearest (decide (n < 0)) n.natAbs 0) = .number (decide (n < 0)) k q := by
    refine read_nearest_fin Ieee.single _ _ _ ?_
    have hl : n.natAbs.log2 ≤ 24 := by
      by_cases h0 : n.natAbs = 0
      · rw [h0]; decide
      · have := (Nat.log2_lt h0).2 (show n.natAbs < 2 ^ 24 by omega); omega
    rw [sl]
    show (max ((0 : Int) + (n.natAbs.log2 : Int) - ((23 : Nat) : Int)) (-149) - (-149)).toNat + 4 ≤ 2 ^ 8
    omega
  obtain ⟨k, q, hn⟩ := hn
  have ef : FloatKind.f32.encode (.number (decide (n < 0)) m p) = floatOfInt .f32 n := ew
  have ei : (FloatKind.f32.decode (floatOfInt .f32 n)).isInfinity = false := by
    have : FloatKind.f32.decode (floatOfInt .f32 n) = .number (decide (n < 0)) k q := hn
    rw [this]; rfl
  unfold floatToFloatBits
  rw [if_neg (by decide), e2]
  show (if (FloatKind.f32.decode (FloatKind.f32.encode (.number (decide (n < 0)) m p))).isInfinity then none else some (FloatKind.f32.encode (.number (decide (n < 0)) m p))) = _
  rw [ef, ei]; rfl
theorem F32_word (n : Int) (h : n ≠ 0) (h1 : n.natAbs < 16777216) : floatOfInt .f32 n = (if n < 0 then 2147483648 else 0) + ((n.natAbs.log2 + 126) * 8388608 + n.natAbs * 2 ^ (23 - n.natAbs.log2)) := by
  have hk : n.natAbs ≠ 0 := by omega
  have hl : n.natAbs.log2 ≤ 23 := by
    have := (Nat.log2_lt hk).2 (show n.natAbs < 2 ^ 24 from h1); omega
  have hL := (Nat.log2_eq_iff hk).1 rfl
  show Ieee.single.nearest (decide (n < 0)) n.natAbs 0 = _
  unfold Ieee.Format.nearest
  rw [if_neg hk]
  dsimp only
  have hf : Ieee.single.fractionBits = 23 := rfl
  have hb : Ieee.single.binade = 8388608 := by decide
  have hi : Ieee.single.infRung = 255 * 8388608 := by decide
  have hs : Ieee.single.signWeight = 2147483648 := by decide
  rw [sl, hf, hb, hi]
  have hm : max ((0 : Int) + (n.natAbs.log2 : Int) - ((23 : Nat) : Int)) (-149) = (n.natAbs.log2 : Int) - 23 := by omega
  rw [hm, show ((n.natAbs.log2 : Int) - 23 - 0).toNat = 0 by omega, cut_nought, show (0 - ((n.natAbs.log2 : Int) - 23)).toNat = 23 - n.natAbs.log2 by omega, Nat.shiftLeft_eq, show ((n.natAbs.log2 : Int) - 23 - -149).toNat = n.natAbs.log2 + 126 by omega]
  have hK : n.natAbs * 2 ^ (23 - n.natAbs.log2) < 16777216 := by
    have h2 : n.natAbs * 2 ^ (23 - n.natAbs.log2) < 2 ^ (n.natAbs.log2 + 1) * 2 ^ (23 - n.natAbs.log2) := (Nat.mul_lt_mul_right (Nat.two_pow_pos _)).2 hL.2
    rw [← Nat.pow_add, show n.natAbs.log2 + 1 + (23 - n.natAbs.log2) = 24 by omega] at h2
    exact h2
  rw [Nat.min_eq_left (by omega)]
  unfold Ieee.Format.word
  rw [hs]
  by_cases g : n < 0
  · rw [if_pos (decide_eq_true g), if_pos g]
  · rw [if_neg (by simp; omega), if_neg g, Nat.zero_add]
end Go.Proofs.Ytpojamikfcmnoaa.X
namespace Go.Proofs.Ytpojamikfcmnoaa.X
open Go.RowKit Go.Proofs.YtpojamikfcmnoaaW.PrintWords Go.Proofs.YtpojamikfcmnoaaW.PrintLast Go.Proofs.YtpojamikfcmnoaaW.PrintMore
attribute [local go_sem] max2_int min2_int max_two min_two max_three min_three max_four min_four
set_option linter.unusedVariables false
set_option linter.unusedSimpArgs false
def mayR (a b : Int) : Bool := decide (-1048576 ≤ a ∧ a ≤ 1048576) && decide (-1048576 ≤ b ∧ b ≤ 1048576)
def putR (a b : Int) : ByteArray × Int := if mayR a b = true then (laidV (floatOfInt .f32 a) ++ laidV (floatOfInt .f32 b), 0) else (⟨#[]⟩, 17)
theorem mayE_F (a b : Int) (ha : -9007199254740992 < a ∧ a < 9007199254740992) (hb : -9007199254740992 < b ∧ b < 9007199254740992) : (partE (floatOfInt .f64 a) && partE (floatOfInt .f64 b)) = mayR a b := by
  rw [part_F a ha.1 ha.2, part_F b hb.1 hb.2]; rfl
theorem F32_lt (n : Int) : floatOfInt .f32 n < 4294967296 := Ieee.single.nearest_lt _ _ _
theorem mayR_of0 {a b : Int} (h : mayR a b = true) : (-1048576 ≤ a ∧ a ≤ 1048576) ∧ (-1048576 ≤ b ∧ b ≤ 1048576) := by
  unfold mayR at h
  simpa only [Bool.and_eq_true, decide_eq_true_eq] using h
end Go.Proofs.Ytpojamikfcmnoaa.X
namespace Go.Proofs.Ytpojamikfcmnoaa.X
open Go.RowKit Go.Proofs.YtpojamikfcmnoaaW.PrintWords Go.Proofs.YtpojamikfcmnoaaW.PrintLast Go.Proofs.YtpojamikfcmnoaaW.PrintMore
attribute [local go_sem] max2_int min2_int max_two min_two max_three min_three max_four min_four
set_option linter.unusedVariables false
set_option linter.unusedSimpArgs false
def wholeS (v : Nat) : Int × Bool :=
  if v = 0 then (0, true)
  else if v / 8388608 % 256 < 127 ∨ v / 8388608 % 256 > 147 then (0, false)
  else if (v % 8388608 + 8388608) % 2 ^ (150 - v / 8388608 % 256) = 0 then (sgn (decide (v ≥ 2147483648)) ((v % 8388608 + 8388608) / 2 ^ (150 - v / 8388608 % 256)), decide ((v % 8388608 + 8388608) / 2 ^ (150 - v / 8388608 % 256) ≤ 1048576))
  else (0, false)
def wideV (v : Nat) : Nat := Ieee.double.write (Ieee.single.read v)
theorem read_single (v : Nat) (hv : v < 4294967296) : Ieee.single.read v =
    (if v % 2147483648 < 8388608 then .number (decide (v ≥ 2147483648)) (v % 2147483648) (-149)
     else if v % 2147483648 < 2139095040 then .number (decide (v ≥ 2147483648)) (8388608 + v % 8388608) (-149 + ((v / 8388608 % 256 - 1 : Nat) : Int))
     else if v % 2147483648 = 2139095040 then .infinity (decide (v ≥ 2147483648))
     else .nan (decide (v ≥ 2147483648)) (v % 2147483648 - 2139095040)) := by
  have hb : Ieee.single.binade = 8388608 := by decide
  have hi : Ieee.single.infRung = 2139095040 := by decide
  have hs : Ieee.single.signWeight = 2147483648 := by decide
  unfold Ieee.Format.read
  dsimp only
  rw [hb, hi, hs, sl]
  have e1 : (v / 2147483648 % 2 == 1) = decide (v ≥ 2147483648) := by
    rw [Bool.eq_iff_iff, beq_iff_eq, decide_eq_true_iff]; omega
  have e2 : v % 2147483648 % 8388608 = v % 8388608 := by omega
  have e3 : v % 2147483648 / 8388608 = v / 8388608 % 256 := by omega
  rw [e1, e2, e3]
theorem wide_number {v : Nat} {s : Bool} {m : Nat} {p : Int} (h : Ieee.single.read v = .number s m p) (hp : p ≤ 104) : Num Ieee.double (wideV v) s (m * 2 ^ (p + 1074).toNat) ∧ wideV v = Ieee.double.nearest s m p := by
  obtain ⟨h1, h2⟩ := read_small h
  rw [sl] at h2
  have hb : Ieee.single.binade = 8388608 := by decide
  rw [hb] at h1
  have e : wideV v = Ieee.double.nearest s m p := by unfold wideV; rw [h]; rfl
  refine ⟨?_, e⟩
  rw [e]
  have hl : m.log2 ≤ 24 := by
    by_cases h0 : m = 0
    · subst h0; decide
    · have := (Nat.log2_lt h0).2 (show m < 2 ^ 24 by omega); omega
  have := num_nearest Ieee.double s m p (by rw [dl]; omega) (by show m < 2 ^ 53; omega) (by
    rw [dl]
    show (p + (m.log2 : Int) - ((52 : Nat) : Int) - (-1074)).toNat + 3 ≤ 2 ^ 11
    omega)
  rw [dl, Int.sub_neg] at this
  exact this
theorem wide_lt (v : Nat) : wideV v < 18446744073709551616 := Ieee.double.write_lt _
theorem Ubig_cut (e : Nat) (h : e ≤ 1074) : Ubig = 2 ^ (1074 - e) * 2 ^ e := by
  have : ∀ E, E = 1074 → Ubig = 2 ^ E := fun E hE => by rw [hE]; exact Ubig_eq
  rw [this (1074 - e + e) (by omega), Nat.pow_add]
theorem part_wide (x : Nat) (hx : x < 18446744073709551616) (s : Bool) (m j : Nat) (hj : j ≤ 1074) (hm : 0 < m) (h : Num Ieee.double x s (m * 2 ^ (1074 - j))) :
    (m % 2 ^ j = 0 → IntF x s (m / 2 ^ j)) ∧ partE x = (decide (m % 2 ^ j = 0) && decide (m / 2 ^ j ≤ 1048576)) := by
  have hU := Ubig_cut j hj
  have hA : 0 < 2 ^ (1074 - j) := Nat.two_pow_pos _
  have hJ : 0 < 2 ^ j := Nat.two_pow_pos _
  have hd : m * 2 ^ (1074 - j) / Ubig = m / 2 ^ j := by
    rw [hU, Nat.mul_comm (2 ^ (1074 - j)), Nat.mul_div_mul_right _ _ hA]
  have hmul : ∀ q, q * Ubig = q * 2 ^ j * 2 ^ (1074 - j) := fun q => by rw [hU, Nat.mul_comm (2 ^ (1074 - j)), Nat.mul_assoc]
  have hdm := Nat.div_add_mod m (2 ^ j)
  rw [Nat.mul_comm] at hdm
  have hI : m % 2 ^ j = 0 → IntF x s (m / 2 ^ j) := by
    intro g
    unfold IntF
    rw [hmul]
    have : m / 2 ^ j * 2 ^ j = m := by omega
    rw [this]; exact h
  refine ⟨hI, ?_⟩
  by_cases g : m % 2 ^ j = 0
  · rw [part_int hx (hI g), decide_eq_true g, Bool.true_and]
    have : m / 2 ^ j ≠ 0 := by
      intro h0
      rw [h0, Nat.zero_mul] at hdm; omega
    rw [decide_eq_true this, Bool.true_or, Bool.and_true]
  · rw [part_num hx h, decide_eq_false g, Bool.false_and, hd, hmul (m / 2 ^ j)]
    have : ¬ (m / 2 ^ j * 2 ^ j * 2 ^ (1074 - j) = m * 2 ^ (1074 - j)) := by
      intro e
      have := Nat.eq_of_mul_eq_mul_right hA e
      omega
    rw [decide_eq_false this, Bool.false_and, Bool.and_false]
theorem whole_wide (v : Nat) (hv : v < 4294967296) (hn : (Ieee.single.read v).isNaN = false) : partE (wideV v) = (wholeS v).2 ∧ ((wholeS v).2 = true → wideV v = floatOfInt .f64 (wholeS v).1 ∧ (-1048576 ≤ (wholeS v).1 ∧ (wholeS v).1 ≤ 1048576) ∧ v = floatOfInt .f32 (wholeS v).1) := by
  have hr := read_single v hv
  have hx := wide_lt v
  by_cases h0 : v = 0
  · subst h0
    have ew : wideV 0 = floatOfInt .f64 0 := by decide +kernel
    have es : wholeS 0 = (0, true) := by unfold wholeS; rw [if_pos rfl]
    rw [es, ew, part_F 0 (by decide) (by decide)]
    refine ⟨by decide, fun _ => ⟨rfl, by decide, by decide +kernel⟩⟩
  by_cases hE : v / 8388608 % 256 < 127 ∨ v / 8388608 % 256 > 147
  · have es : wholeS v = (0, false) := by unfold wholeS; rw [if_neg h0, if_pos hE]
    rw [es]
    refine ⟨?_, fun h => by cases h⟩
    by_cases h1 : v % 2147483648 < 8388608
    · rw [if_pos h1] at hr
      have hw := (wide_number hr (by decide)).1
      obtain ⟨E, hE2⟩ : ∃ E : Nat, E = 149 := ⟨_, rfl⟩
      rw [show ((-149 : Int) + 1074).toNat = 1074 - E by omega] at hw
      by_cases hz : v % 2147483648 = 0
      · rw [hz, Nat.zero_mul] at hw
        rw [part_num hx hw, decide_eq_true (show v ≥ 2147483648 by omega)]
        simp
      · rw [(part_wide _ hx _ _ E (by omega) (by omega) hw).2]
        have : ¬ v % 2147483648 % 2 ^ E = 0 := by
          rw [Nat.mod_eq_of_lt (Nat.lt_of_lt_of_le (show v % 2147483648 < 2 ^ 23 by omega) (Nat.pow_le_pow_right (by decide) (by omega)))]
          exact hz
        rw [decide_eq_false this, Bool.false_and]
    · rw [if_neg h1] at hr
      by_cases h2 : v % 2147483648 < 2139095040
      · rw [if_pos h2] at hr
        have hw := (wide_number hr (by omega)).1
        by_cases h3 : v / 8388608 % 256 < 127
        · rw [show (-149 + ((v / 8388608 % 256 - 1 : Nat) : Int) + 1074).toNat = 1074 - (150 - v / 8388608 % 256) by omega] at hw
          rw [(part_wide _ hx _ _ (150 - v / 8388608 % 256) (by omega) (by omega) hw).2]
          have : ¬ (8388608 + v % 8388608) % 2 ^ (150 - v / 8388608 % 256) = 0 := by
            rw [Nat.mod_eq_of_lt (Nat.lt_of_lt_of_le (show 8388608 + v % 8388608 < 2 ^ 24 by omega) (Nat.pow_le_pow_right (by decide) (by omega)))]
            omega
          rw [decide_eq_false this, Bool.false_and]
        · have hbig : ¬ ((8388608 + v % 8388608) * 2 ^ (-149 + ((v / 8388608 % 256 - 1 : Nat) : Int) + 1074).toNat ≤ 1048576 * Ubig) := by
            obtain ⟨E, hE2⟩ : ∃ E : Nat, E = 2 := ⟨_, rfl⟩
            have hU := Ubig_cut E (by omega)
            have hle : 2 ^ (1074 - E) ≤ 2 ^ (-149 + ((v / 8388608 % 256 - 1 : Nat) : Int) + 1074).toNat := Nat.pow_le_pow_right (by decide) (by omega)
            have hA : 0 < 2 ^ (1074 - E) := Nat.two_pow_pos _
            generalize 2 ^ (1074 - E) = A at hU hle hA
            rw [hE2] at hU
            generalize 2 ^ (-149 + ((v / 8388608 % 256 - 1 : Nat) : Int) + 1074).toNat = B at hle
            have h5 : 8388608 * A ≤ (8388608 + v % 8388608) * B := Nat.mul_le_mul (by omega) hle
            rw [hU]; omega
          rw [part_num hx hw, decide_eq_false hbig, Bool.false_and]
      · rw [if_neg h2] at hr
        by_cases h3 : v % 2147483648 = 2139095040
        · rw [if_pos h3] at hr
          have hi : Ieee.double.read (wideV v) = .infinity (decide (v ≥ 2147483648)) := by
            unfold wideV; rw [hr]
            generalize decide (v ≥ 2147483648) = s
            cases s <;> decide +kernel
          unfold partE
          rw [order_inf hi cN, order_inf hi cP]
          generalize decide (v ≥ 2147483648) = s
          cases s <;> rfl
        · rw [if_neg h3] at hr
          rw [hr] at hn; cases hn
  · have h1 : ¬ v % 2147483648 < 8388608 := by omega
    have h2 : v % 2147483648 < 2139095040 := by omega
    rw [if_neg h1, if_pos h2] at hr
    obtain ⟨hw, ew⟩ := wide_number hr (by omega)
    rw [show (-149 + ((v / 8388608 % 256 - 1 : Nat) : Int) + 1074).toNat = 1074 - (150 - v / 8388608 % 256) by omega, Nat.add_comm 8388608] at hw
    obtain ⟨p1, p2⟩ := part_wide _ hx _ _ (150 - v / 8388608 % 256) (by omega) (by omega) hw
    by_cases g : (v % 8388608 + 8388608) % 2 ^ (150 - v / 8388608 % 256) = 0
    · have es : wholeS v = (sgn (decide (v ≥ 2147483648)) ((v % 8388608 + 8388608) / 2 ^ (150 - v / 8388608 % 256)), decide ((v % 8388608 + 8388608) / 2 ^ (150 - v / 8388608 % 256) ≤ 1048576)) := by
        unfold wholeS; rw [if_neg h0, if_neg hE, if_pos g]
      rw [es, p2, decide_eq_true g, Bool.true_and]
      refine ⟨rfl, fun hk => ?_⟩
      have hk : (v % 8388608 + 8388608) / 2 ^ (150 - v / 8388608 % 256) ≤ 1048576 := of_decide_eq_true hk
      have hi := p1 g
      have hdm := Nat.div_add_mod (v % 8388608 + 8388608) (2 ^ (150 - v / 8388608 % 256))
      rw [g, Nat.add_zero, Nat.mul_comm] at hdm
      generalize hK : (v % 8388608 + 8388608) / 2 ^ (150 - v / 8388608 % 256) = K at hk hi hdm ⊢
      have hK0 : K ≠ 0 := by
        intro h; rw [h, Nat.zero_mul] at hdm; omega
      have hsg : ∀ s : Bool, decide (sgn s K < 0) = s ∧ (sgn s K).natAbs = K := by
        intro s
        refine ⟨?_, sgn_abs s K⟩
        unfold sgn; cases s <;> simp <;> omega
      refine ⟨?_, ?_, ?_⟩
      · rw [F_eq, (hsg _).1, (hsg _).2, ew]
        refine dI_of (by omega) ?_
        have hU := Ubig_cut (150 - v / 8388608 % 256) (by omega)
        rw [show (-149 + ((v / 8388608 % 256 - 1 : Nat) : Int) + 1074).toNat = 1074 - (150 - v / 8388608 % 256) by omega, hU, Nat.mul_comm (2 ^ (1074 - _)), ← Nat.mul_assoc, hdm, Nat.add_comm]
      · unfold sgn; split <;> omega
      · have hn0 : sgn (decide (v ≥ 2147483648)) K ≠ 0 := by
          unfold sgn; split <;> omega
        rw [F32_word _ hn0 (by rw [sgn_abs]; omega), sgn_abs]
        have hlog : K.log2 = 23 - (150 - v / 8388608 % 256) := by
          rw [Nat.log2_eq_iff hK0]
          have hJ : 0 < 2 ^ (150 - v / 8388608 % 256) := Nat.two_pow_pos _
          constructor
          · refine Nat.le_of_mul_le_mul_right ?_ hJ
            rw [hdm, ← Nat.pow_add, show 23 - (150 - v / 8388608 % 256) + (150 - v / 8388608 % 256) = 23 by omega]
            omega
          · refine Nat.lt_of_mul_lt_mul_right (a := 2 ^ (150 - v / 8388608 % 256)) ?_
            rw [hdm, ← Nat.pow_add, show 23 - (150 - v / 8388608 % 256) + 1 + (150 - v / 8388608 % 256) = 24 by omega]
            omega
        rw [hlog, show 23 - (23 - (150 - v / 8388608 % 256)) = 150 - v / 8388608 % 256 by omega, hdm]
        have hneg : (sgn (decide (v ≥ 2147483648)) K < 0) ↔ v ≥ 2147483648 := by
          have := (hsg (decide (v ≥ 2147483648))).1
          rwa [decide_eq_decide] at this
        by_cases hs : v ≥ 2147483648
        · rw [if_pos (hneg.2 hs)]; omega
        · rw [if_neg (fun h => hs (hneg.1 h))]; omega
    · have es : wholeS v = (0, false) := by unfold wholeS; rw [if_neg h0, if_neg hE, if_neg g]
      rw [es, p2, decide_eq_false g]
      exact ⟨rfl, fun h => by cases h⟩
end Go.Proofs.Ytpojamikfcmnoaa.X
