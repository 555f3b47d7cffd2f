import Derived.Test.YtdemgfbolcmcdaaMOpsAll3
import Derived.Test.YtdemgfbolcmcdaaMOpsAll15
import Derived.Test.YtdemgfbolcmcdaaMOpsAll17
import Derived.Test.YtdemgfbolcmcdaaMOpsAll4
import Derived.Test.YtdemgfbolcmcdaaRows
import Derived.WalkKit
import Derived.ProofKit
import Derived.OpenShut
import Derived.ShutString
import Derived.ChangeOld
import Derived.Below
import Derived.SizedLaws
namespace Go.Proofs.Ytdemgfbolcmcdaa.X
open Go.RowKit Go.Proofs.YtdemgfbolcmcdaaW.PrintWords Go.Proofs.YtdemgfbolcmcdaaW.PrintLast Go.Proofs.YtdemgfbolcmcdaaW.PrintMore
attribute [local go_sem] max2_int min2_int max_two min_two max_three min_three max_four min_four
set_option linter.unusedVariables false
set_option linter.unusedSimpArgs false
theorem bytesLe_eq : ∀ a b : List UInt8, (Op.bytesLess a b || a == b) = !Op.bytesLess b a
  | [], [] => rfl
  | [], _ :: _ => rfl
  | _ :: _, [] => rfl
  | a :: x, b :: y => by
    have ih := bytesLe_eq x y
    have h1 : Op.bytesLess (a :: x) (b :: y) = (decide (a < b) || (a == b && Op.bytesLess x y)) := rfl
    have h2 : Op.bytesLess (b :: y) (a :: x) = (decide (b < a) || (b == a && Op.bytesLess y x)) := rfl
    have h3 : ((a :: x) == (b :: y)) = (a == b && x == y) := rfl
    rw [h1, h2, h3]
    by_cases hab : a = b
    · subst hab
      have hn : decide (a < a) = false := decide_eq_false (UInt8.lt_irrefl a)
      rw [hn, beq_self_eq_true, Bool.false_or, Bool.true_and, Bool.true_and, Bool.false_or, Bool.true_and]
      exact ih
    · have e1 : (a == b) = false := beq_eq_false_iff_ne.2 hab
      have e2 : (b == a) = false := beq_eq_false_iff_ne.2 (fun h => hab h.symm)
      rw [e1, e2, Bool.false_and, Bool.false_and, Bool.false_and, Bool.or_false, Bool.or_false, Bool.or_false]
      rcases UInt8.lt_or_lt_of_ne hab with h | h
      · rw [decide_eq_true h, decide_eq_false (UInt8.lt_asymm h)]; rfl
      · rw [decide_eq_true h, decide_eq_false (UInt8.lt_asymm h)]; rfl
end Go.Proofs.Ytdemgfbolcmcdaa.X
namespace Go.Proofs.Ytdemgfbolcmcdaa.X
open Go.RowKit Go.Proofs.YtdemgfbolcmcdaaW.PrintWords Go.Proofs.YtdemgfbolcmcdaaW.PrintLast Go.Proofs.YtdemgfbolcmcdaaW.PrintMore
attribute [local go_sem] max2_int min2_int max_two min_two max_three min_three max_four min_four
set_option linter.unusedVariables false
set_option linter.unusedSimpArgs false
mutual
def agatelaw13_OpsAll.l0 : Nat → Int → List ByteArray → Int → List ByteArray → Int → Int → Option (Bool)
 | 0, _, _, _, _, _, _ => none
 | k + 1, x0, x3, x4, x10, x11, x12 => if x12 < x11 then (if 0 ≤ x12 then (if x12 < (x10.length : Int) then (if x12 > 0 then (if 0 ≤ (wrap64 (x12 - 1)) then (if (wrap64 (x12 - 1)) < (x3.length : Int) then (agatelaw13_OpsAll.j1 k x0 x3 x4 (rdOf ByteArray.empty x10 x12) x10 x11 x12 (!(Op.bytesLess ((rdOf ByteArray.empty x3 (wrap64 (x12 - 1))).toList) ((rdOf ByteArray.empty x10 x12).toList)))) else (none)) else (none)) else (agatelaw13_OpsAll.j1 k x0 x3 x4 (rdOf ByteArray.empty x10 x12) x10 x11 x12 false)) else (none)) else (none)) else ((agatelaw13_Awake.f k).bind fun t104 => (if t104 = true then (some (x4 == 15)) else (some false)))
def agatelaw13_OpsAll.j1 : Nat → Int → List ByteArray → Int → ByteArray → List ByteArray → Int → Int → Bool → Option (Bool)
 | 0, _, _, _, _, _, _, _, _ => none
 | k + 1, x0, x3, x4, x6, x10, x11, x12, x27 => if x27 = true then (some false) else ((agateref13_Find.f k x6 (wrap64 (9 + (wrap64 (Int.tmod x0 5))))).bind fun bt107 => (if bt107.2.2.2.2.2.2 = true then (agatelaw13_OpsAll.l0 k x0 x3 (wrap64 (x4 + 1)) x10 x11 (wrap64 (x12 + 1))) else (some false)))
end
def agatelaw13_OpsAll.f (k : Nat) (a0 : Int) : Option (Bool) := (ops_All.f).bind fun t101 => (agatelaw13_OpsAll.l0 k a0 t101 0 t101 (t101.length : Int) 0)
set_option maxHeartbeats 8000000 in
set_option maxRecDepth 100000 in
theorem agatelaw13_OpsAll.calls (k : Nat) (a0 : Int) (r : Bool) (w : World) (h : agatelaw13_OpsAll.f k a0 = some r) :
  Calls Try.prog 4 #[.int .u8 a0] w fun e w' => e = .returned (.bool r) ∧ Below w.heap.size w w' := by
 have hu72 := Try.underlying72
 have HB := Aside0.mk (Below.refl w.heap.size w)
 have H : ((ops_All.f).bind fun t101 => (agatelaw13_OpsAll.l0 k a0 t101 0 t101 (t101.length : Int) 0)) = some r := h
 clear h
 replace H := Option.bind_eq_some_iff.mp H
 obtain ⟨t101, A20, H⟩ := H
 replace H : (agatelaw13_OpsAll.l0 k a0 t101 0 t101 (t101.length : Int) 0) = some r := H
 have A2 := Aside0.mk A20
 clear A20
 have H' := Aside0.mk H
 clear H
 go_enter Try.func4, Try.ntmps4
 go_wp2_with (first | ((with_reducible refine gate_callee (f := 24) rfl ?_); refine goesL_ (some 9) rfl rfl Try.func24 (by kernel_rfl) rfl #[] rfl (by (try simp only [List.map_toArray, List.map_cons, List.map_nil]); first | done | rfl | (simp only [List.length_drop, List.length_take]; rfl)) ?_; (with_reducible refine (ops_All.calls  t101 _ A2.out).mono ?_); rintro e w3 ⟨v102, rfl, ho0, hb⟩; refine ⟨_, rfl, ?_⟩; have n0_ := Aside0.mk (Kd.R_lower ho0 (below_size (hbA HB))); have n1_ := Aside0.mk (below_step (hbA HB) hb); clear HB; have HO103 := n0_; have HB := n1_; clear n0_ n1_; (try clear hb); (try clear hb2); (try clear hk); (try clear hi); (try clear ho0); obtain ⟨Ao4, co4, eo4⟩ := Kd.R_slice HO103.out; subst eo4))
 go_loopg [4, 12] k (fun kq v4 v12 w' => ∃ (x4_1 : Int) (x12_1 : Int), v4 = .int .i64 x4_1 ∧ v12 = .int .i64 x12_1 ∧ Aside0 (agatelaw13_OpsAll.l0 kq a0 t101 x4_1 t101 (t101.length : Int) x12_1 = some r) ∧ Aside0 (kq ≤ k) ∧ Aside0 (Kd.R Kd.string 9 w' w.heap.size (fun _ => True) (.slice Ao4 t101.length co4) t101) ∧ Aside0 (Kd.R Kd.string 9 w' w.heap.size (fun _ => True) (.slice Ao4 t101.length co4) t101) ∧ Aside0 (Below w.heap.size w w'))
 case atStart => exact ⟨(0), (0), (by first | rfl | (simp; done) | (simp [*]; done)), (by first | rfl | (simp; done) | (simp [*]; done)), H', ⟨Nat.le_refl _⟩, ⟨krA HO103⟩, ⟨krA HO103⟩, ⟨hbA HB⟩⟩
 case round =>
  clear H'
  obtain ⟨x4_1, x12_1, rfl, rfl, HA, HK1, HO_3, HO_10, HB⟩ := hrel
  cases gk with
  | zero => exact absurd HA.out (by simp [agatelaw13_OpsAll.l0])
  | succ k1 =>
   have H := HA.out; clear HA
   simp only [agatelaw13_OpsAll.l0] at H
   by_cases c5 : x12_1 < (t101.length : Int)
   ·
    rw [if_pos c5] at H
    have c5b0 : decide (x12_1 < (t101.length : Int)) = true := decide_eq_true c5
    clear c5
    by_cases c6 : 0 ≤ x12_1
    ·
     rw [if_pos c6] at H
     have c6b0 : decide (0 ≤ x12_1) = true := decide_eq_true c6
     clear c6
     by_cases c7 : x12_1 < (t101.length : Int)
     ·
      rw [if_pos c7] at H
      have c7b0 : decide (x12_1 < (t101.length : Int)) = true := decide_eq_true c7
      clear c7
      have HC8 := Aside0.mk H
      clear H
      have p105 : 0 ≤ (x12_1 : Int) := of_decide_eq_true (by first | (with_reducible assumption) | assumption)
      have q105 : x12_1 < (t101.length : Int) := of_decide_eq_true (by first | (with_reducible assumption) | assumption)
      obtain ⟨ad105, e105, hx105_0⟩ := Kd.at_string (Kd.R_reads' HO_10.out).2.2 x12_1 p105 q105
      cases e105
      replace p105 := eq_true p105
      replace q105 := eq_true q105
      go_upto_region 6 with (fail)
      go_cut [27] (fun v27 wc => ∃ (kq : Nat) (x27_7 : Bool), v27 = .bool x27_7 ∧ Aside0 (agatelaw13_OpsAll.j1 kq a0 t101 x4_1 (rdOf ByteArray.empty t101 x12_1) t101 (t101.length : Int) x12_1 x27_7 = some r) ∧ Aside0 (kq ≤ k1) ∧ Aside0 (Kd.R Kd.string 9 wc w.heap.size (fun _ => True) (.slice (some ad105) t101.length co4) t101) ∧ Aside0 (Kd.R Kd.string 9 wc w.heap.size (fun _ => True) (.slice (some ad105) t101.length co4) t101) ∧ Aside0 (Below w.heap.size w wc))
      case first =>
       have H := HC8.out; clear HC8
       by_cases c9 : x12_1 > 0
       ·
        rw [if_pos c9] at H
        have c9b0 : decide (0 < x12_1) = true := decide_eq_true c9
        clear c9
        (first | rw [c9b0] | (simp only [i64_w, i32_w]; rw [c9b0]) | skip)
        obtain ⟨ji10, hji10⟩ : ∃ j_ : Int, (wrap64 (x12_1 - 1)) = j_ := ⟨_, rfl⟩
        replace H : (if 0 ≤ (ji10) then (if (ji10) < (t101.length : Int) then (agatelaw13_OpsAll.j1 k1 a0 t101 x4_1 (rdOf ByteArray.empty t101 x12_1) t101 (t101.length : Int) x12_1 (!(Op.bytesLess ((rdOf ByteArray.empty t101 (ji10)).toList) ((rdOf ByteArray.empty t101 x12_1).toList)))) else (none)) else (none)) = some r := by first | (rw [hji10] at H; exact H) | (simp only [hji10] at H ⊢; exact H)
        have hji10w : (IntKind.i64.wrap (x12_1 - 1)) = ji10 := (i64_w _).trans hji10
        by_cases c11 : 0 ≤ (ji10)
        ·
         rw [if_pos c11] at H
         have c11b0 : decide (0 ≤ (ji10)) = true := decide_eq_true c11
         clear c11
         by_cases c12 : (ji10) < (t101.length : Int)
         ·
          rw [if_pos c12] at H
          have c12b0 : decide ((ji10) < (t101.length : Int)) = true := decide_eq_true c12
          clear c12
          have H' := Aside0.mk H
          clear H
          have p106 : 0 ≤ ((ji10) : Int) := of_decide_eq_true (by first | (with_reducible assumption) | assumption)
          have q106 : (ji10) < (t101.length : Int) := of_decide_eq_true (by first | (with_reducible assumption) | assumption)
          obtain ⟨ad106, e106, hx106_0⟩ := Kd.at_string (Kd.R_reads' HO_3.out).2.2 (ji10) p106 q106
          obtain rfl : ad105 = ad106 := (by injection e106)
          replace p106 := eq_true p106
          replace q106 := eq_true q106
          go_wp2
          go_meet
          case rel => exact ⟨_, (!(Op.bytesLess ((rdOf ByteArray.empty t101 (ji10)).toList) ((rdOf ByteArray.empty t101 x12_1).toList))), (by first | rfl | exact congrArg Value.bool (bytesLe_eq _ _) | (simp; done) | (simp only [← hji10] <;> (first | rfl | simp)) | (simp [*]; done)), H', ⟨by have := HK1.out; first | omega | exact Nat.le_refl _⟩, ⟨krA HO_3⟩, ⟨krA HO_10⟩, ⟨hbA HB⟩⟩
         ·
          rw [if_neg c12] at H
          exact absurd H (by simp)
        ·
         rw [if_neg c11] at H
         exact absurd H (by simp)
       ·
        rw [if_neg c9] at H
        have c9b0 : decide (0 < x12_1) = false := decide_eq_false c9
        clear c9
        (first | rw [c9b0] | (simp only [i64_w, i32_w]; rw [c9b0]) | skip)
        have H' := Aside0.mk H
        clear H
        go_wp2
        go_meet
        case rel => exact ⟨_, (false), (by first | rfl | (simp; done) | (simp [*]; done)), H', ⟨by have := HK1.out; first | omega | exact Nat.le_refl _⟩, ⟨krA HO_3⟩, ⟨krA HO_10⟩, ⟨hbA HB⟩⟩
      case rest =>
       clear HC8; try clear c5; try clear c5b0; try clear c6; try clear c6b0; try clear c7; try clear c7b0; try clear c9; try clear c9b0; try clear c11; try clear c11b0; try clear c12; try clear c12b0; try clear hx105_0; try clear hx106_0; try clear p105; try clear p106; try clear q105; try clear q106
       obtain ⟨kq, x27_7, rfl, HA, HJ7, HO_3, HO_10, HB⟩ := hcut
       cases kq with
       | zero => exact absurd HA.out (by simp [agatelaw13_OpsAll.j1])
       | succ kj7 =>
        have H := HA.out; clear HA
        simp only [agatelaw13_OpsAll.j1] at H
        by_cases c13 : x27_7 = true
        ·
         subst c13
         have H1 : (some false) = some r := by rw [if_pos rfl] at H; exact H
         clear H
         have H := H1
         clear H1
         obtain rfl := Option.some.inj H
         go_wp2
         go_ret
         exact ⟨by first | rfl | (simp [errW_none, errW_some] <;> rfl) | (simp [*, errW_none, errW_some] <;> rfl), hbA HB⟩
        ·
         replace c13 := Bool.eq_false_iff.mpr c13
         subst c13
         have H1 : ((agateref13_Find.f kj7 (rdOf ByteArray.empty t101 x12_1) (wrap64 (9 + (wrap64 (Int.tmod a0 5))))).bind fun bt107 => (if bt107.2.2.2.2.2.2 = true then (agatelaw13_OpsAll.l0 kj7 a0 t101 (wrap64 (x4_1 + 1)) t101 (t101.length : Int) (wrap64 (x12_1 + 1))) else (some false))) = some r := by rw [if_neg (show ¬ (false = true) by decide)] at H; exact H
         clear H
         have H := H1
         clear H1
         replace H := Option.bind_eq_some_iff.mp H
         obtain ⟨⟨t107, t108, t109, t110, t111, t112, t115⟩, A140, H⟩ := H
         replace H : (if t115 = true then (agatelaw13_OpsAll.l0 kj7 a0 t101 (wrap64 (x4_1 + 1)) t101 (t101.length : Int) (wrap64 (x12_1 + 1))) else (some false)) = some r := H
         have A14 := Aside0.mk A140
         clear A140
         by_cases c15 : t115 = true
         ·
          subst c15
          have H1 : (agatelaw13_OpsAll.l0 kj7 a0 t101 (wrap64 (x4_1 + 1)) t101 (t101.length : Int) (wrap64 (x12_1 + 1))) = some r := by rw [if_pos rfl] at H; exact H
          clear H
          have H := H1
          clear H1
          have H' := Aside0.mk H
          clear H
          go_wp2_with (first | ((with_reducible refine gate_callee (f := 25) rfl ?_); refine goesL_ (some 34) rfl rfl Try.func25 (by kernel_rfl) rfl #[.string (rdOf ByteArray.empty t101 x12_1), .int .i64 (wrap64 (9 + (wrap64 (Int.tmod a0 5))))] rfl (by (try simp only [List.map_toArray, List.map_cons, List.map_nil]); first | done | rfl | (simp only [List.length_drop, List.length_take]; rfl)) ?_; (with_reducible refine (agateref13_Find.calls kj7 (rdOf ByteArray.empty t101 x12_1) (wrap64 (9 + (wrap64 (Int.tmod a0 5)))) t107 t108 t109 t110 t111 t112 true _ A14.out).mono ?_); rintro e w16 ⟨v113, rfl, ho0, hb⟩; refine ⟨_, rfl, ?_⟩; have n0_ := Aside0.mk (Kd.R_below (krA HO_3) hb); have n1_ := Aside0.mk (Kd.R_below (krA HO_10) hb); have n2_ := Aside0.mk (Kd.V_lower (Kd.V_mono (ok' := fun k_ => some k_ ≠ (.slice (some ad105) t101.length co4 : Value).ownBlock ∧ some k_ ≠ (.slice (some ad105) t101.length co4 : Value).ownBlock) ho0 (fun k_ hk_ => ⟨(Kd.fresh' (Kd.R_lt (krA HO_3)) k_ hk_), (Kd.fresh' (Kd.R_lt (krA HO_10)) k_ hk_)⟩)) (below_size (hbA HB))); have n3_ := Aside0.mk (below_step (hbA HB) hb); clear HO_3; clear HO_10; clear HB; have HO_3 := n0_; have HO_10 := n1_; have HO114 := n2_; have HB := n3_; clear n0_ n1_ n2_ n3_; (try clear hb); (try clear hb2); (try clear hk); (try clear hi); (try clear ho0)) | ((with_reducible refine gate_dst (N := 7) rfl ?_); refine box_event ?hg (N := 7) ?hd (cs := #[.string (⟨#[]⟩ : ByteArray), .int .i64 0, .int .i64 0, .int .i64 0, .int .i64 0, .slice none 0 0]) (t := 72) ?hr ?_; (case hd => rfl); (case hg => rfl); (case hr => first | (go_simp; done) | (go_simp; rfl)); intro gb116 hg w17 hbox hb; have n0_ := Aside0.mk (Kd.R_below (krA HO_3) hb); have n1_ := Aside0.mk (Kd.R_below (krA HO_10) hb); have n2_ := Aside0.mk (Kd.V_below (Kd.V_elderB (by (with_reducible repeat (first | apply Kd.V_alloc | apply Kd.V_drewN | apply Kd.V_drew)); exact HO114.out) gb116 (Nat.le_of_eq hg.symm)) hb); have n3_ := Aside0.mk (below_step (hbA HB) hb); have n4_ := Aside0.mk (hbox); have n5_ := Aside0.mk ((by rw [hg]; exact (below_size (hbA HB)) : w.heap.size ≤ gb116)); have n6_ := Aside0.mk ((by rw [hg]; exact (below_size (hbA HB)) : w.heap.size ≤ gb116)); clear HO_3; clear HO_10; clear HO114; clear HB; have HO_3 := n0_; have HO_10 := n1_; have HO114 := n2_; have HB := n3_; have BK116 := n4_; have GW116 := n5_; have GE116 := n6_; clear n0_ n1_ n2_ n3_ n4_ n5_ n6_; clear hb hbox hg; have hcz18_0 : w17.cell? ⟨gb116, 0, none⟩ = some (.string (⟨#[]⟩ : ByteArray)) := bcA BK116 0; have hcz18_1 : w17.cell? ⟨gb116, 1, none⟩ = some (.int .i64 0) := bcA BK116 1; have hcz18_2 : w17.cell? ⟨gb116, 2, none⟩ = some (.int .i64 0) := bcA BK116 2; have hcz18_3 : w17.cell? ⟨gb116, 3, none⟩ = some (.int .i64 0) := bcA BK116 3; have hcz18_4 : w17.cell? ⟨gb116, 4, none⟩ = some (.int .i64 0) := bcA BK116 4; have hcz18_5 : w17.cell? ⟨gb116, 5, none⟩ = some (.slice none 0 0) := bcA BK116 5; have hfz18_0 := blk_frozen BK116.out 0; have hfz18_1 := blk_frozen BK116.out 1; have hfz18_2 := blk_frozen BK116.out 2; have hfz18_3 := blk_frozen BK116.out 3; have hfz18_4 := blk_frozen BK116.out 4; have hfz18_5 := blk_frozen BK116.out 5; obtain ⟨Ao19, co19, eo19⟩ := Kd.V_slice HO114.out; subst eo19))
          go_roundg kj7
          case measure => have := HK1.out; have := HJ7.out; omega
          case rel => exact ⟨(wrap64 (x4_1 + 1)), (wrap64 (x12_1 + 1)), (by first | rfl | (simp; done) | (simp [*]; done)), (by first | rfl | (simp; done) | (simp [*]; done)), H', ⟨by have := HK1.out; have := HJ7.out; omega⟩, ⟨by (with_reducible repeat (first | apply Kd.R_alloc | apply Kd.R_drewN | apply Kd.R_drew)); exact Kd.R_mono (Kd.R_far (p := ⟨gb116, 5, none⟩) (Kd.R_far (p := ⟨gb116, 4, none⟩) (Kd.R_far (p := ⟨gb116, 3, none⟩) (Kd.R_far (p := ⟨gb116, 2, none⟩) (Kd.R_far (p := ⟨gb116, 1, none⟩) (Kd.R_far (p := ⟨gb116, 0, none⟩) (Kd.R_types HO_3.out BK116.out (by decide)) (fun _ hk => hk.2) (.string t107)) (fun _ hk => hk.2) (.int .i64 t108)) (fun _ hk => hk.2) (.int .i64 t109)) (fun _ hk => hk.2) (.int .i64 t110)) (fun _ hk => hk.2) (.int .i64 t111)) (fun _ hk => hk.2) (.slice Ao19 t112.length co19)) (fun _ hk => trivial)⟩, ⟨by (with_reducible repeat (first | apply Kd.R_alloc | apply Kd.R_drewN | apply Kd.R_drew)); exact Kd.R_mono (Kd.R_far (p := ⟨gb116, 5, none⟩) (Kd.R_far (p := ⟨gb116, 4, none⟩) (Kd.R_far (p := ⟨gb116, 3, none⟩) (Kd.R_far (p := ⟨gb116, 2, none⟩) (Kd.R_far (p := ⟨gb116, 1, none⟩) (Kd.R_far (p := ⟨gb116, 0, none⟩) (Kd.R_types HO_10.out BK116.out (by decide)) (fun _ hk => hk.2) (.string t107)) (fun _ hk => hk.2) (.int .i64 t108)) (fun _ hk => hk.2) (.int .i64 t109)) (fun _ hk => hk.2) (.int .i64 t110)) (fun _ hk => hk.2) (.int .i64 t111)) (fun _ hk => hk.2) (.slice Ao19 t112.length co19)) (fun _ hk => trivial)⟩, ⟨hbA HB⟩⟩
         ·
          replace c15 := Bool.eq_false_iff.mpr c15
          subst c15
          have H1 : (some false) = some r := by rw [if_neg (show ¬ (false = true) by decide)] at H; exact H
          clear H
          have H := H1
          clear H1
          obtain rfl := Option.some.inj H
          go_wp2_with (first | ((with_reducible refine gate_callee (f := 25) rfl ?_); refine goesL_ (some 34) rfl rfl Try.func25 (by kernel_rfl) rfl #[.string (rdOf ByteArray.empty t101 x12_1), .int .i64 (wrap64 (9 + (wrap64 (Int.tmod a0 5))))] rfl (by (try simp only [List.map_toArray, List.map_cons, List.map_nil]); first | done | rfl | (simp only [List.length_drop, List.length_take]; rfl)) ?_; (with_reducible refine (agateref13_Find.calls kj7 (rdOf ByteArray.empty t101 x12_1) (wrap64 (9 + (wrap64 (Int.tmod a0 5)))) t107 t108 t109 t110 t111 t112 false _ A14.out).mono ?_); rintro e w20 ⟨v113, rfl, ho0, hb⟩; refine ⟨_, rfl, ?_⟩; have n0_ := Aside0.mk (Kd.R_below (krA HO_3) hb); have n1_ := Aside0.mk (Kd.R_below (krA HO_10) hb); have n2_ := Aside0.mk (Kd.V_lower (Kd.V_mono (ok' := fun k_ => some k_ ≠ (.slice (some ad105) t101.length co4 : Value).ownBlock ∧ some k_ ≠ (.slice (some ad105) t101.length co4 : Value).ownBlock) ho0 (fun k_ hk_ => ⟨(Kd.fresh' (Kd.R_lt (krA HO_3)) k_ hk_), (Kd.fresh' (Kd.R_lt (krA HO_10)) k_ hk_)⟩)) (below_size (hbA HB))); have n3_ := Aside0.mk (below_step (hbA HB) hb); clear HO_3; clear HO_10; clear HB; have HO_3 := n0_; have HO_10 := n1_; have HO114 := n2_; have HB := n3_; clear n0_ n1_ n2_ n3_; (try clear hb); (try clear hb2); (try clear hk); (try clear hi); (try clear ho0)) | ((with_reducible refine gate_dst (N := 7) rfl ?_); refine box_event ?hg (N := 7) ?hd (cs := #[.string (⟨#[]⟩ : ByteArray), .int .i64 0, .int .i64 0, .int .i64 0, .int .i64 0, .slice none 0 0]) (t := 72) ?hr ?_; (case hd => rfl); (case hg => rfl); (case hr => first | (go_simp; done) | (go_simp; rfl)); intro gb116 hg w21 hbox hb; have n0_ := Aside0.mk (Kd.R_below (krA HO_3) hb); have n1_ := Aside0.mk (Kd.R_below (krA HO_10) hb); have n2_ := Aside0.mk (Kd.V_below (Kd.V_elderB (by (with_reducible repeat (first | apply Kd.V_alloc | apply Kd.V_drewN | apply Kd.V_drew)); exact HO114.out) gb116 (Nat.le_of_eq hg.symm)) hb); have n3_ := Aside0.mk (below_step (hbA HB) hb); have n4_ := Aside0.mk (hbox); have n5_ := Aside0.mk ((by rw [hg]; exact (below_size (hbA HB)) : w.heap.size ≤ gb116)); have n6_ := Aside0.mk ((by rw [hg]; exact (below_size (hbA HB)) : w.heap.size ≤ gb116)); clear HO_3; clear HO_10; clear HO114; clear HB; have HO_3 := n0_; have HO_10 := n1_; have HO114 := n2_; have HB := n3_; have BK116 := n4_; have GW116 := n5_; have GE116 := n6_; clear n0_ n1_ n2_ n3_ n4_ n5_ n6_; clear hb hbox hg; have hcz22_0 : w21.cell? ⟨gb116, 0, none⟩ = some (.string (⟨#[]⟩ : ByteArray)) := bcA BK116 0; have hcz22_1 : w21.cell? ⟨gb116, 1, none⟩ = some (.int .i64 0) := bcA BK116 1; have hcz22_2 : w21.cell? ⟨gb116, 2, none⟩ = some (.int .i64 0) := bcA BK116 2; have hcz22_3 : w21.cell? ⟨gb116, 3, none⟩ = some (.int .i64 0) := bcA BK116 3; have hcz22_4 : w21.cell? ⟨gb116, 4, none⟩ = some (.int .i64 0) := bcA BK116 4; have hcz22_5 : w21.cell? ⟨gb116, 5, none⟩ = some (.slice none 0 0) := bcA BK116 5; have hfz22_0 := blk_frozen BK116.out 0; have hfz22_1 := blk_frozen BK116.out 1; have hfz22_2 := blk_frozen BK116.out 2; have hfz22_3 := blk_frozen BK116.out 3; have hfz22_4 := blk_frozen BK116.out 4; have hfz22_5 := blk_frozen BK116.out 5; obtain ⟨Ao23, co23, eo23⟩ := Kd.V_slice HO114.out; subst eo23))
          go_ret
          exact ⟨by first | rfl | (simp [errW_none, errW_some] <;> rfl) | (simp [*, errW_none, errW_some] <;> rfl), hbA HB⟩
     ·
      rw [if_neg c7] at H
      exact absurd H (by simp)
    ·
     rw [if_neg c6] at H
     exact absurd H (by simp)
   ·
    rw [if_neg c5] at H
    have c5b0 : decide (x12_1 < (t101.length : Int)) = false := decide_eq_false c5
    clear c5
    replace H := Option.bind_eq_some_iff.mp H
    obtain ⟨t104, A240, H⟩ := H
    replace H : (if t104 = true then (some (x4_1 == 15)) else (some false)) = some r := H
    have A24 := Aside0.mk A240
    clear A240
    by_cases c25 : t104 = true
    ·
     subst c25
     have H1 : (some (x4_1 == 15)) = some r := by rw [if_pos rfl] at H; exact H
     clear H
     have H := H1
     clear H1
     obtain rfl := Option.some.inj H
     go_wp2_with (first | ((with_reducible refine gate_callee (f := 26) rfl ?_); refine goesL_ (some 42) rfl rfl Try.func26 (by kernel_rfl) rfl #[] rfl (by (try simp only [List.map_toArray, List.map_cons, List.map_nil]); first | done | rfl | (simp only [List.length_drop, List.length_take]; rfl)) ?_; (with_reducible refine (agatelaw13_Awake.calls k1  true _ A24.out).mono ?_); rintro e w26 ⟨rfl, hb⟩; refine ⟨_, rfl, ?_⟩; have n0_ := Aside0.mk (Kd.R_below (krA HO_3) hb); have n1_ := Aside0.mk (Kd.R_below (krA HO_10) hb); have n2_ := Aside0.mk (below_step (hbA HB) hb); clear HO_3; clear HO_10; clear HB; have HO_3 := n0_; have HO_10 := n1_; have HB := n2_; clear n0_ n1_ n2_; (try clear hb); (try clear hb2); (try clear hk); (try clear hi)))
     go_ret
     exact ⟨by first | rfl | (simp [errW_none, errW_some] <;> rfl) | (simp [*, errW_none, errW_some] <;> rfl), hbA HB⟩
    ·
     replace c25 := Bool.eq_false_iff.mpr c25
     subst c25
     have H1 : (some false) = some r := by rw [if_neg (show ¬ (false = true) by decide)] at H; exact H
     clear H
     have H := H1
     clear H1
     obtain rfl := Option.some.inj H
     go_wp2_with (first | ((with_reducible refine gate_callee (f := 26) rfl ?_); refine goesL_ (some 42) rfl rfl Try.func26 (by kernel_rfl) rfl #[] rfl (by (try simp only [List.map_toArray, List.map_cons, List.map_nil]); first | done | rfl | (simp only [List.length_drop, List.length_take]; rfl)) ?_; (with_reducible refine (agatelaw13_Awake.calls k1  false _ A24.out).mono ?_); rintro e w27 ⟨rfl, hb⟩; refine ⟨_, rfl, ?_⟩; have n0_ := Aside0.mk (Kd.R_below (krA HO_3) hb); have n1_ := Aside0.mk (Kd.R_below (krA HO_10) hb); have n2_ := Aside0.mk (below_step (hbA HB) hb); clear HO_3; clear HO_10; clear HB; have HO_3 := n0_; have HO_10 := n1_; have HB := n2_; clear n0_ n1_ n2_; (try clear hb); (try clear hb2); (try clear hk); (try clear hi)))
     go_ret
     exact ⟨by first | rfl | (simp [errW_none, errW_some] <;> rfl) | (simp [*, errW_none, errW_some] <;> rfl), hbA HB⟩
def agatelaw13_OpsAll.Pure : Prop := ∀ (a0 : Int), (Lit.int .u8 a0).wf = true → ∃ k, agatelaw13_OpsAll.f k a0 = some true
theorem agatelaw13_OpsAll.walk (P : agatelaw13_OpsAll.Pure) (a0 : Int) (w : World) (w0 : (Lit.int .u8 a0).wf = true) :
  Calls Try.prog 4 #[.int .u8 a0] w fun e w' => e = .returned (.bool true) ∧ Below w.heap.size w w' := by
 obtain ⟨k, h⟩ := P a0 w0
 refine (agatelaw13_OpsAll.calls k a0 true w h).mono ?_
 rintro e w' ⟨rfl, hd⟩
 exact ⟨rfl, hd⟩
end Go.Proofs.Ytdemgfbolcmcdaa.X
namespace Go.Proofs.Ytdemgfbolcmcdaa.Pure
open Go.RowKit Go.Proofs.Ytdemgfbolcmcdaa.X Go.Proofs.YtdemgfbolcmcdaaW.PrintWords Go.Proofs.YtdemgfbolcmcdaaW.PrintLast Go.Proofs.YtdemgfbolcmcdaaW.PrintMore
set_option linter.unusedVariables false
set_option linter.unusedSimpArgs false
theorem all_at0 : agatelaw13_OpsAll.f 200 0 = some true := by decide +kernel
theorem all_at1 : agatelaw13_OpsAll.f 200 1 = some true := by decide +kernel
theorem all_at2 : agatelaw13_OpsAll.f 200 2 = some true := by decide +kernel
theorem all_at3 : agatelaw13_OpsAll.f 200 3 = some true := by decide +kernel
theorem all_at4 : agatelaw13_OpsAll.f 200 4 = some true := by decide +kernel
theorem all_same (a b : Int) (h : wrap64 (9 + (wrap64 (Int.tmod a 5))) = wrap64 (9 + (wrap64 (Int.tmod b 5)))) : ∀ k,
    (∀ y1 y2 y3 y4 y5, agatelaw13_OpsAll.l0 k a y1 y2 y3 y4 y5 = agatelaw13_OpsAll.l0 k b y1 y2 y3 y4 y5) ∧
    (∀ y1 y2 y3 y4 y5 y6 y7, agatelaw13_OpsAll.j1 k a y1 y2 y3 y4 y5 y6 y7 = agatelaw13_OpsAll.j1 k b y1 y2 y3 y4 y5 y6 y7)
  | 0 => ⟨fun _ _ _ _ _ => rfl, fun _ _ _ _ _ _ _ => rfl⟩
  | k + 1 => by
    obtain ⟨h0, h1⟩ := all_same a b h k
    refine ⟨fun y1 y2 y3 y4 y5 => ?_, fun y1 y2 y3 y4 y5 y6 y7 => ?_⟩
    · simp only [agatelaw13_OpsAll.l0]
      rw [h1, h1]
    · simp only [agatelaw13_OpsAll.j1]
      rw [h, h0]
theorem OpsAll : agatelaw13_OpsAll.Pure := by
  intro a hw
  have hr : 0 ≤ a ∧ a ≤ 255 := by simpa [Lit.wf, IntKind.min, IntKind.max, IntKind.bits, IntKind.signed] using hw
  have ht : Int.tmod a 5 = a % 5 := Int.tmod_eq_emod_of_nonneg hr.1
  have key : ∀ b : Int, Int.tmod b 5 = a % 5 → agatelaw13_OpsAll.f 200 b = some true → ∃ k, agatelaw13_OpsAll.f k a = some true := by
    intro b hb hf
    refine ⟨200, ?_⟩
    have e : agatelaw13_OpsAll.f 200 a = agatelaw13_OpsAll.f 200 b := by
      unfold agatelaw13_OpsAll.f
      have h2 := (all_same a b (by rw [ht, hb]) 200).1
      simp only [h2]
    rw [e, hf]
  have h5 : a % 5 = 0 ∨ a % 5 = 1 ∨ a % 5 = 2 ∨ a % 5 = 3 ∨ a % 5 = 4 := by omega
  rcases h5 with h | h | h | h | h
  · exact key 0 (by rw [h]; rfl) all_at0
  · exact key 1 (by rw [h]; rfl) all_at1
  · exact key 2 (by rw [h]; rfl) all_at2
  · exact key 3 (by rw [h]; rfl) all_at3
  · exact key 4 (by rw [h]; rfl) all_at4
end Go.Proofs.Ytdemgfbolcmcdaa.Pure
namespace Go.Proofs.Ytdemgfbolcmcdaa.opsAll
open Go.ChangeShapes Go.WideShapes Go.ChangeAt Go.RowKit
open Go.ChangeMaps (open_string shut_string)
set_option linter.unusedVariables false
theorem own : ownKnob Try.prog.godebug = none := by kernel_rfl
set_option maxRecDepth 100000 in
theorem lifted (os : Os) (started : os.Started) (H : Type) (enc : TypeId × Value → H) :
    ReturnsInHanded {} Try.checked os 4 .any (Rows.opsAllSpec.pre6 enc Try.prog Try.f4 Rows.opsAllRow.domain false) (Rows.opsAllSpec.post enc Try.prog Try.f4 false true false false) := by
  refine returnsInHanded_of_change_sized (C := Try.checked) own started (by kernel_rfl) Try.func4
    (ChangeSpec.witness6 (enc := enc) (C := Try.checked) false ⟨#[], #[.int .u8 0], []⟩ 8 (by kernel_rfl) (by kernel_rfl) (by kernel_rfl) (by kernel_rfl)) ?_
  intro W base args ds gs before hval0 hW hcnd hsz0 _
  have hsz : (DataW.weightsEach Try.prog (Try.f4.params.toList ++ Rows.opsAllSpec.plain.varTypes Try.prog) (ds ++ gs)).all (· ≤ reachBytes) = true := hsz0
  have hval : ∀ (j : Nat) t v, Try.f4.params[j]? = some t → args[j]? = some v → Value.okWide Try.prog W .any base t v := hval0
  have hW' := hW
  obtain ⟨p, q, hA0, hV, rfl, hfz, hnd⟩ := hW
  have hA : DataW.TrodAll enc Try.prog W 0 (fun _ => true) true Try.f4.params.toList args.toList ds p := hA0
  rw [Try.params4] at hA hval hsz
  obtain ⟨v0, vs0, d0, ds0, p0, q0, hargs, rfl, rfl, h0, r0⟩ := trodAll_cons hA
  obtain ⟨rfl, rfl, rfl⟩ := trodAll_nil r0
  obtain rfl : args = #[v0] := by cases args; simp_all
  obtain ⟨rfl, rfl⟩ := trodVars_none hV
  obtain ⟨a0, rfl, rfl, rfl, w0⟩ := open_int Try.underlying5 (hval 0 5 v0 rfl rfl) h0
  clear hA0 hval0 hsz0 hsz
  refine (X.agatelaw13_OpsAll.walk Pure.OpsAll a0 W w0).mono fun e W' ⟨he, bel⟩ => ?_
  subst he
  exact ⟨_, rfl, _, _, _, [], _, [], hW', trodAll_mk1 (shut_bool Try.underlying4 _), (trodAll_cons_mk (shut_int Try.underlying5 w0) trodAll_mk0), rfl, bel.frame _, fun h => by cases h⟩
theorem over : Rows.opsAllRow.holds Try.pinned (OpenSpec.ofChange Rows.opsAllSpec) :=
  OpenClaim.holds_of_wide 4 Try.f4 rfl rfl rfl rfl rfl rfl rfl ⟨rfl, rfl, rfl, rfl, rfl⟩ rfl rfl rfl rfl rfl (by kernel_rfl) Try.func4 (by kernel_rfl)
    (of_decide_eq_true (by kernel_rfl)) (by unfold Func.isWrapper; first | (rw [if_pos (by decide +kernel)]; kernel_rfl) | (rw [if_neg (by decide +kernel)]; exact ⟨rfl, rfl⟩))
    (fun os started H enc _ => lifted os started H enc)
theorem proved : Rows.OpsAllSaid := over
#print axioms proved
end Go.Proofs.Ytdemgfbolcmcdaa.opsAll
namespace Go.Proofs.Ytdemgfbolcmcdaa
theorem opsAll_holds : Rows.OpsAllSaid := opsAll.proved
end Go.Proofs.Ytdemgfbolcmcdaa
