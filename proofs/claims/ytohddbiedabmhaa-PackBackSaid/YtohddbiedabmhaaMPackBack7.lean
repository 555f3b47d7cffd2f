import Derived.Test.YtohddbiedabmhaaMPackBack0
import Derived.Test.YtohddbiedabmhaaMPackBack6
import Derived.Test.YtohddbiedabmhaaMPackBack2
import Derived.Test.YtohddbiedabmhaaMPackBack4
-- by xprint.py, a program of this session, over the kit's print.py
namespace Go.Proofs.Ytohddbiedabmhaa.X
open Go.RowKit Go.Proofs.YtohddbiedabmhaaW.PrintWords Go.Proofs.YtohddbiedabmhaaW.PrintLast Go.Proofs.YtohddbiedabmhaaW.PrintMore
attribute [local go_sem] max2_int min2_int max_two min_two max_three min_three max_four min_four   -- for this text's walks alone
set_option linter.unusedVariables false
set_option linter.unusedSimpArgs false

def wire_Fields_s.f (a0 : ByteArray) : Option (List (S47) × Int) := if a0.size ≤ 140737488351232 then some ((fieldsS a0).1.map toP, ((fieldsS a0).2 : Int)) else none
theorem wire_Fields_eval (d : Nat) : ∀ (k : Nat) (b : ByteArray) (acc : List (S47)), b.size ≤ d → d ≤ 1048576 → acc.length + d ≤ 1048576 → d < k →
    wire_Fields.l0 k b acc = some (if (fieldsF d b).2 ≠ 0 then ([], ((fieldsF d b).2 : Int)) else (acc ++ (fieldsF d b).1.map toP, 0)) := by
  induction d with
  | zero =>
    intro k b acc hb hd hl hk
    obtain ⟨k, rfl⟩ : ∃ m, k = m + 1 := ⟨k - 1, by omega⟩
    simp only [wire_Fields.l0]
    rw [if_pos (toList_nil.2 (by omega))]
    simp [fieldsF]
  | succ d ih =>
    intro k b acc hb hd hl hk
    obtain ⟨k, rfl⟩ : ∃ m, k = m + 1 := ⟨k - 1, by omega⟩
    simp only [wire_Fields.l0]
    by_cases h0 : b.size = 0
    · rw [if_pos (toList_nil.2 h0)]
      simp [fieldsF, h0]
    · rw [if_neg (fun h => h0 (toList_nil.1 h))]
      have e1 : wire_one_s.f b = some (oneT (oneS b)) := if_pos (by omega)
      simp only [e1, Option.bind_some, oneT]
      rw [fieldsF, if_neg h0]
      by_cases hc : (oneS b).2.2 = 0
      · have g := oneS_pos b hc
        rw [if_pos (by omega), if_pos (by omega), if_pos (by omega), if_pos (by omega), Int.toNat_natCast]
        rw [ih k _ _ (by rw [extract_size' _ _ g.2]; omega) (by omega) (by simp; omega) (by omega)]
        rw [if_neg (show ¬ ((oneS b).2.2 ≠ 0) by simp [hc])]
        by_cases hq : (fieldsF d (b.extract (oneS b).2.1 b.size)).2 = 0
        · simp [hq, toP]
        · simp [hq]
      · rw [if_neg (by omega), if_pos hc]
        simp [hc]
theorem wire_Fields_s.ev (a0 : ByteArray) (r) (h : wire_Fields_s.f a0 = some r) : ∃ k, wire_Fields.f k a0 = some r := by
  unfold wire_Fields_s.f at h
  split at h
  · rename_i hs
    rw [← h]
    unfold wire_Fields.f fieldsS
    by_cases hg : a0.size > 1048576
    · exact ⟨0, by rw [if_pos (by omega), if_pos hg]; rfl⟩
    · refine ⟨a0.size + 1, ?_⟩
      rw [if_neg (by omega), if_neg hg, wire_Fields_eval a0.size _ a0 [] (by omega) (by omega) (by simp; omega) (by omega)]
      have hnil : (fieldsF a0.size a0).2 ≠ 0 → (fieldsF a0.size a0).1 = [] := fieldsF_nil _ _
      by_cases hq : (fieldsF a0.size a0).2 = 0
      · simp [hq]
      · simp [hq, hnil hq]
  · cases h

set_option maxHeartbeats 1000000 in
theorem wire_Fields_s.calls (a0 : ByteArray) (r1 : List (S47)) (r2 : Int) (w : World) (h : wire_Fields_s.f a0 = some (r1, r2)) :
    Calls Try.prog 21 #[.string a0] w fun e w' => ∃ v0_ : Value, e = .returned (.tuple #[v0_, .int .i64 r2]) ∧ Kd.R k47 47 w' w.heap.size (fun _ => True) v0_ r1 ∧ Below w.heap.size w w' := by
  obtain ⟨k, hk⟩ := wire_Fields_s.ev a0 _ h
  exact wire_Fields.calls k a0 r1 r2 w hk

end Go.Proofs.Ytohddbiedabmhaa.X
-- by xprint.py, a program of this session, over the kit's print.py
namespace Go.Proofs.Ytohddbiedabmhaa.X
open Go.RowKit Go.Proofs.YtohddbiedabmhaaW.PrintWords Go.Proofs.YtohddbiedabmhaaW.PrintLast Go.Proofs.YtohddbiedabmhaaW.PrintMore
attribute [local go_sem] max2_int min2_int max_two min_two max_three min_three max_four min_four   -- for this text's walks alone
set_option linter.unusedVariables false
set_option linter.unusedSimpArgs false

theorem eqA47 (d : Nat) (w : World) (x0 y0 : Int) (x1 y1 : Int) (x2 y2 : Int) (x3 y3 : ByteArray) :
    (Op.equalIn (d + 2) 47 (.agg #[.int .i64 x0, .int .i64 x1, .int .u64 x2, .string x3]) (.agg #[.int .i64 y0, .int .i64 y1, .int .u64 y2, .string y3])).run Try.prog w = .ok (x0 == y0 && (x1 == y1 && (x2 == y2 && (x3.toList == y3.toList)))) w := by
  refine eqA_of Try.underlying47 (by kernel_rfl) ?_
  refine eqf_cons (by rfl) (by go_simp; rfl) (by go_simp; rfl) (by go_simp) ?_
  refine eqf_cons (by rfl) (by go_simp; rfl) (by go_simp; rfl) (by go_simp) ?_
  refine eqf_cons (by rfl) (by go_simp; rfl) (by go_simp; rfl) (by go_simp) ?_
  exact eqf_last (by rfl) (by go_simp; rfl) (by go_simp; rfl) (by go_simp)
end Go.Proofs.Ytohddbiedabmhaa.X
-- by xprint.py, a program of this session, over the kit's print.py
namespace Go.Proofs.Ytohddbiedabmhaa.X
open Go.RowKit Go.Proofs.YtohddbiedabmhaaW.PrintWords Go.Proofs.YtohddbiedabmhaaW.PrintLast Go.Proofs.YtohddbiedabmhaaW.PrintMore
attribute [local go_sem] max2_int min2_int max_two min_two max_three min_three max_four min_four   -- for this text's walks alone
set_option linter.unusedVariables false
set_option linter.unusedSimpArgs false

attribute [local go_sem high] eqA47
/-! ### agatelaw02_Awake: function 20 -/
def agatelaw02_Awake.f  : Option (Bool) := (wire_Fields_s.f (⟨#[8, 150, 1]⟩ : ByteArray)).bind fun bt101 => ((agatelaw01_Awake_s.f).bind fun t105 => (if t105 = true then (if bt101.2 = 0 then (if (bt101.1.length : Int) = 1 then (if 0 < (bt101.1.length : Int) then (some (((rd_T47 bt101.1 0).f0) == 1 && (((rd_T47 bt101.1 0).f1) == 0 && (((rd_T47 bt101.1 0).f2) == 150 && ((((rd_T47 bt101.1 0).f3).toList) == ([] : List UInt8)))))) else (none)) else (some false)) else (some false)) else (some false)))
set_option maxHeartbeats 8000000 in
set_option maxRecDepth 100000 in
theorem agatelaw02_Awake.calls  (r : Bool) (w : World) (h : agatelaw02_Awake.f  = some r) :
    Calls Try.prog 20 #[] w fun e w' => e = .returned (.bool r) ∧ Below w.heap.size w w' := by
  have hu47 := Try.underlying47
  have HB := Aside0.mk (Below.refl w.heap.size w)
  have H : ((wire_Fields_s.f (⟨#[8, 150, 1]⟩ : ByteArray)).bind fun bt101 => ((agatelaw01_Awake_s.f).bind fun t105 => (if t105 = true then (if bt101.2 = 0 then (if (bt101.1.length : Int) = 1 then (if 0 < (bt101.1.length : Int) then (some (((rd_T47 bt101.1 0).f0) == 1 && (((rd_T47 bt101.1 0).f1) == 0 && (((rd_T47 bt101.1 0).f2) == 150 && ((((rd_T47 bt101.1 0).f3).toList) == ([] : List UInt8)))))) else (none)) else (some false)) else (some false)) else (some false)))) = some r := h
  clear h
  replace H := Option.bind_eq_some_iff.mp H
  obtain ⟨⟨t101, t102⟩, A10, H⟩ := H
  replace H : ((agatelaw01_Awake_s.f).bind fun t105 => (if t105 = true then (if t102 = 0 then (if (t101.length : Int) = 1 then (if 0 < (t101.length : Int) then (some (((rd_T47 t101 0).f0) == 1 && (((rd_T47 t101 0).f1) == 0 && (((rd_T47 t101 0).f2) == 150 && ((((rd_T47 t101 0).f3).toList) == ([] : List UInt8)))))) else (none)) else (some false)) else (some false)) else (some false))) = some r := H
  have A1 := Aside0.mk A10
  clear A10
  replace H := Option.bind_eq_some_iff.mp H
  obtain ⟨t105, A20, H⟩ := H
  replace H : (if t105 = true then (if t102 = 0 then (if (t101.length : Int) = 1 then (if 0 < (t101.length : Int) then (some (((rd_T47 t101 0).f0) == 1 && (((rd_T47 t101 0).f1) == 0 && (((rd_T47 t101 0).f2) == 150 && ((((rd_T47 t101 0).f3).toList) == ([] : List UInt8)))))) else (none)) else (some false)) else (some false)) else (some false)) = some r := H
  have A2 := Aside0.mk A20
  clear A20
  by_cases c3 : t105 = true
  · subst c3
    have H1 : (if t102 = 0 then (if (t101.length : Int) = 1 then (if 0 < (t101.length : Int) then (some (((rd_T47 t101 0).f0) == 1 && (((rd_T47 t101 0).f1) == 0 && (((rd_T47 t101 0).f2) == 150 && ((((rd_T47 t101 0).f3).toList) == ([] : List UInt8)))))) else (none)) else (some false)) else (some false)) = some r := by rw [if_pos rfl] at H; exact H
    clear H
    have H := H1
    clear H1
    by_cases c4 : t102 = 0
    · rw [if_pos c4] at H
      have c4b0 : (t102 == 0) = true := beq_iff_eq.mpr c4
      have c4b1 : (t102 != 0) = false := bne_eq_false_iff_eq.mpr c4
      clear c4
      by_cases c5 : (t101.length : Int) = 1
      · rw [if_pos c5] at H
        have c5b0 : ((t101.length : Int) == 1) = true := beq_iff_eq.mpr c5
        have c5b1 : ((t101.length : Int) != 1) = false := bne_eq_false_iff_eq.mpr c5
        clear c5
        by_cases c6 : 0 < (t101.length : Int)
        · rw [if_pos c6] at H
          have c6b0 : decide (0 < (t101.length : Int)) = true := decide_eq_true c6
          have c6b1 : decide (0 < t101.length) = true := decide_eq_true (by omega)
          clear c6
          obtain rfl := Option.some.inj H
          go_enter Try.func20, Try.ntmps20
          go_wp2_with (first | ((with_reducible refine gate_callee (f := 21) rfl ?_); refine goesL_ (some 4) rfl rfl Try.func21 (by kernel_rfl) rfl #[.string (⟨#[8, 150, 1]⟩ : ByteArray)] rfl (by (try simp only [List.map_toArray, List.map_cons, List.map_nil]); first | done | rfl | (simp only [List.length_drop, List.length_take]; rfl)) ?_; (with_reducible refine (wire_Fields_s.calls (⟨#[8, 150, 1]⟩ : ByteArray) t101 t102 _ A1.out).mono ?_); rintro e w7 ⟨v103, rfl, ho0, hb⟩; refine ⟨_, rfl, ?_⟩; have n0_ := Aside0.mk (Kd.R_lower ho0 (below_size (by repeat (first | (with_reducible first | exact HB.out | apply below_alloc | apply pw_below_drewN | apply below_drew1) | exact HB.out)))); have n1_ := Aside0.mk (below_step (by repeat (first | (with_reducible first | exact HB.out | apply below_alloc | apply pw_below_drewN | apply below_drew1) | exact HB.out)) hb); clear HB; have HO104 := n0_; have HB := n1_; clear n0_ n1_; (try clear hb); (try clear hb2); (try clear hk); (try clear hi); (try clear ho0)) | ((with_reducible refine gate_callee (f := 11) rfl ?_); refine goesL_ (some 7) rfl rfl Try.func11 (by kernel_rfl) rfl #[] rfl (by (try simp only [List.map_toArray, List.map_cons, List.map_nil]); first | done | rfl | (simp only [List.length_drop, List.length_take]; rfl)) ?_; (with_reducible refine (agatelaw01_Awake_s.calls  true _ A2.out).mono ?_); rintro e w8 ⟨rfl, hb⟩; refine ⟨_, rfl, ?_⟩; have n0_ := Aside0.mk (Kd.R_below (by (with_reducible repeat (first | apply Kd.R_alloc | apply Kd.R_drewN | apply Kd.R_drew)); exact HO104.out) hb); have n1_ := Aside0.mk (below_step (by repeat (first | (with_reducible first | exact HB.out | apply below_alloc | apply pw_below_drewN | apply below_drew1) | exact HB.out)) hb); clear HO104; clear HB; have HO104 := n0_; have HB := n1_; clear n0_ n1_; (try clear hb); (try clear hb2); (try clear hk); (try clear hi); obtain ⟨Ao9, co9, eo9⟩ := Kd.R_slice HO104.out; subst eo9; have p106 : 0 ≤ (0 : Int) := (by omega); have q106 : 0 < (t101.length : Int) := of_decide_eq_true (by first | (with_reducible assumption) | assumption); obtain ⟨ad106, e106, hx106_0, hx106_1, hx106_2, hx106_3⟩ := at_T47 (Kd.R_reads' HO104.out).2.2 0 p106 q106; cases e106; have qi106 : (0 < t101.length) = True := eq_true (by omega); (try rw [show ((0 : Int)).toNat = 0 from rfl] at hx106_0); (try rw [show 0 * 4 = 0 from rfl] at hx106_0); (try rw [Addr.add_zero'] at hx106_0); (try rw [show ((0 : Int)).toNat = 0 from rfl] at hx106_1); (try rw [show 0 * 4 = 0 from rfl] at hx106_1); (try rw [Addr.add_zero'] at hx106_1); (try rw [show ((0 : Int)).toNat = 0 from rfl] at hx106_2); (try rw [show 0 * 4 = 0 from rfl] at hx106_2); (try rw [Addr.add_zero'] at hx106_2); (try rw [show ((0 : Int)).toNat = 0 from rfl] at hx106_3); (try rw [show 0 * 4 = 0 from rfl] at hx106_3); (try rw [Addr.add_zero'] at hx106_3); replace p106 := eq_true p106; replace q106 := eq_true q106))
          go_ret
          exact ⟨by first | rfl | (simp [errW_none, errW_some] <;> rfl) | (simp [*, errW_none, errW_some] <;> rfl), by repeat (first | (with_reducible first | exact HB.out | apply below_alloc | apply pw_below_drewN | apply below_drew1) | exact HB.out)⟩
        · rw [if_neg c6] at H
          exact absurd H (by simp)
      · rw [if_neg c5] at H
        have c5b0 : ((t101.length : Int) == 1) = false := beq_eq_false_iff_ne.mpr c5
        have c5b1 : ((t101.length : Int) != 1) = true := bne_iff_ne.mpr c5
        obtain rfl := Option.some.inj H
        go_enter Try.func20, Try.ntmps20
        go_wp2_with (first | ((with_reducible refine gate_callee (f := 21) rfl ?_); refine goesL_ (some 4) rfl rfl Try.func21 (by kernel_rfl) rfl #[.string (⟨#[8, 150, 1]⟩ : ByteArray)] rfl (by (try simp only [List.map_toArray, List.map_cons, List.map_nil]); first | done | rfl | (simp only [List.length_drop, List.length_take]; rfl)) ?_; (with_reducible refine (wire_Fields_s.calls (⟨#[8, 150, 1]⟩ : ByteArray) t101 t102 _ A1.out).mono ?_); rintro e w10 ⟨v103, rfl, ho0, hb⟩; refine ⟨_, rfl, ?_⟩; have n0_ := Aside0.mk (Kd.R_lower ho0 (below_size (by repeat (first | (with_reducible first | exact HB.out | apply below_alloc | apply pw_below_drewN | apply below_drew1) | exact HB.out)))); have n1_ := Aside0.mk (below_step (by repeat (first | (with_reducible first | exact HB.out | apply below_alloc | apply pw_below_drewN | apply below_drew1) | exact HB.out)) hb); clear HB; have HO104 := n0_; have HB := n1_; clear n0_ n1_; (try clear hb); (try clear hb2); (try clear hk); (try clear hi); (try clear ho0)) | ((with_reducible refine gate_callee (f := 11) rfl ?_); refine goesL_ (some 7) rfl rfl Try.func11 (by kernel_rfl) rfl #[] rfl (by (try simp only [List.map_toArray, List.map_cons, List.map_nil]); first | done | rfl | (simp only [List.length_drop, List.length_take]; rfl)) ?_; (with_reducible refine (agatelaw01_Awake_s.calls  true _ A2.out).mono ?_); rintro e w11 ⟨rfl, hb⟩; refine ⟨_, rfl, ?_⟩; have n0_ := Aside0.mk (Kd.R_below (by (with_reducible repeat (first | apply Kd.R_alloc | apply Kd.R_drewN | apply Kd.R_drew)); exact HO104.out) hb); have n1_ := Aside0.mk (below_step (by repeat (first | (with_reducible first | exact HB.out | apply below_alloc | apply pw_below_drewN | apply below_drew1) | exact HB.out)) hb); clear HO104; clear HB; have HO104 := n0_; have HB := n1_; clear n0_ n1_; (try clear hb); (try clear hb2); (try clear hk); (try clear hi); obtain ⟨Ao12, co12, eo12⟩ := Kd.R_slice HO104.out; subst eo12))
        go_ret
        exact ⟨by first | rfl | (simp [errW_none, errW_some] <;> rfl) | (simp [*, errW_none, errW_some] <;> rfl), by repeat (first | (with_reducible first | exact HB.out | apply below_alloc | apply pw_below_drewN | apply below_drew1) | exact HB.out)⟩
    · rw [if_neg c4] at H
      have c4b0 : (t102 == 0) = false := beq_eq_false_iff_ne.mpr c4
      have c4b1 : (t102 != 0) = true := bne_iff_ne.mpr c4
      obtain rfl := Option.some.inj H
      go_enter Try.func20, Try.ntmps20
      go_wp2_with (first | ((with_reducible refine gate_callee (f := 21) rfl ?_); refine goesL_ (some 4) rfl rfl Try.func21 (by kernel_rfl) rfl #[.string (⟨#[8, 150, 1]⟩ : ByteArray)] rfl (by (try simp only [List.map_toArray, List.map_cons, List.map_nil]); first | done | rfl | (simp only [List.length_drop, List.length_take]; rfl)) ?_; (with_reducible refine (wire_Fields_s.calls (⟨#[8, 150, 1]⟩ : ByteArray) t101 t102 _ A1.out).mono ?_); rintro e w13 ⟨v103, rfl, ho0, hb⟩; refine ⟨_, rfl, ?_⟩; have n0_ := Aside0.mk (Kd.R_lower ho0 (below_size (by repeat (first | (with_reducible first | exact HB.out | apply below_alloc | apply pw_below_drewN | apply below_drew1) | exact HB.out)))); have n1_ := Aside0.mk (below_step (by repeat (first | (with_reducible first | exact HB.out | apply below_alloc | apply pw_below_drewN | apply below_drew1) | exact HB.out)) hb); clear HB; have HO104 := n0_; have HB := n1_; clear n0_ n1_; (try clear hb); (try clear hb2); (try clear hk); (try clear hi); (try clear ho0)) | ((with_reducible refine gate_callee (f := 11) rfl ?_); refine goesL_ (some 7) rfl rfl Try.func11 (by kernel_rfl) rfl #[] rfl (by (try simp only [List.map_toArray, List.map_cons, List.map_nil]); first | done | rfl | (simp only [List.length_drop, List.length_take]; rfl)) ?_; (with_reducible refine (agatelaw01_Awake_s.calls  true _ A2.out).mono ?_); rintro e w14 ⟨rfl, hb⟩; refine ⟨_, rfl, ?_⟩; have n0_ := Aside0.mk (Kd.R_below (by (with_reducible repeat (first | apply Kd.R_alloc | apply Kd.R_drewN | apply Kd.R_drew)); exact HO104.out) hb); have n1_ := Aside0.mk (below_step (by repeat (first | (with_reducible first | exact HB.out | apply below_alloc | apply pw_below_drewN | apply below_drew1) | exact HB.out)) hb); clear HO104; clear HB; have HO104 := n0_; have HB := n1_; clear n0_ n1_; (try clear hb); (try clear hb2); (try clear hk); (try clear hi)))
      go_ret
      exact ⟨by first | rfl | (simp [errW_none, errW_some] <;> rfl) | (simp [*, errW_none, errW_some] <;> rfl), by repeat (first | (with_reducible first | exact HB.out | apply below_alloc | apply pw_below_drewN | apply below_drew1) | exact HB.out)⟩
  · replace c3 := Bool.eq_false_iff.mpr c3
    subst c3
    have H1 : (some false) = some r := by rw [if_neg (show ¬ (false = true) by decide)] at H; exact H
    clear H
    have H := H1
    clear H1
    obtain rfl := Option.some.inj H
    go_enter Try.func20, Try.ntmps20
    go_wp2_with (first | ((with_reducible refine gate_callee (f := 21) rfl ?_); refine goesL_ (some 4) rfl rfl Try.func21 (by kernel_rfl) rfl #[.string (⟨#[8, 150, 1]⟩ : ByteArray)] rfl (by (try simp only [List.map_toArray, List.map_cons, List.map_nil]); first | done | rfl | (simp only [List.length_drop, List.length_take]; rfl)) ?_; (with_reducible refine (wire_Fields_s.calls (⟨#[8, 150, 1]⟩ : ByteArray) t101 t102 _ A1.out).mono ?_); rintro e w15 ⟨v103, rfl, ho0, hb⟩; refine ⟨_, rfl, ?_⟩; have n0_ := Aside0.mk (Kd.R_lower ho0 (below_size (by repeat (first | (with_reducible first | exact HB.out | apply below_alloc | apply pw_below_drewN | apply below_drew1) | exact HB.out)))); have n1_ := Aside0.mk (below_step (by repeat (first | (with_reducible first | exact HB.out | apply below_alloc | apply pw_below_drewN | apply below_drew1) | exact HB.out)) hb); clear HB; have HO104 := n0_; have HB := n1_; clear n0_ n1_; (try clear hb); (try clear hb2); (try clear hk); (try clear hi); (try clear ho0)) | ((with_reducible refine gate_callee (f := 11) rfl ?_); refine goesL_ (some 7) rfl rfl Try.func11 (by kernel_rfl) rfl #[] rfl (by (try simp only [List.map_toArray, List.map_cons, List.map_nil]); first | done | rfl | (simp only [List.length_drop, List.length_take]; rfl)) ?_; (with_reducible refine (agatelaw01_Awake_s.calls  false _ A2.out).mono ?_); rintro e w16 ⟨rfl, hb⟩; refine ⟨_, rfl, ?_⟩; have n0_ := Aside0.mk (Kd.R_below (by (with_reducible repeat (first | apply Kd.R_alloc | apply Kd.R_drewN | apply Kd.R_drew)); exact HO104.out) hb); have n1_ := Aside0.mk (below_step (by repeat (first | (with_reducible first | exact HB.out | apply below_alloc | apply pw_below_drewN | apply below_drew1) | exact HB.out)) hb); clear HO104; clear HB; have HO104 := n0_; have HB := n1_; clear n0_ n1_; (try clear hb); (try clear hb2); (try clear hk); (try clear hi)))
    go_ret
    exact ⟨by first | rfl | (simp [errW_none, errW_some] <;> rfl) | (simp [*, errW_none, errW_some] <;> rfl), by repeat (first | (with_reducible first | exact HB.out | apply below_alloc | apply pw_below_drewN | apply below_drew1) | exact HB.out)⟩

end Go.Proofs.Ytohddbiedabmhaa.X
-- by xprint.py, a program of this session, over the kit's print.py
namespace Go.Proofs.Ytohddbiedabmhaa.X
open Go.RowKit Go.Proofs.YtohddbiedabmhaaW.PrintWords Go.Proofs.YtohddbiedabmhaaW.PrintLast Go.Proofs.YtohddbiedabmhaaW.PrintMore
attribute [local go_sem] max2_int min2_int max_two min_two max_three min_three max_four min_four   -- for this text's walks alone
set_option linter.unusedVariables false
set_option linter.unusedSimpArgs false

def agatelaw02_Awake_s.f : Option Bool := some true
theorem awake02_fields : fieldsS ⟨#[8, 150, 1]⟩ = ([(1, 0, 150, ⟨#[]⟩)], 0) := by
  have h1 : oneS ⟨#[8, 150, 1]⟩ = ((1, 0, 150, ⟨#[]⟩), 3, 0) := by
    have e1 : vRead ⟨#[8, 150, 1]⟩ = (8, 1, 0) := by decide
    have e2 : vRead (ByteArray.extract ⟨#[8, 150, 1]⟩ 1 (ByteArray.size ⟨#[8, 150, 1]⟩)) = (150, 2, 0) := by decide
    unfold oneS
    simp only [e1]
    rw [if_neg (by simp), if_neg (by simp), if_pos (by simp)]
    simp only [e2]
    rfl
  unfold fieldsS
  rw [if_neg (by decide), show ByteArray.size ⟨#[8, 150, 1]⟩ = 3 from rfl, fieldsF, if_neg (by decide), h1]
  have h2 : (ByteArray.extract ⟨#[8, 150, 1]⟩ 3 (ByteArray.size ⟨#[8, 150, 1]⟩)).size = 0 := by decide
  simp [fieldsF, h2]
theorem agatelaw02_Awake_s.ev (r) (h : agatelaw02_Awake_s.f = some r) : ∃ k : Nat, agatelaw02_Awake.f = some r := by
  refine ⟨0, ?_⟩
  rw [← h]
  unfold agatelaw02_Awake.f agatelaw02_Awake_s.f
  have e : wire_Fields_s.f ⟨#[8, 150, 1]⟩ = some ([toP (1, 0, 150, ⟨#[]⟩)], 0) := by
    unfold wire_Fields_s.f
    rw [if_pos (by decide), awake02_fields]; rfl
  rw [e]
  simp only [Option.bind_some, agatelaw01_Awake_s.f, if_true]
  rw [if_pos (by rfl), if_pos (by decide)]
  have : (toP (1, 0, 150, ⟨#[]⟩)).f3.toList = ([] : List UInt8) := toList_nil.2 rfl
  simp only [rd_T47, Int.toNat_zero, List.getD_cons_zero]
  rw [this]
  rfl

set_option maxHeartbeats 1000000 in
theorem agatelaw02_Awake_s.calls  (r : Bool) (w : World) (h : agatelaw02_Awake_s.f  = some r) :
    Calls Try.prog 20 #[] w fun e w' => e = .returned (.bool r) ∧ Below w.heap.size w w' := by
  obtain ⟨k, hk⟩ := agatelaw02_Awake_s.ev  _ h
  exact agatelaw02_Awake.calls r w hk

end Go.Proofs.Ytohddbiedabmhaa.X
