import Derived.Test.YtgmggompdidcoaaGreatDoorMPbtensorWrites2
import Derived.Test.YtgmggompdidcoaaGreatDoorMPbtensorWrites21
import Derived.Test.YtgmggompdidcoaaGreatDoorMPbtensorWrites4
import Derived.Test.YtgmggompdidcoaaGreatDoorMPbtensorWrites11
import Derived.Test.YtgmggompdidcoaaGreatDoorMPbtensorWrites3
import Derived.Test.YtgmggompdidcoaaGreatDoorMPbtensorWrites14
import Derived.Test.YtgmggompdidcoaaGreatDoorMPbtensorWrites20
import Derived.Test.YtgmggompdidcoaaGreatDoorMPbtensorWrites13
import Derived.Test.YtgmggompdidcoaaGreatDoorMPbtensorWrites17
import Derived.KernelRfl
import Derived.Test.YtgmggompdidcoaaGreatDoorMPbtensorWrites9
import Derived.Test.YtgmggompdidcoaaGreatDoorMPbtensorWrites15
import Derived.Test.YtgmggompdidcoaaGreatDoorMPbtensorWrites8
import Derived.Test.YtgmggompdidcoaaGreatDoorMPbtensorWrites19
import Derived.Test.YtgmggompdidcoaaGreatDoorMPbtensorWrites6
namespace Go.Proofs.YtgmggompdidcoaaGreatDoor.X
open Go.RowKit Go.Proofs.YtgmggompdidcoaaGreatDoorW.PrintWords Go.Proofs.YtgmggompdidcoaaGreatDoorW.PrintLast Go.Proofs.YtgmggompdidcoaaGreatDoorW.PrintMore
attribute [local go_sem] max2_int min2_int max_two min_two max_three min_three max_four min_four
set_option linter.unusedVariables false
set_option linter.unusedSimpArgs false
def agatelaw01_Awake_s.f : Option Bool := some true
theorem agatelaw01_Awake_s.ev (r) (h : agatelaw01_Awake_s.f = some r) : ∃ k : Nat, agatelaw01_Awake.f = some r := by
  refine ⟨0, ?_⟩
  rw [← h]
  have h1 : varint_Read.f ⟨#[172, 2, 120]⟩ = some (300, 2, 0) := by
    have : vRead ⟨#[172, 2, 120]⟩ = (300, 2, 0) := by decide
    unfold varint_Read.f; rw [this]; rfl
  have h2 : varint_Put.f 300 = some ⟨#[172, 2]⟩ := by
    unfold varint_Put.f
    rw [if_pos (by decide)]
    have : vStr (300 : Int).toNat = ⟨#[172, 2]⟩ := by
      show strOfNums ((vPut 300).map Int.ofNat) = _
      rw [vPut_ge (by decide), vPut_lt (by decide)]; rfl
    rw [this]
  unfold agatelaw01_Awake.f agatelaw01_Awake_s.f
  rw [h1, h2]
  simp only [Option.bind_some]
  rw [if_pos (by rw [ByteArray.toList_eq])]
  rfl
set_option maxHeartbeats 1000000 in
theorem agatelaw01_Awake_s.calls  (r : Bool) (w : World) (h : agatelaw01_Awake_s.f  = some r) :
    Calls Tryz.prog 83 #[] w fun e w' => e = .returned (.bool r) ∧ Below w.heap.size w w' := by
  obtain ⟨k, hk⟩ := agatelaw01_Awake_s.ev  _ h
  exact agatelaw01_Awake.calls r w hk
theorem eqA95 (d : Nat) (w : World) (x0 y0 : Int) (x1 y1 : Int) (x2 y2 : Int) (x3 y3 : ByteArray) :
    (Op.equalIn (d + 2) 95 (.agg #[.int .i64 x0, .int .i64 x1, .int .u64 x2, .string x3]) (.agg #[.int .i64 y0, .int .i64 y1, .int .u64 y2, .string y3])).run Tryz.prog w = .ok (x0 == y0 && (x1 == y1 && (x2 == y2 && (x3.toList == y3.toList)))) w := by
  refine eqA_of Tryz.underlying95 (by kernel_rfl) ?_
  refine eqf_cons (by rfl) (by go_simp; rfl) (by go_simp; rfl) (by go_simp) ?_
  refine eqf_cons (by rfl) (by go_simp; rfl) (by go_simp; rfl) (by go_simp) ?_
  refine eqf_cons (by rfl) (by go_simp; rfl) (by go_simp; rfl) (by go_simp) ?_
  exact eqf_last (by rfl) (by go_simp; rfl) (by go_simp; rfl) (by go_simp)
end Go.Proofs.YtgmggompdidcoaaGreatDoor.X
namespace Go.Proofs.YtgmggompdidcoaaGreatDoor.X
open Go.RowKit Go.Proofs.YtgmggompdidcoaaGreatDoorW.PrintWords Go.Proofs.YtgmggompdidcoaaGreatDoorW.PrintLast Go.Proofs.YtgmggompdidcoaaGreatDoorW.PrintMore
attribute [local go_sem] max2_int min2_int max_two min_two max_three min_three max_four min_four
set_option linter.unusedVariables false
set_option linter.unusedSimpArgs false
attribute [local go_sem high] eqA95
def agatelaw02_Awake.f  : Option (Bool) := (wire_Fields_s.f (⟨#[8, 150, 1]⟩ : ByteArray)).bind fun bt101 => ((agatelaw01_Awake_s.f).bind fun t105 => (if t105 = true then (if bt101.2 = 0 then (if (bt101.1.length : Int) = 1 then (if 0 < (bt101.1.length : Int) then (some (((rd_T95 bt101.1 0).f0) == 1 && (((rd_T95 bt101.1 0).f1) == 0 && (((rd_T95 bt101.1 0).f2) == 150 && ((((rd_T95 bt101.1 0).f3).toList) == ([] : List UInt8)))))) else (none)) else (some false)) else (some false)) else (some false)))
set_option maxHeartbeats 8000000 in
set_option maxRecDepth 100000 in
theorem agatelaw02_Awake.calls  (r : Bool) (w : World) (h : agatelaw02_Awake.f  = some r) :
  Calls Tryz.prog 46 #[] w fun e w' => e = .returned (.bool r) ∧ Below w.heap.size w w' := by
 have hu95 := Tryz.underlying95; have HB := mk0 (Below.refl w.heap.size w); have H : ((wire_Fields_s.f (⟨#[8, 150, 1]⟩ : ByteArray)).bind fun bt101 => ((agatelaw01_Awake_s.f).bind fun t105 => (if t105 = true then (if bt101.2 = 0 then (if (bt101.1.length : Int) = 1 then (if 0 < (bt101.1.length : Int) then (some (((rd_T95 bt101.1 0).f0) == 1 && (((rd_T95 bt101.1 0).f1) == 0 && (((rd_T95 bt101.1 0).f2) == 150 && ((((rd_T95 bt101.1 0).f3).toList) == ([] : List UInt8)))))) else (none)) else (some false)) else (some false)) else (some false)))) = some r := h; clear h; replace H := Option.bind_eq_some_iff.mp H; obtain ⟨⟨t101, t102⟩, A10, H⟩ := H; replace H : ((agatelaw01_Awake_s.f).bind fun t105 => (if t105 = true then (if t102 = 0 then (if (t101.length : Int) = 1 then (if 0 < (t101.length : Int) then (some (((rd_T95 t101 0).f0) == 1 && (((rd_T95 t101 0).f1) == 0 && (((rd_T95 t101 0).f2) == 150 && ((((rd_T95 t101 0).f3).toList) == ([] : List UInt8)))))) else (none)) else (some false)) else (some false)) else (some false))) = some r := H; have A1 := mk0 A10; clear A10; replace H := bnd H; obtain ⟨t105, A2, H⟩ := H
 by_cases c3 : t105 = true
 ·
  subst c3; have H1 : (if t102 = 0 then (if (t101.length : Int) = 1 then (if 0 < (t101.length : Int) then (some (((rd_T95 t101 0).f0) == 1 && (((rd_T95 t101 0).f1) == 0 && (((rd_T95 t101 0).f2) == 150 && ((((rd_T95 t101 0).f3).toList) == ([] : List UInt8)))))) else (none)) else (some false)) else (some false)) = some r := by rw [if_pos rfl] at H; exact H
  clear H; have H := H1; clear H1
  by_cases c4 : t102 = 0
  ·
   rw [if_pos c4] at H; have c4b0 := beq_iff_eq.mpr c4; have c4b1 := bne_eq_false_iff_eq.mpr c4; clear c4
   by_cases c5 : (t101.length : Int) = 1
   ·
    rw [if_pos c5] at H; have c5b0 := beq_iff_eq.mpr c5; have c5b1 := bne_eq_false_iff_eq.mpr c5; clear c5; replace H := ifS H; obtain ⟨c6, H⟩ := H; have c6b0 := decide_eq_true c6; have c6b1 : decide (0 < t101.length) = true := decide_eq_true (by omega); clear c6; obtain rfl := Option.some.inj H
    go_enter Tryz.func46, Tryz.ntmps46
    go_wp2_with (first | ((with_reducible refine gate_callee (f := 51) rfl ?_); refine glE (some 4) rfl rfl Tryz.func51 (by kernel_rfl) rfl #[.string (⟨#[8, 150, 1]⟩ : ByteArray)] rfl ?_; (with_reducible refine (wire_Fields_s.calls (⟨#[8, 150, 1]⟩ : ByteArray) t101 t102 _ A1.out).mono ?_); rintro e w7 ⟨v103, rfl, ho0, hb⟩; refine ⟨_, rfl, ?_⟩; have HO104 := mk0 (Kd.R_lower ho0 (below_size (hbA HB))); replace HB := hbS HB hb; (try clear hb); (try clear ho0)) | ((with_reducible refine gate_callee (f := 83) rfl ?_); refine glE (some 7) rfl rfl Tryz.func83 (by kernel_rfl) rfl #[] rfl ?_; (with_reducible refine (agatelaw01_Awake_s.calls  true _ A2.out).mono ?_); rintro e w8 ⟨rfl, hb⟩; refine ⟨_, rfl, ?_⟩; replace HO104 := mk0 (Kd.R_below (krA HO104) hb); replace HB := hbS HB hb; (try clear hb); obtain ⟨Ao9, co9, eo9⟩ := Kd.R_slice HO104.out; subst eo9; have p106 : 0 ≤ (0 : Int) := (by omega); have q106 : 0 < (t101.length : Int) := ofd; obtain ⟨ad106, e106, hx106_0, hx106_1, hx106_2, hx106_3⟩ := at_T95 (Kd.R_reads' HO104.out).2.2 0 p106 q106; cases e106; have qi106 : (0 < t101.length) = True := eq_true (by omega); (try rw [show ((0 : Int)).toNat = 0 from rfl] at hx106_0); (try rw [show 0 * 4 = 0 from rfl] at hx106_0); (try rw [Addr.add_zero'] at hx106_0); (try rw [show ((0 : Int)).toNat = 0 from rfl] at hx106_1); (try rw [show 0 * 4 = 0 from rfl] at hx106_1); (try rw [Addr.add_zero'] at hx106_1); (try rw [show ((0 : Int)).toNat = 0 from rfl] at hx106_2); (try rw [show 0 * 4 = 0 from rfl] at hx106_2); (try rw [Addr.add_zero'] at hx106_2); (try rw [show ((0 : Int)).toNat = 0 from rfl] at hx106_3); (try rw [show 0 * 4 = 0 from rfl] at hx106_3); (try rw [Addr.add_zero'] at hx106_3); replace p106 := eq_true p106; replace q106 := eq_true q106))
    go_ret
    exact ⟨cl3, hbA HB⟩
   ·
    rw [if_neg c5] at H; have c5b0 := beq_eq_false_iff_ne.mpr c5; have c5b1 := bne_iff_ne.mpr c5; obtain rfl := Option.some.inj H
    go_enter Tryz.func46, Tryz.ntmps46
    go_wp2_with (first | ((with_reducible refine gate_callee (f := 51) rfl ?_); refine glE (some 4) rfl rfl Tryz.func51 (by kernel_rfl) rfl #[.string (⟨#[8, 150, 1]⟩ : ByteArray)] rfl ?_; (with_reducible refine (wire_Fields_s.calls (⟨#[8, 150, 1]⟩ : ByteArray) t101 t102 _ A1.out).mono ?_); rintro e w10 ⟨v103, rfl, ho0, hb⟩; refine ⟨_, rfl, ?_⟩; have HO104 := mk0 (Kd.R_lower ho0 (below_size (hbA HB))); replace HB := hbS HB hb; (try clear hb); (try clear ho0)) | ((with_reducible refine gate_callee (f := 83) rfl ?_); refine glE (some 7) rfl rfl Tryz.func83 (by kernel_rfl) rfl #[] rfl ?_; (with_reducible refine (agatelaw01_Awake_s.calls  true _ A2.out).mono ?_); rintro e w11 ⟨rfl, hb⟩; refine ⟨_, rfl, ?_⟩; replace HO104 := mk0 (Kd.R_below (krA HO104) hb); replace HB := hbS HB hb; (try clear hb); obtain ⟨Ao12, co12, eo12⟩ := Kd.R_slice HO104.out; subst eo12))
    go_ret
    exact ⟨cl3, hbA HB⟩
  ·
   rw [if_neg c4] at H; have c4b0 := beq_eq_false_iff_ne.mpr c4; have c4b1 := bne_iff_ne.mpr c4; obtain rfl := Option.some.inj H
   go_enter Tryz.func46, Tryz.ntmps46
   go_wp2_with (first | ((with_reducible refine gate_callee (f := 51) rfl ?_); refine glE (some 4) rfl rfl Tryz.func51 (by kernel_rfl) rfl #[.string (⟨#[8, 150, 1]⟩ : ByteArray)] rfl ?_; (with_reducible refine (wire_Fields_s.calls (⟨#[8, 150, 1]⟩ : ByteArray) t101 t102 _ A1.out).mono ?_); rintro e w13 ⟨v103, rfl, ho0, hb⟩; refine ⟨_, rfl, ?_⟩; have HO104 := mk0 (Kd.R_lower ho0 (below_size (hbA HB))); replace HB := hbS HB hb; (try clear hb); (try clear ho0)) | ((with_reducible refine gate_callee (f := 83) rfl ?_); refine glE (some 7) rfl rfl Tryz.func83 (by kernel_rfl) rfl #[] rfl ?_; (with_reducible refine (agatelaw01_Awake_s.calls  true _ A2.out).mono ?_); rintro e w14 ⟨rfl, hb⟩; refine ⟨_, rfl, ?_⟩; replace HO104 := mk0 (Kd.R_below (krA HO104) hb); replace HB := hbS HB hb; (try clear hb)))
   go_ret
   exact ⟨cl3, hbA HB⟩
 ·
  replace c3 := Bool.eq_false_iff.mpr c3; subst c3; have H1 : (some false) = some r := by rw [if_neg (show ¬ (false = true) by decide)] at H; exact H
  clear H; have H := H1; clear H1; obtain rfl := Option.some.inj H
  go_enter Tryz.func46, Tryz.ntmps46
  go_wp2_with (first | ((with_reducible refine gate_callee (f := 51) rfl ?_); refine glE (some 4) rfl rfl Tryz.func51 (by kernel_rfl) rfl #[.string (⟨#[8, 150, 1]⟩ : ByteArray)] rfl ?_; (with_reducible refine (wire_Fields_s.calls (⟨#[8, 150, 1]⟩ : ByteArray) t101 t102 _ A1.out).mono ?_); rintro e w15 ⟨v103, rfl, ho0, hb⟩; refine ⟨_, rfl, ?_⟩; have HO104 := mk0 (Kd.R_lower ho0 (below_size (hbA HB))); replace HB := hbS HB hb; (try clear hb); (try clear ho0)) | ((with_reducible refine gate_callee (f := 83) rfl ?_); refine glE (some 7) rfl rfl Tryz.func83 (by kernel_rfl) rfl #[] rfl ?_; (with_reducible refine (agatelaw01_Awake_s.calls  false _ A2.out).mono ?_); rintro e w16 ⟨rfl, hb⟩; refine ⟨_, rfl, ?_⟩; replace HO104 := mk0 (Kd.R_below (krA HO104) hb); replace HB := hbS HB hb; (try clear hb)))
  go_ret
  exact ⟨cl3, hbA HB⟩
end Go.Proofs.YtgmggompdidcoaaGreatDoor.X
namespace Go.Proofs.YtgmggompdidcoaaGreatDoor.X
open Go.RowKit Go.Proofs.YtgmggompdidcoaaGreatDoorW.PrintWords Go.Proofs.YtgmggompdidcoaaGreatDoorW.PrintLast Go.Proofs.YtgmggompdidcoaaGreatDoorW.PrintMore
attribute [local go_sem] max2_int min2_int max_two min_two max_three min_three max_four min_four
set_option linter.unusedVariables false
set_option linter.unusedSimpArgs false
def agatelaw02_Awake_s.f : Option Bool := some true
theorem awake02_fields : fieldsS ⟨#[8, 150, 1]⟩ = ([(1, 0, 150, ⟨#[]⟩)], 0) := by
  have h1 : oneS ⟨#[8, 150, 1]⟩ = ((1, 0, 150, ⟨#[]⟩), 3, 0) := by
    have e1 : vRead ⟨#[8, 150, 1]⟩ = (8, 1, 0) := by decide
    have e2 : vRead (ByteArray.extract ⟨#[8, 150, 1]⟩ 1 (ByteArray.size ⟨#[8, 150, 1]⟩)) = (150, 2, 0) := by decide
    unfold oneS
    simp only [e1]
    rw [if_neg (by simp), if_neg (by simp), if_pos (by simp)]
    simp only [e2]
    rfl
  unfold fieldsS
  rw [if_neg (by decide), show ByteArray.size ⟨#[8, 150, 1]⟩ = 3 from rfl, fieldsF, if_neg (by decide), h1]
  have h2 : (ByteArray.extract ⟨#[8, 150, 1]⟩ 3 (ByteArray.size ⟨#[8, 150, 1]⟩)).size = 0 := by decide
  simp [fieldsF, h2]
theorem agatelaw02_Awake_s.ev (r) (h : agatelaw02_Awake_s.f = some r) : ∃ k : Nat, agatelaw02_Awake.f = some r := by
  refine ⟨0, ?_⟩
  rw [← h]
  unfold agatelaw02_Awake.f agatelaw02_Awake_s.f
  have e : wire_Fields_s.f ⟨#[8, 150, 1]⟩ = some ([toP (1, 0, 150, ⟨#[]⟩)], 0) := by
    unfold wire_Fields_s.f
    rw [if_pos (by decide), awake02_fields]; rfl
  rw [e]
  simp only [Option.bind_some, agatelaw01_Awake_s.f, if_true]
  rw [if_pos (by rfl), if_pos (by decide)]
  have : (toP (1, 0, 150, ⟨#[]⟩)).f3.toList = ([] : List UInt8) := toList_nil.2 rfl
  simp only [rd_T95, Int.toNat_zero, List.getD_cons_zero]
  rw [this]
  rfl
set_option maxHeartbeats 1000000 in
theorem agatelaw02_Awake_s.calls  (r : Bool) (w : World) (h : agatelaw02_Awake_s.f  = some r) :
    Calls Tryz.prog 46 #[] w fun e w' => e = .returned (.bool r) ∧ Below w.heap.size w w' := by
  obtain ⟨k, hk⟩ := agatelaw02_Awake_s.ev  _ h
  exact agatelaw02_Awake.calls r w hk
def agatelaw03_Awake.f  : Option (Bool) := (pack_Ints_s.f (([(⟨1, 2, 0, (⟨#[1, 255, 255, 255, 255, 255, 255, 255, 255, 255, 1]⟩ : ByteArray)⟩ : S95), (⟨1, 0, 5, (⟨#[]⟩ : ByteArray)⟩ : S95)] : List (S95))) 1).bind fun bt104 => ((agatelaw02_Awake_s.f).bind fun t108 => (if t108 = true then (if bt104.2 = 0 then ((agatelaw03_Ints_s.f bt104.1 (([1, (-1), 5] : List Int))).bind fun t112 => (some t112)) else (some false)) else (some false)))
set_option maxHeartbeats 8000000 in
set_option maxRecDepth 100000 in
theorem agatelaw03_Awake.calls  (r : Bool) (w : World) (h : agatelaw03_Awake.f  = some r) :
  Calls Tryz.prog 18 #[] w fun e w' => e = .returned (.bool r) ∧ Below w.heap.size w w' := by
 have hu95 := Tryz.underlying95
 have HB := Aside0.mk (Below.refl w.heap.size w)
 have H : ((pack_Ints_s.f (([(⟨1, 2, 0, (⟨#[1, 255, 255, 255, 255, 255, 255, 255, 255, 255, 1]⟩ : ByteArray)⟩ : S95), (⟨1, 0, 5, (⟨#[]⟩ : ByteArray)⟩ : S95)] : List (S95))) 1).bind fun bt104 => ((agatelaw02_Awake_s.f).bind fun t108 => (if t108 = true then (if bt104.2 = 0 then ((agatelaw03_Ints_s.f bt104.1 (([1, (-1), 5] : List Int))).bind fun t112 => (some t112)) else (some false)) else (some false)))) = some r := h
 clear h
 obtain ⟨y101, hy101⟩ : ∃ y_ : List (S95), y_ = (([(⟨1, 2, 0, (⟨#[1, 255, 255, 255, 255, 255, 255, 255, 255, 255, 1]⟩ : ByteArray)⟩ : S95), (⟨1, 0, 5, (⟨#[]⟩ : ByteArray)⟩ : S95)] : List (S95))) := ⟨_, rfl⟩
 replace H : ((pack_Ints_s.f y101 1).bind fun bt104 => ((agatelaw02_Awake_s.f).bind fun t108 => (if t108 = true then (if bt104.2 = 0 then ((agatelaw03_Ints_s.f bt104.1 (([1, (-1), 5] : List Int))).bind fun t112 => (some t112)) else (some false)) else (some false)))) = some r := by first | (rw [hy101]; with_reducible exact H) | (have H2_ := (Option.bind_some _ _).symm.trans H; rw [hy101]; with_reducible exact H2_) | (have H2_ := (Option.bind_some _ _).symm.trans H; with_reducible exact H2_) | with_reducible exact H | (rw [hy101]; exact H) | exact H
 have Ny101 := Aside0.mk hy101
 clear hy101
 replace H := Option.bind_eq_some_iff.mp H
 obtain ⟨⟨t104, t105⟩, A10, H⟩ := H
 replace H : ((agatelaw02_Awake_s.f).bind fun t108 => (if t108 = true then (if t105 = 0 then ((agatelaw03_Ints_s.f t104 (([1, (-1), 5] : List Int))).bind fun t112 => (some t112)) else (some false)) else (some false))) = some r := H
 have A1 := Aside0.mk A10
 clear A10
 replace H := Option.bind_eq_some_iff.mp H
 obtain ⟨t108, A20, H⟩ := H
 replace H : (if t108 = true then (if t105 = 0 then ((agatelaw03_Ints_s.f t104 (([1, (-1), 5] : List Int))).bind fun t112 => (some t112)) else (some false)) else (some false)) = some r := H
 have A2 := Aside0.mk A20
 clear A20
 by_cases c3 : t108 = true
 ·
  subst c3
  have H1 : (if t105 = 0 then ((agatelaw03_Ints_s.f t104 (([1, (-1), 5] : List Int))).bind fun t112 => (some t112)) else (some false)) = some r := by rw [if_pos rfl] at H; exact H
  clear H
  have H := H1
  clear H1
  by_cases c4 : t105 = 0
  ·
   rw [if_pos c4] at H
   have c4b0 : (t105 == 0) = true := beq_iff_eq.mpr c4
   have c4b1 : (t105 != 0) = false := bne_eq_false_iff_eq.mpr c4
   clear c4
   obtain ⟨y109, hy109⟩ : ∃ y_ : List Int, y_ = (([1, (-1), 5] : List Int)) := ⟨_, rfl⟩
   replace H : ((agatelaw03_Ints_s.f t104 y109).bind fun t112 => (some t112)) = some r := by first | (rw [hy109]; with_reducible exact H) | (have H2_ := (Option.bind_some _ _).symm.trans H; rw [hy109]; with_reducible exact H2_) | (have H2_ := (Option.bind_some _ _).symm.trans H; with_reducible exact H2_) | with_reducible exact H | (rw [hy109]; exact H) | exact H
   have Ny109 := Aside0.mk hy109
   clear hy109
   replace H := Option.bind_eq_some_iff.mp H
   obtain ⟨t112, A50, H⟩ := H
   replace H : (some t112) = some r := H
   have A5 := Aside0.mk A50
   clear A50
   obtain rfl := Option.some.inj H
   go_enter Tryz.func18, Tryz.ntmps18
   go_wp2_with (first | ((with_reducible refine gate_dst (N := 6) rfl ?_); (try (refine gate_guard (by rfl) ?_; dsimp only)); refine Kd.R_lit k95 _ 95 ?hg (N := 6) ?hd (xs := ([(⟨1, 2, 0, (⟨#[1, 255, 255, 255, 255, 255, 255, 255, 255, 255, 1]⟩ : ByteArray)⟩ : S95), (⟨1, 0, 5, (⟨#[]⟩ : ByteArray)⟩ : S95)] : List (S95))) (inner := [.int .i64 1, .int .i64 2, .int .u64 0, .string (⟨#[1, 255, 255, 255, 255, 255, 255, 255, 255, 255, 1]⟩ : ByteArray), .int .i64 1, .int .i64 0, .int .u64 5, .string (⟨#[]⟩ : ByteArray)]) (ok := fun _ => True) (okp := fun _ => True) ?hr ?hp (fun _ hk => hk) trivial (Below.refl _ _) (Nat.le_refl _) (by simp) ?_; (case hd => rfl); (case hg => rfl); (case hr => first | (go_simp; done) | (go_simp; rfl)); (case hp => exact (Reps.c4 (show Kd.M k95 _ _ _ (⟨1, 2, 0, (⟨#[1, 255, 255, 255, 255, 255, 255, 255, 255, 255, 1]⟩ : ByteArray)⟩ : S95) [.int .i64 1, .int .i64 2, .int .u64 0, .string (⟨#[1, 255, 255, 255, 255, 255, 255, 255, 255, 255, 1]⟩ : ByteArray)] from (k95_mkM _ _ _ (⟨1, 2, 0, (⟨#[1, 255, 255, 255, 255, 255, 255, 255, 255, 255, 1]⟩ : ByteArray)⟩ : S95) )) (Reps.c4 (show Kd.M k95 _ _ _ (⟨1, 0, 5, (⟨#[]⟩ : ByteArray)⟩ : S95) [.int .i64 1, .int .i64 0, .int .u64 5, .string (⟨#[]⟩ : ByteArray)] from (k95_mkM _ _ _ (⟨1, 0, 5, (⟨#[]⟩ : ByteArray)⟩ : S95) )) (Reps.none _ _)))); intro v102 w6 ho7 hb hg_ hnew_; clear hg_ hnew_; (first | rw [← Ny101.out] at ho7 | (simp only [Int.reduceToNat] at ho7; rw [← Ny101.out] at ho7)); have n0_ := Aside0.mk (Kd.R_lower ho7 (below_size (hbA HB))); have n1_ := Aside0.mk (below_step (hbA HB) hb); clear HB; have HO103 := n0_; have HB := n1_; clear n0_ n1_; clear hb ho7; obtain ⟨Ao8, co8, eo8⟩ := Kd.R_slice HO103.out; subst eo8) | ((with_reducible refine gate_callee (f := 45) rfl ?_); refine goesL_ (some 7) rfl rfl Tryz.func45 (by kernel_rfl) rfl #[.slice Ao8 y101.length co8, .int .i64 1] rfl (by (try simp only [List.map_toArray, List.map_cons, List.map_nil]); first | done | rfl | (simp only [List.length_drop, List.length_take]; rfl)) ?_; (with_reducible refine (pack_Ints_s.calls _ _ y101 1 t104 t105 _ ?side1 ?side2 A1.out).mono ?_); (case side1 => repeat (first | exact (Kd.R_reads' HO103.out).2.2 | (with_reducible refine Kd.C_alloc ?_ _) | (with_reducible refine Kd.C_drewN ?_ _) | (with_reducible refine Kd.C_drew ?_))); (case side2 => exact (Kd.R_reads' HO103.out).2.1); rintro e w9 ⟨v106, rfl, ho0, hb⟩; refine ⟨_, rfl, ?_⟩; have n0_ := Aside0.mk (Kd.R_below (krA HO103) hb); have n1_ := Aside0.mk (Kd.R_lower ho0 (below_size (hbA HB))); have n2_ := Aside0.mk (below_step (hbA HB) hb); clear HO103; clear HB; have HO103 := n0_; have HO107 := n1_; have HB := n2_; clear n0_ n1_ n2_; (try clear hb); (try clear hb2); (try clear hk); (try clear hi); (try clear ho0)) | ((with_reducible refine gate_callee (f := 46) rfl ?_); refine goesL_ (some 10) rfl rfl Tryz.func46 (by kernel_rfl) rfl #[] rfl (by (try simp only [List.map_toArray, List.map_cons, List.map_nil]); first | done | rfl | (simp only [List.length_drop, List.length_take]; rfl)) ?_; (with_reducible refine (agatelaw02_Awake_s.calls  true _ A2.out).mono ?_); rintro e w10 ⟨rfl, hb⟩; refine ⟨_, rfl, ?_⟩; have n0_ := Aside0.mk (Kd.R_below (krA HO103) hb); have n1_ := Aside0.mk (Kd.R_below (krA HO107) hb); have n2_ := Aside0.mk (below_step (hbA HB) hb); clear HO103; clear HO107; clear HB; have HO103 := n0_; have HO107 := n1_; have HB := n2_; clear n0_ n1_ n2_; (try clear hb); (try clear hb2); (try clear hk); (try clear hi)) | ((with_reducible refine gate_dst (N := 17) rfl ?_); (try (refine gate_guard (by rfl) ?_; dsimp only)); refine Kd.R_lit (Kd.int .i64) _ 2 ?hg (N := 17) ?hd (xs := ([1, (-1), 5] : List Int)) (inner := [.int .i64 1, .int .i64 (-1), .int .i64 5]) (ok := fun _ => True) (okp := fun _ => True) ?hr ?hp (fun _ hk => hk) trivial (Below.refl _ _) (Nat.le_refl _) (by simp) ?_; (case hd => rfl); (case hg => rfl); (case hr => first | (go_simp; done) | (go_simp; rfl)); (case hp => exact (Reps.one (show Kd.M (Kd.int .i64) _ _ _ 1 [.int .i64 1] from rfl) (Reps.one (show Kd.M (Kd.int .i64) _ _ _ (-1) [.int .i64 (-1)] from rfl) (Reps.one (show Kd.M (Kd.int .i64) _ _ _ 5 [.int .i64 5] from rfl) (Reps.none _ _))))); intro v110 w11 ho12 hb hg_ hnew_; clear hg_ hnew_; (first | rw [← Ny109.out] at ho12 | (simp only [Int.reduceToNat] at ho12; rw [← Ny109.out] at ho12)); have n0_ := Aside0.mk (Kd.R_below (krA HO103) hb); have n1_ := Aside0.mk (Kd.R_elder' (krA HO107) (Kd.R_base ho12) hb); have n2_ := Aside0.mk (Kd.R_lower (Kd.R_new' ho12 (Kd.R_lt (krA HO107))) (below_size (hbA HB))); have n3_ := Aside0.mk (below_step (hbA HB) hb); clear HO103; clear HO107; clear HB; have HO103 := n0_; have HO107 := n1_; have HO111 := n2_; have HB := n3_; clear n0_ n1_ n2_ n3_; clear hb ho12; obtain ⟨Ao13, co13, eo13⟩ := Kd.R_slice HO107.out; subst eo13; obtain ⟨Ao14, co14, eo14⟩ := Kd.R_slice HO111.out; subst eo14) | (go_at_call 47; (with_reducible refine (agatelaw03_Ints_s.calls _ _ t104 _ _ y109 t112 _ ?side1 ?side2 ?side3 ?side4 A5.out).mono ?_); (case side1 => repeat (first | exact (Kd.R_reads' HO107.out).2.2 | (with_reducible refine Kd.C_alloc ?_ _) | (with_reducible refine Kd.C_drewN ?_ _) | (with_reducible refine Kd.C_drew ?_))); (case side2 => exact (Kd.R_reads' HO107.out).2.1); (case side3 => repeat (first | exact (Kd.R_reads' HO111.out).2.2 | (with_reducible refine Kd.C_alloc ?_ _) | (with_reducible refine Kd.C_drewN ?_ _) | (with_reducible refine Kd.C_drew ?_))); (case side4 => exact (Kd.R_reads' HO111.out).2.1); rintro e w' ⟨rfl, ⟨nd, rfl⟩⟩))
   go_ret
   exact ⟨by first | rfl | (simp [errW_none, errW_some] <;> rfl) | (simp [*, errW_none, errW_some] <;> rfl), hbA HB⟩
  ·
   rw [if_neg c4] at H
   have c4b0 : (t105 == 0) = false := beq_eq_false_iff_ne.mpr c4
   have c4b1 : (t105 != 0) = true := bne_iff_ne.mpr c4
   obtain rfl := Option.some.inj H
   go_enter Tryz.func18, Tryz.ntmps18
   go_wp2_with (first | ((with_reducible refine gate_dst (N := 6) rfl ?_); (try (refine gate_guard (by rfl) ?_; dsimp only)); refine Kd.R_lit k95 _ 95 ?hg (N := 6) ?hd (xs := ([(⟨1, 2, 0, (⟨#[1, 255, 255, 255, 255, 255, 255, 255, 255, 255, 1]⟩ : ByteArray)⟩ : S95), (⟨1, 0, 5, (⟨#[]⟩ : ByteArray)⟩ : S95)] : List (S95))) (inner := [.int .i64 1, .int .i64 2, .int .u64 0, .string (⟨#[1, 255, 255, 255, 255, 255, 255, 255, 255, 255, 1]⟩ : ByteArray), .int .i64 1, .int .i64 0, .int .u64 5, .string (⟨#[]⟩ : ByteArray)]) (ok := fun _ => True) (okp := fun _ => True) ?hr ?hp (fun _ hk => hk) trivial (Below.refl _ _) (Nat.le_refl _) (by simp) ?_; (case hd => rfl); (case hg => rfl); (case hr => first | (go_simp; done) | (go_simp; rfl)); (case hp => exact (Reps.c4 (show Kd.M k95 _ _ _ (⟨1, 2, 0, (⟨#[1, 255, 255, 255, 255, 255, 255, 255, 255, 255, 1]⟩ : ByteArray)⟩ : S95) [.int .i64 1, .int .i64 2, .int .u64 0, .string (⟨#[1, 255, 255, 255, 255, 255, 255, 255, 255, 255, 1]⟩ : ByteArray)] from (k95_mkM _ _ _ (⟨1, 2, 0, (⟨#[1, 255, 255, 255, 255, 255, 255, 255, 255, 255, 1]⟩ : ByteArray)⟩ : S95) )) (Reps.c4 (show Kd.M k95 _ _ _ (⟨1, 0, 5, (⟨#[]⟩ : ByteArray)⟩ : S95) [.int .i64 1, .int .i64 0, .int .u64 5, .string (⟨#[]⟩ : ByteArray)] from (k95_mkM _ _ _ (⟨1, 0, 5, (⟨#[]⟩ : ByteArray)⟩ : S95) )) (Reps.none _ _)))); intro v102 w15 ho16 hb hg_ hnew_; clear hg_ hnew_; (first | rw [← Ny101.out] at ho16 | (simp only [Int.reduceToNat] at ho16; rw [← Ny101.out] at ho16)); have n0_ := Aside0.mk (Kd.R_lower ho16 (below_size (hbA HB))); have n1_ := Aside0.mk (below_step (hbA HB) hb); clear HB; have HO103 := n0_; have HB := n1_; clear n0_ n1_; clear hb ho16; obtain ⟨Ao17, co17, eo17⟩ := Kd.R_slice HO103.out; subst eo17) | ((with_reducible refine gate_callee (f := 45) rfl ?_); refine goesL_ (some 7) rfl rfl Tryz.func45 (by kernel_rfl) rfl #[.slice Ao17 y101.length co17, .int .i64 1] rfl (by (try simp only [List.map_toArray, List.map_cons, List.map_nil]); first | done | rfl | (simp only [List.length_drop, List.length_take]; rfl)) ?_; (with_reducible refine (pack_Ints_s.calls _ _ y101 1 t104 t105 _ ?side1 ?side2 A1.out).mono ?_); (case side1 => repeat (first | exact (Kd.R_reads' HO103.out).2.2 | (with_reducible refine Kd.C_alloc ?_ _) | (with_reducible refine Kd.C_drewN ?_ _) | (with_reducible refine Kd.C_drew ?_))); (case side2 => exact (Kd.R_reads' HO103.out).2.1); rintro e w18 ⟨v106, rfl, ho0, hb⟩; refine ⟨_, rfl, ?_⟩; have n0_ := Aside0.mk (Kd.R_below (krA HO103) hb); have n1_ := Aside0.mk (Kd.R_lower ho0 (below_size (hbA HB))); have n2_ := Aside0.mk (below_step (hbA HB) hb); clear HO103; clear HB; have HO103 := n0_; have HO107 := n1_; have HB := n2_; clear n0_ n1_ n2_; (try clear hb); (try clear hb2); (try clear hk); (try clear hi); (try clear ho0)) | ((with_reducible refine gate_callee (f := 46) rfl ?_); refine goesL_ (some 10) rfl rfl Tryz.func46 (by kernel_rfl) rfl #[] rfl (by (try simp only [List.map_toArray, List.map_cons, List.map_nil]); first | done | rfl | (simp only [List.length_drop, List.length_take]; rfl)) ?_; (with_reducible refine (agatelaw02_Awake_s.calls  true _ A2.out).mono ?_); rintro e w19 ⟨rfl, hb⟩; refine ⟨_, rfl, ?_⟩; have n0_ := Aside0.mk (Kd.R_below (krA HO103) hb); have n1_ := Aside0.mk (Kd.R_below (krA HO107) hb); have n2_ := Aside0.mk (below_step (hbA HB) hb); clear HO103; clear HO107; clear HB; have HO103 := n0_; have HO107 := n1_; have HB := n2_; clear n0_ n1_ n2_; (try clear hb); (try clear hb2); (try clear hk); (try clear hi)))
   go_ret
   exact ⟨by first | rfl | (simp [errW_none, errW_some] <;> rfl) | (simp [*, errW_none, errW_some] <;> rfl), hbA HB⟩
 ·
  replace c3 := Bool.eq_false_iff.mpr c3
  subst c3
  have H1 : (some false) = some r := by rw [if_neg (show ¬ (false = true) by decide)] at H; exact H
  clear H
  have H := H1
  clear H1
  obtain rfl := Option.some.inj H
  go_enter Tryz.func18, Tryz.ntmps18
  go_wp2_with (first | ((with_reducible refine gate_dst (N := 6) rfl ?_); (try (refine gate_guard (by rfl) ?_; dsimp only)); refine Kd.R_lit k95 _ 95 ?hg (N := 6) ?hd (xs := ([(⟨1, 2, 0, (⟨#[1, 255, 255, 255, 255, 255, 255, 255, 255, 255, 1]⟩ : ByteArray)⟩ : S95), (⟨1, 0, 5, (⟨#[]⟩ : ByteArray)⟩ : S95)] : List (S95))) (inner := [.int .i64 1, .int .i64 2, .int .u64 0, .string (⟨#[1, 255, 255, 255, 255, 255, 255, 255, 255, 255, 1]⟩ : ByteArray), .int .i64 1, .int .i64 0, .int .u64 5, .string (⟨#[]⟩ : ByteArray)]) (ok := fun _ => True) (okp := fun _ => True) ?hr ?hp (fun _ hk => hk) trivial (Below.refl _ _) (Nat.le_refl _) (by simp) ?_; (case hd => rfl); (case hg => rfl); (case hr => first | (go_simp; done) | (go_simp; rfl)); (case hp => exact (Reps.c4 (show Kd.M k95 _ _ _ (⟨1, 2, 0, (⟨#[1, 255, 255, 255, 255, 255, 255, 255, 255, 255, 1]⟩ : ByteArray)⟩ : S95) [.int .i64 1, .int .i64 2, .int .u64 0, .string (⟨#[1, 255, 255, 255, 255, 255, 255, 255, 255, 255, 1]⟩ : ByteArray)] from (k95_mkM _ _ _ (⟨1, 2, 0, (⟨#[1, 255, 255, 255, 255, 255, 255, 255, 255, 255, 1]⟩ : ByteArray)⟩ : S95) )) (Reps.c4 (show Kd.M k95 _ _ _ (⟨1, 0, 5, (⟨#[]⟩ : ByteArray)⟩ : S95) [.int .i64 1, .int .i64 0, .int .u64 5, .string (⟨#[]⟩ : ByteArray)] from (k95_mkM _ _ _ (⟨1, 0, 5, (⟨#[]⟩ : ByteArray)⟩ : S95) )) (Reps.none _ _)))); intro v102 w20 ho21 hb hg_ hnew_; clear hg_ hnew_; (first | rw [← Ny101.out] at ho21 | (simp only [Int.reduceToNat] at ho21; rw [← Ny101.out] at ho21)); have n0_ := Aside0.mk (Kd.R_lower ho21 (below_size (hbA HB))); have n1_ := Aside0.mk (below_step (hbA HB) hb); clear HB; have HO103 := n0_; have HB := n1_; clear n0_ n1_; clear hb ho21; obtain ⟨Ao22, co22, eo22⟩ := Kd.R_slice HO103.out; subst eo22) | ((with_reducible refine gate_callee (f := 45) rfl ?_); refine goesL_ (some 7) rfl rfl Tryz.func45 (by kernel_rfl) rfl #[.slice Ao22 y101.length co22, .int .i64 1] rfl (by (try simp only [List.map_toArray, List.map_cons, List.map_nil]); first | done | rfl | (simp only [List.length_drop, List.length_take]; rfl)) ?_; (with_reducible refine (pack_Ints_s.calls _ _ y101 1 t104 t105 _ ?side1 ?side2 A1.out).mono ?_); (case side1 => repeat (first | exact (Kd.R_reads' HO103.out).2.2 | (with_reducible refine Kd.C_alloc ?_ _) | (with_reducible refine Kd.C_drewN ?_ _) | (with_reducible refine Kd.C_drew ?_))); (case side2 => exact (Kd.R_reads' HO103.out).2.1); rintro e w23 ⟨v106, rfl, ho0, hb⟩; refine ⟨_, rfl, ?_⟩; have n0_ := Aside0.mk (Kd.R_below (krA HO103) hb); have n1_ := Aside0.mk (Kd.R_lower ho0 (below_size (hbA HB))); have n2_ := Aside0.mk (below_step (hbA HB) hb); clear HO103; clear HB; have HO103 := n0_; have HO107 := n1_; have HB := n2_; clear n0_ n1_ n2_; (try clear hb); (try clear hb2); (try clear hk); (try clear hi); (try clear ho0)) | ((with_reducible refine gate_callee (f := 46) rfl ?_); refine goesL_ (some 10) rfl rfl Tryz.func46 (by kernel_rfl) rfl #[] rfl (by (try simp only [List.map_toArray, List.map_cons, List.map_nil]); first | done | rfl | (simp only [List.length_drop, List.length_take]; rfl)) ?_; (with_reducible refine (agatelaw02_Awake_s.calls  false _ A2.out).mono ?_); rintro e w24 ⟨rfl, hb⟩; refine ⟨_, rfl, ?_⟩; have n0_ := Aside0.mk (Kd.R_below (krA HO103) hb); have n1_ := Aside0.mk (Kd.R_below (krA HO107) hb); have n2_ := Aside0.mk (below_step (hbA HB) hb); clear HO103; clear HO107; clear HB; have HO103 := n0_; have HO107 := n1_; have HB := n2_; clear n0_ n1_ n2_; (try clear hb); (try clear hb2); (try clear hk); (try clear hi)))
  go_ret
  exact ⟨by first | rfl | (simp [errW_none, errW_some] <;> rfl) | (simp [*, errW_none, errW_some] <;> rfl), hbA HB⟩
def agatelaw03_Awake_s.f : Option Bool := some true
theorem awake03_packed : packedF 11 [] ⟨#[1, 255, 255, 255, 255, 255, 255, 255, 255, 255, 1]⟩ = ([1, -1], 0) := by
  have e1 : vRead ⟨#[1, 255, 255, 255, 255, 255, 255, 255, 255, 255, 1]⟩ = (1, 1, 0) := by decide
  have e2 : ByteArray.extract ⟨#[1, 255, 255, 255, 255, 255, 255, 255, 255, 255, 1]⟩ 1 (ByteArray.size ⟨#[1, 255, 255, 255, 255, 255, 255, 255, 255, 255, 1]⟩) = ⟨#[255, 255, 255, 255, 255, 255, 255, 255, 255, 1]⟩ := by decide
  have e3 : vRead ⟨#[255, 255, 255, 255, 255, 255, 255, 255, 255, 1]⟩ = (18446744073709551615, 10, 0) := by decide
  have e4 : ByteArray.extract ⟨#[255, 255, 255, 255, 255, 255, 255, 255, 255, 1]⟩ 10 (ByteArray.size ⟨#[255, 255, 255, 255, 255, 255, 255, 255, 255, 1]⟩) = ⟨#[]⟩ := by decide
  have w1 : wrap64 1 = 1 := wrap64_id (by decide) (by decide)
  have w2 : wrap64 18446744073709551615 = -1 := by unfold wrap64; decide
  rw [packedF, if_neg (by decide), e1]
  rw [if_neg (by simp), if_neg (by simp)]
  simp only [e2]
  rw [packedF, if_neg (by decide), e3]
  rw [if_neg (by simp), if_neg (by simp)]
  simp only [e4]
  rw [packedF, if_pos (by decide)]
  show ([] ++ [wrap64 1] ++ [wrap64 18446744073709551615], 0) = _
  rw [w1, w2]; rfl
theorem agatelaw03_Awake_s.ev (r) (h : agatelaw03_Awake_s.f = some r) : ∃ k : Nat, agatelaw03_Awake.f = some r := by
  refine ⟨0, ?_⟩
  rw [← h]
  unfold agatelaw03_Awake.f agatelaw03_Awake_s.f
  have w5 : wrap64 5 = 5 := wrap64_id (by decide) (by decide)
  have e1 : pack_Ints_s.f [(⟨1, 2, 0, ⟨#[1, 255, 255, 255, 255, 255, 255, 255, 255, 255, 1]⟩⟩ : S95), ⟨1, 0, 5, ⟨#[]⟩⟩] 1 = some ([1, -1, 5], 0) := by
    unfold pack_Ints_s.f
    rw [if_pos ⟨by decide, by simp; decide⟩]
    have : intsL (([(⟨1, 2, 0, ⟨#[1, 255, 255, 255, 255, 255, 255, 255, 255, 255, 1]⟩⟩ : S95), ⟨1, 0, 5, ⟨#[]⟩⟩].filter fun x => x.f0 == 1).map flP) [] = ([1, -1, 5], 0) := by
      show intsL [(1, 2, 0, ⟨#[1, 255, 255, 255, 255, 255, 255, 255, 255, 255, 1]⟩), (1, 0, 5, ⟨#[]⟩)] [] = _
      rw [intsL, if_neg (by decide), if_pos rfl]
      show (if (packedF 11 [] ⟨#[1, 255, 255, 255, 255, 255, 255, 255, 255, 255, 1]⟩).2 ≠ 0 then _ else intsL _ (packedF 11 [] ⟨#[1, 255, 255, 255, 255, 255, 255, 255, 255, 255, 1]⟩).1) = _
      rw [awake03_packed, if_neg (by simp), intsL, if_pos rfl, if_neg (by simp), intsL]
      show ([1, -1] ++ [wrap64 5], 0) = _
      rw [w5]; rfl
    rw [this]; rfl
  rw [e1]
  simp only [Option.bind_some, agatelaw02_Awake_s.f, if_true]
  unfold agatelaw03_Ints_s.f
  rw [if_pos (by decide)]
  rfl
set_option maxHeartbeats 1000000 in
theorem agatelaw03_Awake_s.calls  (r : Bool) (w : World) (h : agatelaw03_Awake_s.f  = some r) :
    Calls Tryz.prog 18 #[] w fun e w' => e = .returned (.bool r) ∧ Below w.heap.size w w' := by
  obtain ⟨k, hk⟩ := agatelaw03_Awake_s.ev  _ h
  exact agatelaw03_Awake.calls r w hk
theorem key_lit (s : ByteArray) (b : Bool) (h : keyB s = b) (hs : s.size ≤ 140737488351232) (w : World) : Calls Tryz.prog 41 #[.string s] w fun e w' => e = .returned (.bool b) ∧ Below w.heap.size w w' := by
  rw [← h]; exact Key_any s hs w
theorem kb1 : keyB ⟨#[119, 47, 97, 46, 98, 105, 110]⟩ = true := by kernel_rfl
theorem kb2 : keyB ⟨#[46, 46, 47, 97]⟩ = false := by kernel_rfl
theorem kb3 : keyB ⟨#[47, 97]⟩ = false := by kernel_rfl
theorem kb4 : keyB ⟨#[97, 47, 47, 98]⟩ = false := by kernel_rfl
set_option maxHeartbeats 4000000 in
set_option maxRecDepth 100000 in
theorem Awake08_any (w : World) : Calls Tryz.prog 20 #[] w fun e w' => e = .returned (.bool true) ∧ Below w.heap.size w w' := by
  have HB := Aside0.mk (Below.refl w.heap.size w)
  go_enter Tryz.func20, Tryz.ntmps20
  go_wp2_with (first | fail)
  refine (key_lit _ _ kb1 (by decide) _).mono ?_
  rintro e w1 ⟨rfl, hb⟩
  replace HB := hbS HB hb
  clear hb
  go_wp2_with (first | fail)
  refine (key_lit _ _ kb2 (by decide) _).mono ?_
  rintro e w2 ⟨rfl, hb⟩
  replace HB := hbS HB hb
  clear hb
  go_wp2_with (first | fail)
  refine (key_lit _ _ kb3 (by decide) _).mono ?_
  rintro e w3 ⟨rfl, hb⟩
  replace HB := hbS HB hb
  clear hb
  go_wp2_with (first | fail)
  refine (key_lit _ _ kb4 (by decide) _).mono ?_
  rintro e w4 ⟨rfl, hb⟩
  replace HB := hbS HB hb
  clear hb
  go_wp2
  go_ret
  exact ⟨rfl, HB.out⟩
theorem awake09_put : pbtensor_Put.f ⟨#[97]⟩ 7 [1] (catLaid [5]) = some (⟨#[10, 1, 1, 16, 7, 66, 1, 97, 74, 8, 5, 0, 0, 0, 0, 0, 0, 0]⟩, 0) := by decide +kernel
set_option maxHeartbeats 4000000 in
set_option maxRecDepth 100000 in
theorem Awake09_any (w : World) : Calls Tryz.prog 6 #[] w fun e w' => e = .returned (.bool true) ∧ Below w.heap.size w w' := by
  go_enter Tryz.func6, Tryz.ntmps6
  go_wp2_with (first | fail)
  have hb0 : ((w.alloc (Obj.cells #[Value.int IntKind.i64 1] 2)).alloc (Obj.cells #[Value.int IntKind.i64 5] 2)).heap[w.heap.size]? = some (Obj.cells #[Value.int IntKind.i64 1] 2) := blk_alloc (blk_new w _) _
  have hb1 : ((w.alloc (Obj.cells #[Value.int IntKind.i64 1] 2)).alloc (Obj.cells #[Value.int IntKind.i64 5] 2)).heap[w.heap.size + 1]? = some (Obj.cells #[Value.int IntKind.i64 5] 2) := by
    have h := blk_new (w.alloc (Obj.cells #[Value.int IntKind.i64 1] 2)) (Obj.cells #[Value.int IntKind.i64 5] 2)
    rw [alloc_size] at h; exact h
  have r0 : Kd.C (Kd.int .i64) ((w.alloc (Obj.cells #[Value.int IntKind.i64 1] 2)).alloc (Obj.cells #[Value.int IntKind.i64 5] 2)) (some ⟨w.heap.size, 0, none⟩) ([1] : List Int).length [1] := Kd.C_of_reads (d := (0 : Int)) (h1 := fun _ => rfl) ⟨rfl, by decide, fun _ => ⟨_, rfl, fun j hj => by
    have hj0 : j = 0 := by simp at hj; omega
    subst hj0
    exact (blk_cell hb0 0).trans rfl⟩⟩
  have r1 : Kd.C (Kd.int .i64) ((w.alloc (Obj.cells #[Value.int IntKind.i64 1] 2)).alloc (Obj.cells #[Value.int IntKind.i64 5] 2)) (some ⟨w.heap.size + 1, 0, none⟩) ([5] : List Int).length [5] := Kd.C_of_reads (d := (0 : Int)) (h1 := fun _ => rfl) ⟨rfl, by decide, fun _ => ⟨_, rfl, fun j hj => by
    have hj0 : j = 0 := by simp at hj; omega
    subst hj0
    exact (blk_cell hb1 0).trans rfl⟩⟩
  have HB := Aside0.mk (below_alloc (below_alloc (Below.refl w.heap.size w) (Obj.cells #[Value.int IntKind.i64 1] 2)) (Obj.cells #[Value.int IntKind.i64 5] 2))
  clear hb0 hb1
  refine (tensor_OfInts0.calls ⟨#[97]⟩ _ 1 [1] _ 1 [5] _ r0 (Nat.le_refl _) r1 (Nat.le_refl _) (by decide) (by decide) (by simp)).mono ?_
  rintro e w1 ⟨v2, rfl, hR, hb⟩
  obtain ⟨A2, cp2, rfl⟩ := Kd.R_slice hR
  replace HB := hbS HB hb
  have HC := mk0 (Kd.R_reads' hR).2
  clear hb hR r0 r1
  go_wp2_with (first | fail)
  refine (pbtensor_Put.calls ⟨#[97]⟩ 7 A2 cp2 [1] _ _ _ _ HC.out.2 HC.out.1 awake09_put).mono ?_
  rintro e w2 ⟨rfl, hb⟩
  replace HB := hbS HB hb
  clear hb HC
  go_wp2_with (first | fail)
  refine (agatelaw03_Awake_s.calls true _ rfl).mono ?_
  rintro e w3 ⟨rfl, hb⟩
  replace HB := hbS HB hb
  clear hb
  go_wp2_with (first | fail)
  refine (agatelaw07_Awake.calls true _ rfl).mono ?_
  rintro e w4 ⟨rfl, hb⟩
  replace HB := hbS HB hb
  clear hb
  go_wp2_with (first | fail)
  refine (Awake08_any _).mono ?_
  rintro e w5 ⟨rfl, hb⟩
  replace HB := hbS HB hb
  clear hb
  go_wp2
  go_ret
  exact ⟨rfl, HB.out⟩
theorem nle5 {g : Nat} {w : World} (h : g = w.heap.size) : Aside0 (w.heap.size ≤ g) := ⟨Nat.le_of_eq h.symm⟩
theorem fFar4 {α : Type} {e : Kd α} {n g : Nat} {ok : Nat → Prop} {W : World} {A : Option Addr} {xs : List α} {a b c d : Value} (h : Kd.F e W ok A n xs) (hok : ∀ k, ok k → k ≠ g) : Kd.F e ((((W.setCell ⟨g, 0, none⟩ a).setCell ⟨g, 1, none⟩ b).setCell ⟨g, 2, none⟩ c).setCell ⟨g, 3, none⟩ d) ok A n xs :=
  Kd.F_far (Kd.F_far (Kd.F_far (Kd.F_far h (p := ⟨g, 0, none⟩) hok a) (p := ⟨g, 1, none⟩) hok b) (p := ⟨g, 2, none⟩) hok c) (p := ⟨g, 3, none⟩) hok d
def TkLaw (w : World) (e : Ending) (w' : World) : Prop := e = .returned (.bool true) ∧ Below w.heap.size w w'
structure TvR (w w' : World) (g8 g12 : Nat) (a : ByteArray) (k : Int) (d : List Int) (x : ByteArray) (A5 : Option Addr) (c5 : Nat) (A10 : Option Addr) (c10 : Nat) : Prop where
  b : Below w.heap.size w w'
  m : w'.heap[g8]? = some (.cells #[.string a, .int .i64 k, .slice A5 d.length c5, .string x] 38 (0, 0))
  u : w'.heap[g12]? = some (.cells #[.string a, .int .i64 k, .slice A10 d.length c10, .string x] 33 (0, 0))
  l5 : d.length ≤ c5
  l10 : d.length ≤ c10
  r5 : Kd.F (Kd.int .i64) w' (fun _ => True) A5 d.length d
  r10 : Kd.F (Kd.int .i64) w' (fun _ => True) A10 d.length d
theorem TvR.step {w w' V : World} {g8 g12 : Nat} {a : ByteArray} {k : Int} {d : List Int} {x : ByteArray} {A5 : Option Addr} {c5 : Nat} {A10 : Option Addr} {c10 : Nat} (h : TvR w w' g8 g12 a k d x A5 c5 A10 c10) (hB : Below w'.heap.size w' V) : TvR w V g8 g12 a k d x A5 c5 A10 c10 :=
  ⟨below_step h.b hB, blk_below h.m hB, blk_below h.u hB, h.l5, h.l10, F_below h.r5 hB, F_below h.r10 hB⟩
theorem TvR.drew {w w' : World} {g8 g12 : Nat} {a : ByteArray} {k : Int} {d : List Int} {x : ByteArray} {A5 : Option Addr} {c5 : Nat} {A10 : Option Addr} {c10 : Nat} (h : TvR w w' g8 g12 a k d x A5 c5 A10 c10) : TvR w w'.drew g8 g12 a k d x A5 c5 A10 c10 :=
  ⟨below_drew1 h.b, blk_drew h.m, blk_drew h.u, h.l5, h.l10, Kd.F_drew h.r5, Kd.F_drew h.r10⟩
def tkv.T12 : Bool × List (List Nat × List Nat) := (true, [([], []), ([0, 0], [0]), ([1], [1]), ([1], [1]), ([3, 1, 1], [1, 3]), ([2, 4, 1], [1, 2, 4]), ([1, 5], [1, 5]), ([6, 4], [6]), ([7], [7]), ([8, 7], [7, 8]), ([7, 9], [7, 9]), ([10, 7], [10]), ([11], [11]), ([12, 11, 11], [11, 12]), ([11], [11]), ([13, 14, 13, 11], [11, 13, 14]), ([11, 15], [11, 15]), ([16, 15, 0, 1, 2, 3, 4, 5, 6, 7, 8, 9, 10, 11, 12, 13, 14, 15, 16], [16])])
def tkv.B12 : List Nat := [0, 1, 3, 3, 11, 31, 63, 127, 255, 511, 1023, 2047, 4095, 8191, 4095, 32767, 65535, 131071]
theorem tkv.tab12 : rtab .any (opsOf Tryz.f4 12) = tkv.T12 := by kernel_rfl
theorem tkv.bits12 : waitsOk tkv.T12.2 tkv.B12 = true := by kernel_rfl
set_option maxHeartbeats 4000000 in
set_option maxRecDepth 100000 in
theorem tkLaw (nm : ByteArray) (k : Int) (A1 : Option Addr) (c1 : Nat) (d : List Int) (x : ByteArray) (A : Option Addr) (c : Nat) (l : List S50) (w : World)
    (h1 : Kd.F (Kd.int .i64) w (fun k => k < w.heap.size) A1 d.length d) (h1c : d.length ≤ c1) (hr : Kd.C k50 w A l.length l) (hc : l.length ≤ c) (hl : l.length ≤ 4398046510976) (hs : ∀ f ∈ l, f.f0.size ≤ 140737488351232 ∧ f.f1.size ≤ 140737488351232)
    (ha : nm.size ≤ 140737488351232) (hx : x.size ≤ 140737488351232) (hd : d.length ≤ 140737488351232) (hn : ∀ n ∈ d, inRc n) :
    Calls Tryz.prog 4 #[.agg #[.string nm, .int .i64 k, .slice A1 d.length c1, .string x], .slice A l.length c] w (TkLaw w) := by
  have hu33 := Tryz.underlying33
  have hu38 := Tryz.underlying38
  have hu25 := Tryz.underlying25
  have H1 := mk0 h1
  have H1c := mk0 h1c
  have HLd := mk0 (fun w => Laid_any A c l w)
  have HR := mk0 hr
  have HP := mk0 (And.intro hc (And.intro hl hs))
  have HA := mk0 ha
  have HX := mk0 hx
  have HD := mk0 hd
  have HN := mk0 hn
  have HB := Aside0.mk (Below.refl w.heap.size w)
  have ba : nm.size ≤ 9223372036854775807 := by omega
  have bx : x.size ≤ 9223372036854775807 := by omega
  clear h1 h1c hr hc hl hs ha hx hd hn
  go_enter Tryz.func4, Tryz.ntmps4
  go_wp2_with (first | ((with_reducible refine gate_dst (N := 2) rfl ?_); refine boxE (N := 2) (cs := #[.string nm, .int .i64 k, .slice A1 d.length c1, .string x]) (t := 33) ?_; intro g2 hg w1 hbox hb; have BT := mk0 hbox; have GT := gwS HB hg; replace HB := hbS HB hb; clear hb hbox hg))
  refine (HLd.out _ (Kd.C_below HR.out HB.out) HP.out.1 HP.out.2.1 HP.out.2.2).mono ?_
  rintro e w2 ⟨m, A2, n2, c2, ok, rfl, hb, hok⟩
  have HOk := mk0 hok
  replace BT := bkS BT hb
  replace HB := hbS HB hb
  clear hb hok HLd HR HP
  cases ok with
  | false =>
    go_wp2_with (first | ((with_reducible refine gate_dst (N := 5) rfl ?_); refine boxE (N := 5) (cs := #[.map none]) (t := 25) ?_; intro g5 hg w3 hbox hb; have BS := mk0 hbox; have GS := gwS HB hg; have NTS := neS BT hg; have NST := neT BT hg; replace BT := bkS BT hb; replace HB := hbS HB hb; clear hb hbox hg; have hs0 := cz1 BS; have fs0 := fz BS 0; obtain ⟨ht0, ht1, ht2, ht3⟩ := cz4 BT; have n1 := NTS.out; have n2 := NST.out))
    refine (Awake09_any _).mono ?_
    rintro e w9 ⟨rfl, hb⟩
    replace HB := hbS HB hb
    clear hb
    go_wp2
    go_ret
    exact ⟨rfl, HB.out⟩
  | true =>
    by_cases q1 : x.size > 4000
    · have b1 : decide (4000 < (x.size : Int)) = true := decide_eq_true (by omega)
      clear q1
      go_wp2_with (first | ((with_reducible refine gate_dst (N := 5) rfl ?_); refine boxE (N := 5) (cs := #[.map none]) (t := 25) ?_; intro g5 hg w3 hbox hb; have BS := mk0 hbox; have GS := gwS HB hg; have NTS := neS BT hg; have NST := neT BT hg; replace BT := bkS BT hb; replace HB := hbS HB hb; clear hb hbox hg; have hs0 := cz1 BS; have fs0 := fz BS 0; obtain ⟨ht0, ht1, ht2, ht3⟩ := cz4 BT; have n1 := NTS.out; have n2 := NST.out))
      refine (Awake09_any _).mono ?_
      rintro e w9 ⟨rfl, hb⟩
      replace HB := hbS HB hb
      clear hb
      go_wp2
      go_ret
      exact ⟨rfl, HB.out⟩
    have b1 : decide (4000 < (x.size : Int)) = false := decide_eq_false (by omega)
    by_cases q2 : d.length > 20
    · have b2 : decide (20 < (d.length : Int)) = true := decide_eq_true (by omega)
      clear q1 q2
      go_wp2_with (first | ((with_reducible refine gate_dst (N := 5) rfl ?_); refine boxE (N := 5) (cs := #[.map none]) (t := 25) ?_; intro g5 hg w3 hbox hb; have BS := mk0 hbox; have GS := gwS HB hg; have NTS := neS BT hg; have NST := neT BT hg; replace BT := bkS BT hb; replace HB := hbS HB hb; clear hb hbox hg; have hs0 := cz1 BS; have fs0 := fz BS 0; obtain ⟨ht0, ht1, ht2, ht3⟩ := cz4 BT; have n1 := NTS.out; have n2 := NST.out))
      refine (Awake09_any _).mono ?_
      rintro e w9 ⟨rfl, hb⟩
      replace HB := hbS HB hb
      clear hb
      go_wp2
      go_ret
      exact ⟨rfl, HB.out⟩
    have b2 : decide (20 < (d.length : Int)) = false := decide_eq_false (by omega)
    by_cases q3 : nm.size > 200
    · have b3 : decide (200 < (nm.size : Int)) = true := decide_eq_true (by omega)
      clear q1 q2 q3
      go_wp2_with (first | ((with_reducible refine gate_dst (N := 5) rfl ?_); refine boxE (N := 5) (cs := #[.map none]) (t := 25) ?_; intro g5 hg w3 hbox hb; have BS := mk0 hbox; have GS := gwS HB hg; have NTS := neS BT hg; have NST := neT BT hg; replace BT := bkS BT hb; replace HB := hbS HB hb; clear hb hbox hg; have hs0 := cz1 BS; have fs0 := fz BS 0; obtain ⟨ht0, ht1, ht2, ht3⟩ := cz4 BT; have n1 := NTS.out; have n2 := NST.out))
      refine (Awake09_any _).mono ?_
      rintro e w9 ⟨rfl, hb⟩
      replace HB := hbS HB hb
      clear hb
      go_wp2
      go_ret
      exact ⟨rfl, HB.out⟩
    have b3 : decide (200 < (nm.size : Int)) = false := decide_eq_false (by omega)
    have HQ := mk0 (And.intro q1 (And.intro q2 q3))
    clear q1 q2 q3
    go_wp2_with (first | ((with_reducible refine gate_dst (N := 5) rfl ?_); refine boxE (N := 5) (cs := #[.map none]) (t := 25) ?_; intro g5 hg w3 hbox hb; have BS := mk0 hbox; have GS := gwS HB hg; have NTS := neS BT hg; have NST := neT BT hg; replace BT := bkS BT hb; replace HB := hbS HB hb; clear hb hbox hg; have hs0 := cz1 BS; have fs0 := fz BS 0; obtain ⟨ht0, ht1, ht2, ht3⟩ := cz4 BT; have n1 := NTS.out; have n2 := NST.out))
    obtain ⟨w4, hw⟩ : ∃ wb, wb = w3.setCell ⟨g5, 0, none⟩ (.map m) := ⟨_, rfl⟩
    rw [← hw]
    replace BT := mk0 (show w4.heap[g2]? = some _ from by rw [hw]; exact bkW BT)
    replace BS := mk0 (show w4.heap[g5]? = some (.cells #[.map m] 25 (0, 0)) from by rw [hw]; exact bkW BS)
    replace HB := mk0 (show Below w.heap.size w w4 from by rw [hw]; exact below_set HB.out GS.out)
    have V0 := mk0 (F_below H1.out HB.out)
    clear hw hs0 fs0 n1 n2 b1 b2 b3 ht0 ht1 ht2 ht3 NTS NST HOk
    refine (agatelaw07_Of.calls nm k (fun k => k < w.heap.size) A1 c1 d x nm k d x w4 (Kd.V_mk H1c.out V0.out) rfl).mono ?_
    rintro e w5 ⟨v2, rfl, q, hb⟩
    obtain ⟨A5, c5, rfl⟩ := Kd.V_slice q
    have V1c := mk0 (Kd.V_reads' q).2.1
    have V1 := mk0 (Kd.F_bound (Kd.V_F q))
    replace BT := bkS BT hb
    replace BS := bkS BS hb
    replace HB := hbS HB hb
    clear hb q
    go_wp2_with (first | ((with_reducible refine gate_dst (N := 8) rfl ?_); refine boxE (N := 8) (cs := #[.string (⟨#[]⟩ : ByteArray), .int .i64 0, .slice none 0 0, .string (⟨#[]⟩ : ByteArray)]) (t := 38) ?_; intro g8 hg w6 hbox hb; have BM := mk0 hbox; have GM := gwS HB hg; have NTM := neS BT hg; have NMT := neT BT hg; have NSM := neS BS hg; have NMS := neT BS hg; have G6 := nle5 hg; replace BT := bkS BT hb; replace BS := bkS BS hb; replace V1 := mk0 (Kd.F_below V1.out hb); replace HB := hbS HB hb; clear hb hbox hg; obtain ⟨hm0, hm1, hm2, hm3⟩ := cz4 BM; have fm0 := fz BM 0; have fm1 := fz BM 1; have fm2 := fz BM 2; have fm3 := fz BM 3))
    obtain ⟨w7, hw⟩ : ∃ wb, wb = (((w6.setCell ⟨g8, 0, none⟩ (.string nm)).setCell ⟨g8, 1, none⟩ (.int .i64 k)).setCell ⟨g8, 2, none⟩ (.slice A5 d.length c5)).setCell ⟨g8, 3, none⟩ (.string x) := ⟨_, rfl⟩
    rw [← hw]
    replace BT := mk0 (show w7.heap[g2]? = some _ from by rw [hw]; exact bkW BT)
    replace BS := mk0 (show w7.heap[g5]? = some _ from by rw [hw]; exact bkW BS)
    replace BM := mk0 (show w7.heap[g8]? = some (.cells #[.string nm, .int .i64 k, .slice A5 d.length c5, .string x] 38 (0, 0)) from by rw [hw]; exact bkW BM)
    replace HB := mk0 (show Below w.heap.size w w7 from by rw [hw]; exact below4 HB.out GM.out)
    replace V1 := mk0 (show Kd.F (Kd.int .i64) w7 _ A5 d.length d from by rw [hw]; exact fFar4 V1.out (fun k hk => Nat.ne_of_lt (Nat.lt_of_lt_of_le hk.2 G6.out)))
    clear hw hm0 hm1 hm2 hm3 fm0 fm1 fm2 fm3 NTM NMT NSM NMS G6
    have c1_ := Aside0.mk (show agateref07_Check_s.f nm k d x = some (chkR nm k d x) from if_pos ⟨by have := HA.out; omega, by have := HX.out; omega⟩)
    refine (agateref07_Check_s.calls nm k A5 c5 d x _ w7 (Kd.F_now V1.out) V1c.out c1_.out).mono ?_
    rintro e w8 ⟨rfl, hb⟩
    replace BT := bkS BT hb
    replace BS := bkS BS hb
    replace BM := bkS BM hb
    replace V1 := mk0 (F_below V1.out hb)
    replace HB := hbS HB hb
    clear hb c1_
    obtain ⟨ht0, ht1, ht2, ht3⟩ := cz4 BT
    go_wp2_with (first | fail)
    by_cases hk : chkR nm k d x = 0
    · have HT := mk0 (show TenOk nm k d x from ⟨hk, by have := HQ.out.2.2; omega, by have := HQ.out.1; omega, by have := HQ.out.2.1; omega, HN.out⟩)
      refine (pbtensor_Put.calls nm k A1 c1 d x _ _ _ (Kd.C_below (Kd.F_now H1.out) HB.out) H1c.out (tput_f HT.out)).mono ?_
      rintro e w9 ⟨rfl, hb⟩
      replace BT := bkS BT hb
      replace BS := bkS BS hb
      replace BM := bkS BM hb
      replace V1 := mk0 (F_below V1.out hb)
      replace HB := hbS HB hb
      clear hb ht0 ht1 ht2 ht3
      rw [hk]
      have hs0 := cz1 BS
      go_wp2_with (first | fail)
      refine (Read_laid (laidF (fldsT nm k d x)) m _ _ (by have := flds_size HT.out; omega) (apart_laid HT.out) rfl rfl rfl rfl (by have := HT.out.n; dsimp only; omega) (by have := HT.out.d; dsimp only; omega) HT.out.chk).mono ?_
      rintro e w10 ⟨v, rfl, q, hb⟩
      dsimp only at q ⊢
      obtain ⟨A10, c10, rfl⟩ := Kd.V_slice q
      have VUc := mk0 (Kd.V_reads' q).2.1
      have VU := mk0 (Kd.F_bound (Kd.V_F q))
      replace BT := bkS BT hb
      replace BS := bkS BS hb
      replace BM := bkS BM hb
      replace V1 := mk0 (Kd.F_bound (F_below V1.out hb))
      replace HB := hbS HB hb
      clear hb q
      go_wp2_with (first | ((with_reducible refine gate_dst (N := 12) rfl ?_); refine boxE (N := 12) (cs := #[.string (⟨#[]⟩ : ByteArray), .int .i64 0, .slice none 0 0, .string (⟨#[]⟩ : ByteArray)]) (t := 33) ?_; intro g12 hg w11 hbox hb; have BU := mk0 hbox; have GU := gwS HB hg; have NMU := neS BM hg; have NUM := neT BM hg; have G12 := nle5 hg; replace BM := bkS BM hb; replace V1 := mk0 (Kd.F_below V1.out hb); replace VU := mk0 (Kd.F_below VU.out hb); replace HB := hbS HB hb; clear hb hbox hg; obtain ⟨hu0, hu1, hu2, hu3⟩ := cz4 BU; have fu0 := fz BU 0; have fu1 := fz BU 1; have fu2 := fz BU 2; have fu3 := fz BU 3))
      obtain ⟨w12, hw⟩ : ∃ wb, wb = (((w11.setCell ⟨g12, 0, none⟩ (.string nm)).setCell ⟨g12, 1, none⟩ (.int .i64 k)).setCell ⟨g12, 2, none⟩ (.slice A10 d.length c10)).setCell ⟨g12, 3, none⟩ (.string x) := ⟨_, rfl⟩
      rw [← hw]
      have HTv := mk0 (show TvR w w12 g8 g12 nm k d x A5 c5 A10 c10 from by
        rw [hw]
        exact ⟨below4 HB.out GU.out, bkW BM, bkW BU, V1c.out, VUc.out, Kd.F_mono (fFar4 V1.out (fun k hk => Nat.ne_of_lt (Nat.lt_of_lt_of_le hk.2 G12.out))) (fun _ _ => trivial), Kd.F_mono (fFar4 VU.out (fun k hk => Nat.ne_of_lt (Nat.lt_of_lt_of_le hk.2 G12.out))) (fun _ _ => trivial)⟩)
      replace HTv := mk0 HTv.out.drew
      have HSm := Aside0.mk (show agateref07_Same_s.f nm k d x nm k d x = some true from by
        unfold agateref07_Same_s.f sameR
        rw [if_pos (by have := HQ.out.2.1; omega), decide_eq_true ⟨rfl, rfl, rfl, rfl⟩])
      clear hw hu0 hu1 hu2 hu3 fu0 fu1 fu2 fu3 NMU NUM BU BM V1 VU HB BT BS hs0
      refine start_ (n := 18) (S := fun w' => True) (ds := []) #[false, false, false, false, false, false, false, false, false, false, false, false, false, false, false, false, false, false] (by kernel_rfl) rfl rfl trivial (fun hHeld => ?_)
      refine with_tabW tkv.tab12 tkv.bits12 (fun HT_ HW_ => ?_)
      generalize w12.drew = wd at HTv hHeld ⊢
      refine inv_at [0, 1, 2, 3, 4, 5, 6, 7, 8, 9, 10, 11, 12, 13, 14, 15, 16, 17] (fun a0_ b a w' => ∃ (p13 : Option Addr) (q13 : Nat) (m13_ : Value), a = putSel a0_ b [(0, 66, .bool true), (1, 67, .bool true), (2, 68, .string (laidF (fldsT nm k d x))), (3, 69, .agg #[.string nm, .int .i64 k, .slice A5 d.length c5, .string x]), (4, 70, .string (laidF (fldsT nm k d x))), (5, 71, .bool true), (6, 72, .bool true), (7, 73, .bool true), (8, 74, .int .i64 0), (9, 75, .bool true), (10, 76, .bool true), (11, 77, .bool true), (12, 78, .agg #[.string nm, .int .i64 k, .slice A10 d.length c10, .string x]), (13, 79, m13_), (14, 80, .agg #[.string nm, .int .i64 k, .slice A5 d.length c5, .string x]), (15, 81, .bool true), (16, 82, .bool true), (17, 4, .bool true)] ∧ (TvR w w' g8 g12 nm k d x A5 c5 A10 c10) ∧ (b 13 = true → d.length ≤ q13 ∧ Kd.F (Kd.int .i64) w' (fun _ => True) p13 d.length d) ∧ (b 13 = true → (m13_ : Value) = .agg #[.string nm, .int .i64 k, .slice p13 d.length q13, .string x])) HT_.out HW_.out (by kernel_rfl) (by kernel_rfl) ?_ ?_ ?_
      · exact ⟨none, 0, .bool false, by simp only [putSel, Bool.false_eq_true, if_false], HTv.out, fun h_ => absurd h_ (by decide), fun h_ => absurd h_ (by decide)⟩
      · skip
        skip
        refine steps_cons ?_ ?_
        · rintro b a w' ⟨p13, q13, m13_, ha, Q_R, Q_O, Q_X13_⟩ hb_ hon hoff
          refine ⟨_, rfl, fun K hK => ?_⟩
          replace ha := Aside0.mk ha
          have R := Aside0.mk Q_R
          refine call_ 6 #[] (by rfl) rfl (by go_simp; try rfl) ?_
          refine (Awake09_any w').mono ?_
          rintro e w1 ⟨rfl, hB⟩
          refine ⟨_, rfl, ?_⟩
          refine hK.out _ _ ⟨p13, q13, m13_, (by rw [ha.out]; exact putSel_upk 0 hb_ rfl rfl rfl), R.out.step hB, fun h0_ => absurd ((hoff 13 (by kernel_rfl)).symm.trans h0_) (by decide), fun h0_ => absurd ((hoff 13 (by kernel_rfl)).symm.trans h0_) (by decide)⟩
        refine steps_cons ?_ ?_
        · rintro b a w' ⟨p13, q13, m13_, ha, Q_R, Q_O, Q_X13_⟩ hb_ hon hoff
          refine ⟨_, rfl, fun K hK => ?_⟩
          have e66 : a.tmps[66]? = some (.bool true) := by rw [ha]; exact putSel_on (e := (0, 66, .bool true)) 0 rfl rfl (hon 0 (by kernel_rfl)) rfl
          replace ha := Aside0.mk ha
          have R := Aside0.mk Q_R
          refine value_ (w1 := w') (v := .bool true) (by rfl) rfl ?_ ?_
          · go_simp
            (try simp only [i64_w])
            try rfl
          refine hK.out _ _ ⟨p13, q13, m13_, (by rw [ha.out]; exact putSel_upk 1 hb_ rfl rfl rfl), Q_R, fun h0_ => absurd ((hoff 13 (by kernel_rfl)).symm.trans h0_) (by decide), fun h0_ => absurd ((hoff 13 (by kernel_rfl)).symm.trans h0_) (by decide)⟩
        refine steps_cons ?_ ?_
        · rintro b a w' ⟨p13, q13, m13_, ha, Q_R, Q_O, Q_X13_⟩ hb_ hon hoff
          refine ⟨_, rfl, fun K hK => ?_⟩
          have e10 : a.tmps[10]? = some (.string (laidF (fldsT nm k d x))) := by rw [ha]; exact (putSel_off rfl).trans rfl
          have e67 : a.tmps[67]? = some (.bool true) := by rw [ha]; exact putSel_on (e := (1, 67, .bool true)) 1 rfl rfl (hon 1 (by kernel_rfl)) rfl
          replace ha := Aside0.mk ha
          have R := Aside0.mk Q_R
          refine value_ (w1 := w') (v := .string (laidF (fldsT nm k d x))) (wanted_on rfl rfl rfl (e67.trans (by first | rfl | (simp [*]; done)))) rfl ?_ ?_
          · go_simp
            (try simp only [i64_w])
            try rfl
          refine hK.out _ _ ⟨p13, q13, m13_, (by rw [ha.out]; exact putSel_upk 2 hb_ rfl rfl rfl), Q_R, fun h0_ => absurd ((hoff 13 (by kernel_rfl)).symm.trans h0_) (by decide), fun h0_ => absurd ((hoff 13 (by kernel_rfl)).symm.trans h0_) (by decide)⟩
        refine steps_cons ?_ ?_
        · rintro b a w' ⟨p13, q13, m13_, ha, Q_R, Q_O, Q_X13_⟩ hb_ hon hoff
          refine ⟨_, rfl, fun K hK => ?_⟩
          have e8 : a.tmps[8]? = some (.pointer (some ⟨g8, 0, none⟩)) := by rw [ha]; exact (putSel_off rfl).trans rfl
          have e67 : a.tmps[67]? = some (.bool true) := by rw [ha]; exact putSel_on (e := (1, 67, .bool true)) 1 rfl rfl (hon 1 (by kernel_rfl)) rfl
          replace ha := Aside0.mk ha
          have R := Aside0.mk Q_R
          obtain ⟨h0_, h1_, h2_, h3_⟩ := cz4 (mk0 R.out.m)
          refine value_ (w1 := w') (v := .agg #[.string nm, .int .i64 k, .slice A5 d.length c5, .string x]) (wanted_on rfl rfl rfl (e67.trans (by first | rfl | (simp [*]; done)))) rfl ?_ ?_
          · go_simp
            (try simp only [i64_w])
            try rfl
          refine hK.out _ _ ⟨p13, q13, m13_, (by rw [ha.out]; exact putSel_upk 3 hb_ rfl rfl rfl), Q_R, fun h0_ => absurd ((hoff 13 (by kernel_rfl)).symm.trans h0_) (by decide), fun h0_ => absurd ((hoff 13 (by kernel_rfl)).symm.trans h0_) (by decide)⟩
        refine steps_cons ?_ ?_
        · rintro b a w' ⟨p13, q13, m13_, ha, Q_R, Q_O, Q_X13_⟩ hb_ hon hoff
          refine ⟨_, rfl, fun K hK => ?_⟩
          have e69 : a.tmps[69]? = some (.agg #[.string nm, .int .i64 k, .slice A5 d.length c5, .string x]) := by rw [ha]; exact putSel_on (e := (3, 69, .agg #[.string nm, .int .i64 k, .slice A5 d.length c5, .string x])) 3 rfl rfl (hon 3 (by kernel_rfl)) rfl
          have e67 : a.tmps[67]? = some (.bool true) := by rw [ha]; exact putSel_on (e := (1, 67, .bool true)) 1 rfl rfl (hon 1 (by kernel_rfl)) rfl
          replace ha := Aside0.mk ha
          have R := Aside0.mk Q_R
          refine call_ 13 #[.agg #[.string nm, .int .i64 k, .slice A5 d.length c5, .string x]] (wanted_on rfl rfl rfl (e67.trans rfl)) rfl (by go_simp; try rfl) ?_
          refine (agateref09_Put.calls nm k A5 c5 d x _ w' (Kd.F_now R.out.r5) R.out.l5 (refPut_f HT.out)).mono ?_
          rintro e w1 ⟨rfl, hB⟩
          refine ⟨_, rfl, ?_⟩
          refine hK.out _ _ ⟨p13, q13, m13_, (by rw [ha.out]; exact putSel_upk 4 hb_ rfl rfl rfl), R.out.step hB, fun h0_ => absurd ((hoff 13 (by kernel_rfl)).symm.trans h0_) (by decide), fun h0_ => absurd ((hoff 13 (by kernel_rfl)).symm.trans h0_) (by decide)⟩
        refine steps_cons ?_ ?_
        · rintro b a w' ⟨p13, q13, m13_, ha, Q_R, Q_O, Q_X13_⟩ hb_ hon hoff
          refine ⟨_, rfl, fun K hK => ?_⟩
          have e68 : a.tmps[68]? = some (.string (laidF (fldsT nm k d x))) := by rw [ha]; exact putSel_on (e := (2, 68, .string (laidF (fldsT nm k d x)))) 2 rfl rfl (hon 2 (by kernel_rfl)) rfl
          have e70 : a.tmps[70]? = some (.string (laidF (fldsT nm k d x))) := by rw [ha]; exact putSel_on (e := (4, 70, .string (laidF (fldsT nm k d x)))) 4 rfl rfl (hon 4 (by kernel_rfl)) rfl
          have e67 : a.tmps[67]? = some (.bool true) := by rw [ha]; exact putSel_on (e := (1, 67, .bool true)) 1 rfl rfl (hon 1 (by kernel_rfl)) rfl
          replace ha := Aside0.mk ha
          have R := Aside0.mk Q_R
          refine value_ (w1 := w') (v := .bool true) (wanted_on rfl rfl rfl (e67.trans (by first | rfl | (simp [*]; done)))) rfl ?_ ?_
          · go_simp
            (try simp only [i64_w])
            try rfl
          refine hK.out _ _ ⟨p13, q13, m13_, (by rw [ha.out]; exact putSel_upk 5 hb_ rfl rfl rfl), Q_R, fun h0_ => absurd ((hoff 13 (by kernel_rfl)).symm.trans h0_) (by decide), fun h0_ => absurd ((hoff 13 (by kernel_rfl)).symm.trans h0_) (by decide)⟩
        refine steps_cons ?_ ?_
        · rintro b a w' ⟨p13, q13, m13_, ha, Q_R, Q_O, Q_X13_⟩ hb_ hon hoff
          refine ⟨_, rfl, fun K hK => ?_⟩
          have e67 : a.tmps[67]? = some (.bool true) := by rw [ha]; exact putSel_on (e := (1, 67, .bool true)) 1 rfl rfl (hon 1 (by kernel_rfl)) rfl
          have e71 : a.tmps[71]? = some (.bool true) := by rw [ha]; exact putSel_on (e := (5, 71, .bool true)) 5 rfl rfl (hon 5 (by kernel_rfl)) rfl
          replace ha := Aside0.mk ha
          have R := Aside0.mk Q_R
          refine value_ (w1 := w') (v := .bool true) (by rfl) rfl ?_ ?_
          · go_simp
            (try simp only [i64_w])
            try rfl
          refine hK.out _ _ ⟨p13, q13, m13_, (by rw [ha.out]; exact putSel_upk 6 hb_ rfl rfl rfl), Q_R, fun h0_ => absurd ((hoff 13 (by kernel_rfl)).symm.trans h0_) (by decide), fun h0_ => absurd ((hoff 13 (by kernel_rfl)).symm.trans h0_) (by decide)⟩
        refine steps_cons ?_ ?_
        · rintro b a w' ⟨p13, q13, m13_, ha, Q_R, Q_O, Q_X13_⟩ hb_ hon hoff
          refine ⟨_, rfl, fun K hK => ?_⟩
          have e72 : a.tmps[72]? = some (.bool true) := by rw [ha]; exact putSel_on (e := (6, 72, .bool true)) 6 rfl rfl (hon 6 (by kernel_rfl)) rfl
          replace ha := Aside0.mk ha
          have R := Aside0.mk Q_R
          refine value_ (w1 := w') (v := .bool true) (by rfl) rfl ?_ ?_
          · go_simp
            (try simp only [i64_w])
            try rfl
          refine hK.out _ _ ⟨p13, q13, m13_, (by rw [ha.out]; exact putSel_upk 7 hb_ rfl rfl rfl), Q_R, fun h0_ => absurd ((hoff 13 (by kernel_rfl)).symm.trans h0_) (by decide), fun h0_ => absurd ((hoff 13 (by kernel_rfl)).symm.trans h0_) (by decide)⟩
        refine steps_cons ?_ ?_
        · rintro b a w' ⟨p13, q13, m13_, ha, Q_R, Q_O, Q_X13_⟩ hb_ hon hoff
          refine ⟨_, rfl, fun K hK => ?_⟩
          have e13 : a.tmps[13]? = some (.int .i64 0) := by rw [ha]; exact (putSel_off rfl).trans rfl
          have e73 : a.tmps[73]? = some (.bool true) := by rw [ha]; exact putSel_on (e := (7, 73, .bool true)) 7 rfl rfl (hon 7 (by kernel_rfl)) rfl
          replace ha := Aside0.mk ha
          have R := Aside0.mk Q_R
          refine value_ (w1 := w') (v := .int .i64 0) (wanted_on rfl rfl rfl (e73.trans (by first | rfl | (simp [*]; done)))) rfl ?_ ?_
          · go_simp
            (try simp only [i64_w])
            try rfl
          refine hK.out _ _ ⟨p13, q13, m13_, (by rw [ha.out]; exact putSel_upk 8 hb_ rfl rfl rfl), Q_R, fun h0_ => absurd ((hoff 13 (by kernel_rfl)).symm.trans h0_) (by decide), fun h0_ => absurd ((hoff 13 (by kernel_rfl)).symm.trans h0_) (by decide)⟩
        refine steps_cons ?_ ?_
        · rintro b a w' ⟨p13, q13, m13_, ha, Q_R, Q_O, Q_X13_⟩ hb_ hon hoff
          refine ⟨_, rfl, fun K hK => ?_⟩
          have e74 : a.tmps[74]? = some (.int .i64 0) := by rw [ha]; exact putSel_on (e := (8, 74, .int .i64 0)) 8 rfl rfl (hon 8 (by kernel_rfl)) rfl
          have e73 : a.tmps[73]? = some (.bool true) := by rw [ha]; exact putSel_on (e := (7, 73, .bool true)) 7 rfl rfl (hon 7 (by kernel_rfl)) rfl
          replace ha := Aside0.mk ha
          have R := Aside0.mk Q_R
          refine value_ (w1 := w') (v := .bool true) (wanted_on rfl rfl rfl (e73.trans (by first | rfl | (simp [*]; done)))) rfl ?_ ?_
          · go_simp
            (try simp only [i64_w])
            try rfl
          refine hK.out _ _ ⟨p13, q13, m13_, (by rw [ha.out]; exact putSel_upk 9 hb_ rfl rfl rfl), Q_R, fun h0_ => absurd ((hoff 13 (by kernel_rfl)).symm.trans h0_) (by decide), fun h0_ => absurd ((hoff 13 (by kernel_rfl)).symm.trans h0_) (by decide)⟩
        refine steps_cons ?_ ?_
        · rintro b a w' ⟨p13, q13, m13_, ha, Q_R, Q_O, Q_X13_⟩ hb_ hon hoff
          refine ⟨_, rfl, fun K hK => ?_⟩
          have e73 : a.tmps[73]? = some (.bool true) := by rw [ha]; exact putSel_on (e := (7, 73, .bool true)) 7 rfl rfl (hon 7 (by kernel_rfl)) rfl
          have e75 : a.tmps[75]? = some (.bool true) := by rw [ha]; exact putSel_on (e := (9, 75, .bool true)) 9 rfl rfl (hon 9 (by kernel_rfl)) rfl
          replace ha := Aside0.mk ha
          have R := Aside0.mk Q_R
          refine value_ (w1 := w') (v := .bool true) (by rfl) rfl ?_ ?_
          · go_simp
            (try simp only [i64_w])
            try rfl
          refine hK.out _ _ ⟨p13, q13, m13_, (by rw [ha.out]; exact putSel_upk 10 hb_ rfl rfl rfl), Q_R, fun h0_ => absurd ((hoff 13 (by kernel_rfl)).symm.trans h0_) (by decide), fun h0_ => absurd ((hoff 13 (by kernel_rfl)).symm.trans h0_) (by decide)⟩
        refine steps_cons ?_ ?_
        · rintro b a w' ⟨p13, q13, m13_, ha, Q_R, Q_O, Q_X13_⟩ hb_ hon hoff
          refine ⟨_, rfl, fun K hK => ?_⟩
          have e76 : a.tmps[76]? = some (.bool true) := by rw [ha]; exact putSel_on (e := (10, 76, .bool true)) 10 rfl rfl (hon 10 (by kernel_rfl)) rfl
          replace ha := Aside0.mk ha
          have R := Aside0.mk Q_R
          refine value_ (w1 := w') (v := .bool true) (by rfl) rfl ?_ ?_
          · go_simp
            (try simp only [i64_w])
            try rfl
          refine hK.out _ _ ⟨p13, q13, m13_, (by rw [ha.out]; exact putSel_upk 11 hb_ rfl rfl rfl), Q_R, fun h0_ => absurd ((hoff 13 (by kernel_rfl)).symm.trans h0_) (by decide), fun h0_ => absurd ((hoff 13 (by kernel_rfl)).symm.trans h0_) (by decide)⟩
        refine steps_cons ?_ ?_
        · rintro b a w' ⟨p13, q13, m13_, ha, Q_R, Q_O, Q_X13_⟩ hb_ hon hoff
          refine ⟨_, rfl, fun K hK => ?_⟩
          have e12 : a.tmps[12]? = some (.pointer (some ⟨g12, 0, none⟩)) := by rw [ha]; exact (putSel_off rfl).trans rfl
          have e77 : a.tmps[77]? = some (.bool true) := by rw [ha]; exact putSel_on (e := (11, 77, .bool true)) 11 rfl rfl (hon 11 (by kernel_rfl)) rfl
          replace ha := Aside0.mk ha
          have R := Aside0.mk Q_R
          obtain ⟨h0_, h1_, h2_, h3_⟩ := cz4 (mk0 R.out.u)
          refine value_ (w1 := w') (v := .agg #[.string nm, .int .i64 k, .slice A10 d.length c10, .string x]) (wanted_on rfl rfl rfl (e77.trans (by first | rfl | (simp [*]; done)))) rfl ?_ ?_
          · go_simp
            (try simp only [i64_w])
            try rfl
          refine hK.out _ _ ⟨p13, q13, m13_, (by rw [ha.out]; exact putSel_upk 12 hb_ rfl rfl rfl), Q_R, fun h0_ => absurd ((hoff 13 (by kernel_rfl)).symm.trans h0_) (by decide), fun h0_ => absurd ((hoff 13 (by kernel_rfl)).symm.trans h0_) (by decide)⟩
        refine steps_cons ?_ ?_
        · rintro b a w' ⟨p13, q13, m13_, ha, Q_R, Q_O, Q_X13_⟩ hb_ hon hoff
          refine ⟨_, rfl, fun K hK => ?_⟩
          have e78 : a.tmps[78]? = some (.agg #[.string nm, .int .i64 k, .slice A10 d.length c10, .string x]) := by rw [ha]; exact putSel_on (e := (12, 78, .agg #[.string nm, .int .i64 k, .slice A10 d.length c10, .string x])) 12 rfl rfl (hon 12 (by kernel_rfl)) rfl
          have e77 : a.tmps[77]? = some (.bool true) := by rw [ha]; exact putSel_on (e := (11, 77, .bool true)) 11 rfl rfl (hon 11 (by kernel_rfl)) rfl
          replace ha := Aside0.mk ha
          have R := Aside0.mk Q_R
          refine call_ 10 #[.agg #[.string nm, .int .i64 k, .slice A10 d.length c10, .string x]] (wanted_on rfl rfl rfl (e77.trans rfl)) rfl (by go_simp; try rfl) ?_
          refine (agatelaw07_Of.calls nm k (fun _ => True) A10 c10 d x nm k d x w' (Kd.V_mk R.out.l10 R.out.r10) rfl).mono ?_
          rintro e w1 ⟨v2, rfl, hO, hB⟩
          obtain ⟨r1, s1, rfl⟩ := Kd.V_slice hO
          refine ⟨_, rfl, ?_⟩
          refine hK.out _ _ ⟨r1, s1, (.agg #[.string nm, .int .i64 k, .slice r1 d.length s1, .string x]), (by rw [ha.out]; exact putSel_upk 13 hb_ rfl rfl rfl), R.out.step hB, fun _ => ⟨(Kd.V_reads' hO).2.1, Kd.F_mono (Kd.V_F hO) (fun _ _ => trivial)⟩, fun _ => rfl⟩
        refine steps_cons ?_ ?_
        · rintro b a w' ⟨p13, q13, m13_, ha, Q_R, Q_O, Q_X13_⟩ hb_ hon hoff
          refine ⟨_, rfl, fun K hK => ?_⟩
          have e8 : a.tmps[8]? = some (.pointer (some ⟨g8, 0, none⟩)) := by rw [ha]; exact (putSel_off rfl).trans rfl
          have e77 : a.tmps[77]? = some (.bool true) := by rw [ha]; exact putSel_on (e := (11, 77, .bool true)) 11 rfl rfl (hon 11 (by kernel_rfl)) rfl
          replace ha := Aside0.mk ha
          have R := Aside0.mk Q_R
          obtain ⟨h0_, h1_, h2_, h3_⟩ := cz4 (mk0 R.out.m)
          refine value_ (w1 := w') (v := .agg #[.string nm, .int .i64 k, .slice A5 d.length c5, .string x]) (wanted_on rfl rfl rfl (e77.trans (by first | rfl | (simp [*]; done)))) rfl ?_ ?_
          · go_simp
            (try simp only [i64_w])
            try rfl
          refine hK.out _ _ ⟨p13, q13, m13_, (by rw [ha.out]; exact putSel_upk 14 hb_ rfl rfl rfl), Q_R, Q_O, Q_X13_⟩
        refine steps_cons ?_ ?_
        · rintro b a w' ⟨p13, q13, m13_, ha, Q_R, Q_O, Q_X13_⟩ hb_ hon hoff
          refine ⟨_, rfl, fun K hK => ?_⟩
          have e79 : a.tmps[79]? = some (m13_) := by rw [ha]; exact putSel_on (e := (13, 79, m13_)) 13 rfl rfl (hon 13 (by kernel_rfl)) rfl
          rw [Q_X13_ (hon 13 (by kernel_rfl))] at e79
          have e80 : a.tmps[80]? = some (.agg #[.string nm, .int .i64 k, .slice A5 d.length c5, .string x]) := by rw [ha]; exact putSel_on (e := (14, 80, .agg #[.string nm, .int .i64 k, .slice A5 d.length c5, .string x])) 14 rfl rfl (hon 14 (by kernel_rfl)) rfl
          have e77 : a.tmps[77]? = some (.bool true) := by rw [ha]; exact putSel_on (e := (11, 77, .bool true)) 11 rfl rfl (hon 11 (by kernel_rfl)) rfl
          replace ha := Aside0.mk ha
          have R := Aside0.mk Q_R
          have O := Aside0.mk (Q_O (hon 13 (by kernel_rfl)))
          refine call_ 9 #[.agg #[.string nm, .int .i64 k, .slice p13 d.length q13, .string x], .agg #[.string nm, .int .i64 k, .slice A5 d.length c5, .string x]] (wanted_on rfl rfl rfl (e77.trans rfl)) rfl (by go_simp; try rfl) ?_
          refine (agateref07_Same_s.calls nm k p13 q13 d x nm k A5 c5 d x true w' (Kd.F_now O.out.2) O.out.1 (Kd.F_now R.out.r5) R.out.l5 HSm.out).mono ?_
          rintro e w1 ⟨rfl, hB⟩
          refine ⟨_, rfl, ?_⟩
          refine hK.out _ _ ⟨p13, q13, m13_, (by rw [ha.out]; exact putSel_upk 15 hb_ rfl rfl rfl), R.out.step hB, fun _ => ⟨O.out.1, F_below O.out.2 hB⟩, Q_X13_⟩
        refine steps_cons ?_ ?_
        · rintro b a w' ⟨p13, q13, m13_, ha, Q_R, Q_O, Q_X13_⟩ hb_ hon hoff
          refine ⟨_, rfl, fun K hK => ?_⟩
          have e77 : a.tmps[77]? = some (.bool true) := by rw [ha]; exact putSel_on (e := (11, 77, .bool true)) 11 rfl rfl (hon 11 (by kernel_rfl)) rfl
          have e81 : a.tmps[81]? = some (.bool true) := by rw [ha]; exact putSel_on (e := (15, 81, .bool true)) 15 rfl rfl (hon 15 (by kernel_rfl)) rfl
          replace ha := Aside0.mk ha
          have R := Aside0.mk Q_R
          have O := Aside0.mk (Q_O (hon 13 (by kernel_rfl)))
          refine value_ (w1 := w') (v := .bool true) (by rfl) rfl ?_ ?_
          · go_simp
            (try simp only [i64_w])
            try rfl
          refine hK.out _ _ ⟨p13, q13, m13_, (by rw [ha.out]; exact putSel_upk 16 hb_ rfl rfl rfl), Q_R, Q_O, Q_X13_⟩
        refine steps_cons ?_ ?_
        · rintro b a w' ⟨p13, q13, m13_, ha, Q_R, Q_O, Q_X13_⟩ hb_ hon hoff
          refine ⟨_, rfl, fun K hK => ?_⟩
          have e82 : a.tmps[82]? = some (.bool true) := by rw [ha]; exact putSel_on (e := (16, 82, .bool true)) 16 rfl rfl (hon 16 (by kernel_rfl)) rfl
          replace ha := Aside0.mk ha
          have R := Aside0.mk Q_R
          have O := Aside0.mk (Q_O (hon 13 (by kernel_rfl)))
          refine value_ (w1 := w') (v := .bool true) (by rfl) rfl ?_ ?_
          · go_simp
            (try simp only [i64_w])
            try rfl
          refine hK.out _ _ ⟨p13, q13, m13_, (by rw [ha.out]; exact putSel_upk 17 hb_ rfl rfl rfl), Q_R, Q_O, Q_X13_⟩
        exact steps_nil
      · rintro b a w' hall ⟨p13, q13, m13_, ha, Q_R, Q_O, Q_X13_⟩
        skip
        have hb0_ := hall 0 (by kernel_rfl)
        have hb1_ := hall 1 (by kernel_rfl)
        have hb2_ := hall 2 (by kernel_rfl)
        have hb3_ := hall 3 (by kernel_rfl)
        have hb4_ := hall 4 (by kernel_rfl)
        have hb5_ := hall 5 (by kernel_rfl)
        have hb6_ := hall 6 (by kernel_rfl)
        have hb7_ := hall 7 (by kernel_rfl)
        have hb8_ := hall 8 (by kernel_rfl)
        have hb9_ := hall 9 (by kernel_rfl)
        have hb10_ := hall 10 (by kernel_rfl)
        have hb11_ := hall 11 (by kernel_rfl)
        have hb12_ := hall 12 (by kernel_rfl)
        have hb13_ := hall 13 (by kernel_rfl)
        have hb14_ := hall 14 (by kernel_rfl)
        have hb15_ := hall 15 (by kernel_rfl)
        have hb16_ := hall 16 (by kernel_rfl)
        have hb17_ := hall 17 (by kernel_rfl)
        subst ha
        obtain rfl := Q_X13_ hb13_
        simp only [putSel, hb0_, hb1_, hb2_, hb3_, hb4_, hb5_, hb6_, hb7_, hb8_, hb9_, hb10_, hb11_, hb12_, hb13_, hb14_, hb15_, hb16_, hb17_, if_true, Act.put, List.setIfInBounds_toArray, List.set_cons_zero, List.set_cons_succ]
        have R := Aside0.mk Q_R
        clear Q_R
        have O := Aside0.mk (Q_O hb13_)
        clear Q_O
        clear hall hb0_ hb1_ hb2_ hb3_ hb4_ hb5_ hb6_ hb7_ hb8_ hb9_ hb10_ hb11_ hb12_ hb13_ hb14_ hb15_ hb16_ hb17_
        go_wp2
        go_ret
        exact ⟨rfl, R.out.b⟩
    · have hk2 : (chkR nm k d x != 0) = true := bne_iff_ne.2 hk
      have hk3 : (chkR nm k d x != chkR nm k d x) = false := bne_self_eq_false _
      refine (pbtensor_Put.calls nm k A1 c1 d x _ _ _ (Kd.C_below (Kd.F_now H1.out) HB.out) H1c.out (tput_bad (by have := HQ.out.2.2; omega) (by have := HQ.out.1; omega) hk)).mono ?_
      rintro e w9 ⟨rfl, hb⟩
      replace HB := hbS HB hb
      clear hb ht0 ht1 ht2 ht3 BT BS BM V1 hk
      go_wp2_with (first | fail)
      refine (Awake09_any _).mono ?_
      rintro e w10 ⟨rfl, hb⟩
      replace HB := hbS HB hb
      clear hb
      go_wp2
      go_ret
      exact ⟨rfl, HB.out⟩
end Go.Proofs.YtgmggompdidcoaaGreatDoor.X
