import Derived.Test.YtohddbiedabmhaaMPackBack0
import Derived.Test.YtohddbiedabmhaaMPackBack11
import Derived.Test.YtohddbiedabmhaaMPackBack7
import Derived.Test.YtohddbiedabmhaaMPackBack8
import Derived.Test.YtohddbiedabmhaaMPackBack3
import Derived.Test.YtohddbiedabmhaaMPackBack2
-- by xprint.py, a program of this session, over the kit's print.py
namespace Go.Proofs.Ytohddbiedabmhaa.X
open Go.RowKit Go.Proofs.YtohddbiedabmhaaW.PrintWords Go.Proofs.YtohddbiedabmhaaW.PrintLast Go.Proofs.YtohddbiedabmhaaW.PrintMore
attribute [local go_sem] max2_int min2_int max_two min_two max_three min_three max_four min_four   -- for this text's walks alone
set_option linter.unusedVariables false
set_option linter.unusedSimpArgs false

def agatelaw03_Awake_s.f : Option Bool := some true
theorem awake03_packed : packedF 11 [] ⟨#[1, 255, 255, 255, 255, 255, 255, 255, 255, 255, 1]⟩ = ([1, -1], 0) := by
  have e1 : vRead ⟨#[1, 255, 255, 255, 255, 255, 255, 255, 255, 255, 1]⟩ = (1, 1, 0) := by decide
  have e2 : ByteArray.extract ⟨#[1, 255, 255, 255, 255, 255, 255, 255, 255, 255, 1]⟩ 1 (ByteArray.size ⟨#[1, 255, 255, 255, 255, 255, 255, 255, 255, 255, 1]⟩) = ⟨#[255, 255, 255, 255, 255, 255, 255, 255, 255, 1]⟩ := by decide
  have e3 : vRead ⟨#[255, 255, 255, 255, 255, 255, 255, 255, 255, 1]⟩ = (18446744073709551615, 10, 0) := by decide
  have e4 : ByteArray.extract ⟨#[255, 255, 255, 255, 255, 255, 255, 255, 255, 1]⟩ 10 (ByteArray.size ⟨#[255, 255, 255, 255, 255, 255, 255, 255, 255, 1]⟩) = ⟨#[]⟩ := by decide
  have w1 : wrap64 1 = 1 := wrap64_id (by decide) (by decide)
  have w2 : wrap64 18446744073709551615 = -1 := by unfold wrap64; decide
  rw [packedF, if_neg (by decide), e1]
  rw [if_neg (by simp), if_neg (by simp)]
  simp only [e2]
  rw [packedF, if_neg (by decide), e3]
  rw [if_neg (by simp), if_neg (by simp)]
  simp only [e4]
  rw [packedF, if_pos (by decide)]
  show ([] ++ [wrap64 1] ++ [wrap64 18446744073709551615], 0) = _
  rw [w1, w2]; rfl
theorem agatelaw03_Awake_s.ev (r) (h : agatelaw03_Awake_s.f = some r) : ∃ k : Nat, agatelaw03_Awake.f = some r := by
  refine ⟨0, ?_⟩
  rw [← h]
  unfold agatelaw03_Awake.f agatelaw03_Awake_s.f
  have w5 : wrap64 5 = 5 := wrap64_id (by decide) (by decide)
  have e1 : pack_Ints_s.f [(⟨1, 2, 0, ⟨#[1, 255, 255, 255, 255, 255, 255, 255, 255, 255, 1]⟩⟩ : S47), ⟨1, 0, 5, ⟨#[]⟩⟩] 1 = some ([1, -1, 5], 0) := by
    unfold pack_Ints_s.f
    rw [if_pos ⟨by decide, by simp; decide⟩]
    have : intsL (([(⟨1, 2, 0, ⟨#[1, 255, 255, 255, 255, 255, 255, 255, 255, 255, 1]⟩⟩ : S47), ⟨1, 0, 5, ⟨#[]⟩⟩].filter fun x => x.f0 == 1).map flP) [] = ([1, -1, 5], 0) := by
      show intsL [(1, 2, 0, ⟨#[1, 255, 255, 255, 255, 255, 255, 255, 255, 255, 1]⟩), (1, 0, 5, ⟨#[]⟩)] [] = _
      rw [intsL, if_neg (by decide), if_pos rfl]
      show (if (packedF 11 [] ⟨#[1, 255, 255, 255, 255, 255, 255, 255, 255, 255, 1]⟩).2 ≠ 0 then _ else intsL _ (packedF 11 [] ⟨#[1, 255, 255, 255, 255, 255, 255, 255, 255, 255, 1]⟩).1) = _
      rw [awake03_packed, if_neg (by simp), intsL, if_pos rfl, if_neg (by simp), intsL]
      show ([1, -1] ++ [wrap64 5], 0) = _
      rw [w5]; rfl
    rw [this]; rfl
  rw [e1]
  simp only [Option.bind_some, agatelaw02_Awake_s.f, if_true]
  unfold agatelaw03_Ints_s.f
  rw [if_pos (by decide)]
  rfl

set_option maxHeartbeats 1000000 in
theorem agatelaw03_Awake_s.calls  (r : Bool) (w : World) (h : agatelaw03_Awake_s.f  = some r) :
    Calls Try.prog 34 #[] w fun e w' => e = .returned (.bool r) ∧ Below w.heap.size w w' := by
  obtain ⟨k, hk⟩ := agatelaw03_Awake_s.ev  _ h
  exact agatelaw03_Awake.calls r w hk

end Go.Proofs.Ytohddbiedabmhaa.X
-- by xprint.py, a program of this session, over the kit's print.py
namespace Go.Proofs.Ytohddbiedabmhaa.X
open Go.RowKit Go.Proofs.YtohddbiedabmhaaW.PrintWords Go.Proofs.YtohddbiedabmhaaW.PrintLast Go.Proofs.YtohddbiedabmhaaW.PrintMore
attribute [local go_sem] max2_int min2_int max_two min_two max_three min_three max_four min_four   -- for this text's walks alone
set_option linter.unusedVariables false
set_option linter.unusedSimpArgs false

/-! ### wire_Number: function 30 -/
def wire_Number.f (a0 : Int) (a1 : Int) : Option (ByteArray) := (wire_Field_Bytes_s.f a0 0 a1 (⟨#[]⟩ : ByteArray)).bind fun t101 => (some t101)
set_option maxHeartbeats 8000000 in
set_option maxRecDepth 100000 in
theorem wire_Number.calls (a0 : Int) (a1 : Int) (r : ByteArray) (w : World) (h : wire_Number.f a0 a1 = some r) :
    Calls Try.prog 30 #[.int .i64 a0, .int .u64 a1] w fun e w' => e = .returned (.string r) ∧ Below w.heap.size w w' := by
  have hu47 := Try.underlying47
  have HB := Aside0.mk (Below.refl w.heap.size w)
  have H : ((wire_Field_Bytes_s.f a0 0 a1 (⟨#[]⟩ : ByteArray)).bind fun t101 => (some t101)) = some r := h
  clear h
  replace H := Option.bind_eq_some_iff.mp H
  obtain ⟨t101, A30, H⟩ := H
  replace H : (some t101) = some r := H
  have A3 := Aside0.mk A30
  clear A30
  obtain rfl := Option.some.inj H
  go_enter Try.func30, Try.ntmps30
  go_wp2_with (first | ((with_reducible refine gate_callee (f := 29) rfl ?_); refine goesL_ (some 8) rfl rfl Try.func29 (by kernel_rfl) rfl #[.agg #[.int .i64 a0, .int .i64 0, .int .u64 a1, .string (⟨#[]⟩ : ByteArray)]] rfl (by (try simp only [List.map_toArray, List.map_cons, List.map_nil]); first | done | rfl | (simp only [List.length_drop, List.length_take]; rfl)) ?_; (with_reducible refine (wire_Field_Bytes_s.calls a0 0 a1 (⟨#[]⟩ : ByteArray) t101 _ A3.out).mono ?_); rintro e w4 ⟨rfl, hb⟩; refine ⟨_, rfl, ?_⟩; have n0_ := Aside0.mk (below_step (by repeat (first | (with_reducible first | exact HB.out | apply below_alloc | apply pw_below_drewN | apply below_drew1) | exact HB.out)) hb); clear HB; have HB := n0_; clear n0_; (try clear hb); (try clear hb2); (try clear hk); (try clear hi)))
  go_ret
  exact ⟨by first | rfl | (simp [errW_none, errW_some] <;> rfl) | (simp [*, errW_none, errW_some] <;> rfl), by repeat (first | (with_reducible first | exact HB.out | apply below_alloc | apply pw_below_drewN | apply below_drew1) | exact HB.out)⟩

end Go.Proofs.Ytohddbiedabmhaa.X
-- by xprint.py, a program of this session, over the kit's print.py
namespace Go.Proofs.Ytohddbiedabmhaa.X
open Go.RowKit Go.Proofs.YtohddbiedabmhaaW.PrintWords Go.Proofs.YtohddbiedabmhaaW.PrintLast Go.Proofs.YtohddbiedabmhaaW.PrintMore
attribute [local go_sem] max2_int min2_int max_two min_two max_three min_three max_four min_four   -- for this text's walks alone
set_option linter.unusedVariables false
set_option linter.unusedSimpArgs false

def wire_Number_s.f (a0 a1 : Int) : Option ByteArray := wire_Field_Bytes_s.f a0 0 a1 ⟨#[]⟩
theorem wire_Number_s.ev (a0 a1 : Int) (r) (h : wire_Number_s.f a0 a1 = some r) : ∃ k : Nat, wire_Number.f a0 a1 = some r := by
  unfold wire_Number_s.f at h
  exact ⟨0, by unfold wire_Number.f; rw [h]; rfl⟩

set_option maxHeartbeats 1000000 in
theorem wire_Number_s.calls (a0 : Int) (a1 : Int) (r : ByteArray) (w : World) (h : wire_Number_s.f a0 a1 = some r) :
    Calls Try.prog 30 #[.int .i64 a0, .int .u64 a1] w fun e w' => e = .returned (.string r) ∧ Below w.heap.size w w' := by
  obtain ⟨k, hk⟩ := wire_Number_s.ev a0 a1 _ h
  exact wire_Number.calls a0 a1 r w hk

end Go.Proofs.Ytohddbiedabmhaa.X
-- by xprint.py, a program of this session, over the kit's print.py
namespace Go.Proofs.Ytohddbiedabmhaa.X
open Go.RowKit Go.Proofs.YtohddbiedabmhaaW.PrintWords Go.Proofs.YtohddbiedabmhaaW.PrintLast Go.Proofs.YtohddbiedabmhaaW.PrintMore
attribute [local go_sem] max2_int min2_int max_two min_two max_three min_three max_four min_four   -- for this text's walks alone
set_option linter.unusedVariables false
set_option linter.unusedSimpArgs false

/-! ### agatelaw03_PackBack: function 9 -/
mutual
def agatelaw03_PackBack.l0 : Nat → List Int → List Bool → Int → ByteArray → List Int → List Int → Int → Int → Option (Bool)
  | 0, _, _, _, _, _, _, _, _ => none
  | k + 1, x1, x2, x7, x8, x9, x26, x27, x28 => if x28 < x27 then (if 0 ≤ x28 then (if x28 < (x26.length : Int) then (if x28 < (x2.length : Int) then (agatelaw03_PackBack.j1 k x1 x2 x7 x8 x9 (rd x26 x28) x26 x27 x28 (rdOf false x2 x28)) else (agatelaw03_PackBack.j1 k x1 x2 x7 x8 x9 (rd x26 x28) x26 x27 x28 false)) else (none)) else (none)) else ((pack_Put.f x7 x9).bind fun t112 => (if x8.size + t112.size ≤ 9223372036854775807 then ((pack_Put.f x7 x1).bind fun t113 => ((some (([x8 ++ t112, t113] : List ByteArray) : List ByteArray)).bind fun y114 => (agatelaw03_PackBack.l1 k x1 x7 y114 (y114.length : Int) 0))) else (none)))
def agatelaw03_PackBack.j1 : Nat → List Int → List Bool → Int → ByteArray → List Int → Int → List Int → Int → Int → Bool → Option (Bool)
  | 0, _, _, _, _, _, _, _, _, _, _ => none
  | k + 1, x1, x2, x7, x8, x9, x11, x26, x27, x28, x42 => if x42 = true then ((pack_Put.f x7 x9).bind fun t107 => ((wire_Number_s.f x7 (IntKind.u64.wrap (x11))).bind fun t108 => (if t107.size + t108.size ≤ 9223372036854775807 then (if x8.size + (t107 ++ t108).size ≤ 9223372036854775807 then (agatelaw03_PackBack.l0 k x1 x2 x7 (x8 ++ (t107 ++ t108)) ([] : List Int) x26 x27 (wrap64 (x28 + 1))) else (none)) else (none)))) else (if x9.length < 17592186044416 then (agatelaw03_PackBack.l0 k x1 x2 x7 x8 (x9 ++ [x11]) x26 x27 (wrap64 (x28 + 1))) else (none))
def agatelaw03_PackBack.l1 : Nat → List Int → Int → List ByteArray → Int → Int → Option (Bool)
  | 0, _, _, _, _, _ => none
  | k + 1, x1, x7, x67, x68, x69 => if x69 < x68 then (if 0 ≤ x69 then (if x69 < (x67.length : Int) then ((wire_Fields_s.f (rdOf ByteArray.empty x67 x69)).bind fun bt119 => (if bt119.2 = 0 then ((pack_Ints_s.f bt119.1 x7).bind fun bt123 => (if bt123.2 = 0 then ((agatelaw03_Ints_s.f bt123.1 x1).bind fun t127 => (if t127 = true then (agatelaw03_PackBack.l1 k x1 x7 x67 x68 (wrap64 (x69 + 1))) else (some false))) else (some false))) else (some false))) else (none)) else (none)) else ((agatelaw03_Awake_s.f).bind fun t117 => (some t117))
end
def agatelaw03_PackBack.f (k : Nat) (a0 : Int) (l1 : List Int) (l2 : List Bool) : Option (Bool) := if (l1.length : Int) > 300 then ((agatelaw03_Awake_s.f).bind fun t101 => (some t101)) else (agatelaw03_PackBack.l0 k l1 l2 (wrap64 ((wrap64 (Int.tmod a0 100)) + 1)) (⟨#[]⟩ : ByteArray) (([] : List Int)) l1 (l1.length : Int) 0)
theorem agatelaw03_PackBack.mono_l : ∀ k, (∀ y0 y1 y2 y3 y4 y5 y6 y7, LeO (agatelaw03_PackBack.l0 k y0 y1 y2 y3 y4 y5 y6 y7) (agatelaw03_PackBack.l0 (k + 1) y0 y1 y2 y3 y4 y5 y6 y7)) ∧ (∀ y0 y1 y2 y3 y4 y5 y6 y7 y8 y9, LeO (agatelaw03_PackBack.j1 k y0 y1 y2 y3 y4 y5 y6 y7 y8 y9) (agatelaw03_PackBack.j1 (k + 1) y0 y1 y2 y3 y4 y5 y6 y7 y8 y9)) ∧ (∀ y0 y1 y2 y3 y4, LeO (agatelaw03_PackBack.l1 k y0 y1 y2 y3 y4) (agatelaw03_PackBack.l1 (k + 1) y0 y1 y2 y3 y4))
  | 0 => ⟨fun _ _ _ _ _ _ _ _ r h => by simp [agatelaw03_PackBack.l0] at h, fun _ _ _ _ _ _ _ _ _ _ r h => by simp [agatelaw03_PackBack.j1] at h, fun _ _ _ _ _ r h => by simp [agatelaw03_PackBack.l1] at h⟩
  | k + 1 => by
    obtain ⟨ih0, ih1, ih2⟩ := agatelaw03_PackBack.mono_l k
    refine ⟨?_, ?_, ?_⟩
    · intro y0 y1 y2 y3 y4 y5 y6 y7
      unfold agatelaw03_PackBack.l0
      repeat' first
      | (with_reducible exact ih0 _ _ _ _ _ _ _ _)
      | (with_reducible exact ih1 _ _ _ _ _ _ _ _ _ _)
      | (with_reducible exact ih2 _ _ _ _ _)
      | (with_reducible exact LeO.refl _)
      | (with_reducible exact LeO.none _)
      | (with_reducible refine LeO.ite ?_ ?_)
      | (with_reducible refine LeO.bind ?_ (fun _ => ?_))
      | exact ih0 _ _ _ _ _ _ _ _
      | exact ih1 _ _ _ _ _ _ _ _ _ _
      | exact ih2 _ _ _ _ _
      | exact LeO.none _
      | refine LeO.ite ?_ ?_
      | refine LeO.bind ?_ (fun _ => ?_)
    · intro y0 y1 y2 y3 y4 y5 y6 y7 y8 y9
      unfold agatelaw03_PackBack.j1
      repeat' first
      | (with_reducible exact ih0 _ _ _ _ _ _ _ _)
      | (with_reducible exact ih1 _ _ _ _ _ _ _ _ _ _)
      | (with_reducible exact ih2 _ _ _ _ _)
      | (with_reducible exact LeO.refl _)
      | (with_reducible exact LeO.none _)
      | (with_reducible refine LeO.ite ?_ ?_)
      | (with_reducible refine LeO.bind ?_ (fun _ => ?_))
      | exact ih0 _ _ _ _ _ _ _ _
      | exact ih1 _ _ _ _ _ _ _ _ _ _
      | exact ih2 _ _ _ _ _
      | exact LeO.none _
      | refine LeO.ite ?_ ?_
      | refine LeO.bind ?_ (fun _ => ?_)
    · intro y0 y1 y2 y3 y4
      unfold agatelaw03_PackBack.l1
      repeat' first
      | (with_reducible exact ih0 _ _ _ _ _ _ _ _)
      | (with_reducible exact ih1 _ _ _ _ _ _ _ _ _ _)
      | (with_reducible exact ih2 _ _ _ _ _)
      | (with_reducible exact LeO.refl _)
      | (with_reducible exact LeO.none _)
      | (with_reducible refine LeO.ite ?_ ?_)
      | (with_reducible refine LeO.bind ?_ (fun _ => ?_))
      | exact ih0 _ _ _ _ _ _ _ _
      | exact ih1 _ _ _ _ _ _ _ _ _ _
      | exact ih2 _ _ _ _ _
      | exact LeO.none _
      | refine LeO.ite ?_ ?_
      | refine LeO.bind ?_ (fun _ => ?_)
theorem agatelaw03_PackBack.mono : ∀ a0 a1 a2 k, LeO (agatelaw03_PackBack.f k a0 a1 a2) (agatelaw03_PackBack.f (k + 1) a0 a1 a2) := by
  intro a0 a1 a2 k
  obtain ⟨ih0, ih1, ih2⟩ := agatelaw03_PackBack.mono_l k
  unfold agatelaw03_PackBack.f
  repeat' first
      | (with_reducible exact ih0 _ _ _ _ _ _ _ _)
      | (with_reducible exact ih1 _ _ _ _ _ _ _ _ _ _)
      | (with_reducible exact ih2 _ _ _ _ _)
      | (with_reducible exact LeO.refl _)
      | (with_reducible exact LeO.none _)
      | (with_reducible refine LeO.ite ?_ ?_)
      | (with_reducible refine LeO.bind ?_ (fun _ => ?_))
      | exact ih0 _ _ _ _ _ _ _ _
      | exact ih1 _ _ _ _ _ _ _ _ _ _
      | exact ih2 _ _ _ _ _
      | exact LeO.none _
      | refine LeO.ite ?_ ?_
      | refine LeO.bind ?_ (fun _ => ?_)
set_option maxHeartbeats 8000000 in
set_option maxRecDepth 100000 in
theorem agatelaw03_PackBack.calls (k : Nat) (a0 : Int) (A1 : Option Addr) (c1 : Nat) (l1 : List Int) (A2 : Option Addr) (c2 : Nat) (l2 : List Bool) (r : Bool) (w : World) (hr1 : Kd.C (Kd.int .i64) w A1 l1.length l1) (hc1 : l1.length ≤ c1) (hr2 : Kd.C Kd.bool w A2 l2.length l2) (hc2 : l2.length ≤ c2) (h : agatelaw03_PackBack.f k a0 l1 l2 = some r) :
    Calls Try.prog 9 #[.int .u8 a0, .slice A1 l1.length c1, .slice A2 l2.length c2] w fun e w' => e = .returned (.bool r) ∧ Below w.heap.size w w' := by
  have HR1 := Aside0.mk hr1
  have HC1 := Aside0.mk hc1
  clear hr1 hc1
  have HR2 := Aside0.mk hr2
  have HC2 := Aside0.mk hc2
  clear hr2 hc2
  have HB := Aside0.mk (Below.refl w.heap.size w)
  have H : (if (l1.length : Int) > 300 then ((agatelaw03_Awake_s.f).bind fun t101 => (some t101)) else (agatelaw03_PackBack.l0 k l1 l2 (wrap64 ((wrap64 (Int.tmod a0 100)) + 1)) (⟨#[]⟩ : ByteArray) (([] : List Int)) l1 (l1.length : Int) 0)) = some r := h
  clear h
  by_cases c4 : (l1.length : Int) > 300
  · rw [if_pos c4] at H
    have c4b0 : decide (300 < (l1.length : Int)) = true := decide_eq_true c4
    have c4b1 : decide (300 < l1.length) = true := decide_eq_true (by omega)
    clear c4
    replace H := Option.bind_eq_some_iff.mp H
    obtain ⟨t101, A50, H⟩ := H
    replace H : (some t101) = some r := H
    have A5 := Aside0.mk A50
    clear A50
    obtain rfl := Option.some.inj H
    go_enter Try.func9, Try.ntmps9
    go_wp2_with (first | ((with_reducible refine gate_callee (f := 34) rfl ?_); refine goesL_ (some 20) rfl rfl Try.func34 (by kernel_rfl) rfl #[] rfl (by (try simp only [List.map_toArray, List.map_cons, List.map_nil]); first | done | rfl | (simp only [List.length_drop, List.length_take]; rfl)) ?_; (with_reducible refine (agatelaw03_Awake_s.calls  t101 _ A5.out).mono ?_); rintro e w6 ⟨rfl, hb⟩; refine ⟨_, rfl, ?_⟩; have n0_ := Aside0.mk (below_step (by repeat (first | (with_reducible first | exact HB.out | apply below_alloc | apply pw_below_drewN | apply below_drew1) | exact HB.out)) hb); clear HB; have HB := n0_; clear n0_; (try clear hb); (try clear hb2); (try clear hk); (try clear hi)))
    go_ret
    exact ⟨by first | rfl | (simp [errW_none, errW_some] <;> rfl) | (simp [*, errW_none, errW_some] <;> rfl), by repeat (first | (with_reducible first | exact HB.out | apply below_alloc | apply pw_below_drewN | apply below_drew1) | exact HB.out)⟩
  · rw [if_neg c4] at H
    have c4b0 : decide (300 < (l1.length : Int)) = false := decide_eq_false c4
    have c4b1 : decide (300 < l1.length) = false := decide_eq_false (by omega)
    clear c4
    obtain ⟨y102, hy102⟩ : ∃ y_ : List Int, y_ = (([] : List Int)) := ⟨_, rfl⟩
    replace H : (agatelaw03_PackBack.l0 k l1 l2 (wrap64 ((wrap64 (Int.tmod a0 100)) + 1)) (⟨#[]⟩ : ByteArray) y102 l1 (l1.length : Int) 0) = some r := by first | (rw [hy102]; with_reducible exact H) | (have H2_ := (Option.bind_some _ _).symm.trans H; rw [hy102]; with_reducible exact H2_) | (have H2_ := (Option.bind_some _ _).symm.trans H; with_reducible exact H2_) | with_reducible exact H | (rw [hy102]; exact H) | exact H
    have Ny102 := Aside0.mk hy102
    clear hy102
    have H' := Aside0.mk H
    clear H
    go_enter Try.func9, Try.ntmps9
    go_wp2_with (first | ((with_reducible refine gate_dst (N := 25) rfl ?_); refine Kd.R_lit (Kd.int .i64) _ 2 ?hg (N := 25) ?hd (xs := ([] : List Int)) (inner := []) (ok := fun _ => True) (okp := fun _ => True) ?hr ?hp (fun _ hk => hk) trivial (Below.refl _ _) (Nat.le_refl _) (by simp) ?_; (case hd => rfl); (case hg => rfl); (case hr => first | (go_simp; done) | (go_simp; rfl)); (case hp => exact (Reps.none _ _)); intro v103 w7 ho8 hb hg_ hnew_; clear hg_ hnew_; (first | rw [← Ny102.out] at ho8 | (simp only [Int.reduceToNat] at ho8; rw [← Ny102.out] at ho8)); have n0_ := Aside0.mk (Kd.R_lower ho8 (below_size (by repeat (first | (with_reducible first | exact HB.out | apply below_alloc | apply pw_below_drewN | apply below_drew1) | exact HB.out)))); have n1_ := Aside0.mk (below_step (by repeat (first | (with_reducible first | exact HB.out | apply below_alloc | apply pw_below_drewN | apply below_drew1) | exact HB.out)) hb); clear HB; have HO104 := n0_; have HB := n1_; clear n0_ n1_; clear hb ho8))
    go_loopg [8, 9, 28] k (fun kq v8 v9 v28 w' => ∃ (x8_1 : ByteArray) (x9_1 : List Int) (x28_1 : Int), v8 = .string x8_1 ∧ v28 = .int .i64 x28_1 ∧ Aside0 (agatelaw03_PackBack.l0 kq l1 l2 (wrap64 ((wrap64 (Int.tmod a0 100)) + 1)) x8_1 x9_1 l1 (l1.length : Int) x28_1 = some r) ∧ Aside0 (kq ≤ k) ∧ Aside0 (Kd.R (Kd.int .i64) 2 w' w.heap.size (fun _ => True) v9 x9_1) ∧ Aside0 (Below w.heap.size w w'))
    case atStart => exact ⟨((⟨#[]⟩ : ByteArray)), (y102), (0), (by first | rfl | (simp; done) | (simp [*]; done)), (by first | rfl | (simp; done) | (simp [*]; done)), H', ⟨Nat.le_refl _⟩, ⟨by (with_reducible repeat (first | apply Kd.R_alloc | apply Kd.R_drewN | apply Kd.R_drew)); exact HO104.out⟩, ⟨by repeat (first | (with_reducible first | exact HB.out | apply below_alloc | apply pw_below_drewN | apply below_drew1) | exact HB.out)⟩⟩
    case round =>
      clear H'
      try clear c1
      try clear c2
      try clear p2
      try clear c3
      try clear c4
      try clear c4b0
      try clear c4b1
      try clear p6
      obtain ⟨x8_1, x9_1, x28_1, rfl, rfl, HA, HK1, HO_9, HB⟩ := hrel
      cases gk with
      | zero => exact absurd HA.out (by simp [agatelaw03_PackBack.l0])
      | succ k1 =>
        have H := HA.out
        clear HA
        simp only [agatelaw03_PackBack.l0] at H
        by_cases c9 : x28_1 < (l1.length : Int)
        · rw [if_pos c9] at H
          have c9b0 : decide (x28_1 < (l1.length : Int)) = true := decide_eq_true c9
          clear c9
          by_cases c10 : 0 ≤ x28_1
          · rw [if_pos c10] at H
            have c10b0 : decide (0 ≤ x28_1) = true := decide_eq_true c10
            clear c10
            by_cases c11 : x28_1 < (l1.length : Int)
            · rw [if_pos c11] at H
              have c11b0 : decide (x28_1 < (l1.length : Int)) = true := decide_eq_true c11
              clear c11
              have HC12 := Aside0.mk H
              clear H
              have p105 : 0 ≤ (x28_1 : Int) := of_decide_eq_true (by first | (with_reducible assumption) | assumption)
              have q105 : x28_1 < (l1.length : Int) := of_decide_eq_true (by first | (with_reducible assumption) | assumption)
              obtain ⟨ad105, e105, hx105_0⟩ := Kd.at_int HR1.out x28_1 p105 q105
              cases e105
              replace hx105_0 := (HB.out.cell (World.block_lt_of_cell? w _ hx105_0)).trans hx105_0
              replace p105 := eq_true p105
              replace q105 := eq_true q105
              go_upto_region 8 with (fail)
              go_cut [42] (fun v42 wc => ∃ (kq : Nat) (x42_11 : Bool), v42 = .bool x42_11 ∧ Aside0 (agatelaw03_PackBack.j1 kq l1 l2 (wrap64 ((wrap64 (Int.tmod a0 100)) + 1)) x8_1 x9_1 (rd l1 x28_1) l1 (l1.length : Int) x28_1 x42_11 = some r) ∧ Aside0 (kq ≤ k1) ∧ Aside0 (Kd.R (Kd.int .i64) 2 wc w.heap.size (fun _ => True) u9 x9_1) ∧ Aside0 (Below w.heap.size w wc))
              case first =>
                have H := HC12.out
                clear HC12
                by_cases c13 : x28_1 < (l2.length : Int)
                · rw [if_pos c13] at H
                  have c13b0 : decide (x28_1 < (l2.length : Int)) = true := decide_eq_true c13
                  clear c13
                  (first | rw [c13b0] | (simp only [i64_w, i32_w]; rw [c13b0]) | skip)
                  have H' := Aside0.mk H
                  clear H
                  have p106 : 0 ≤ (x28_1 : Int) := of_decide_eq_true (by first | (with_reducible assumption) | assumption)
                  have q106 : x28_1 < (l2.length : Int) := of_decide_eq_true (by first | (with_reducible assumption) | assumption)
                  obtain ⟨ad106, e106, hx106_0⟩ := Kd.at_bool HR2.out x28_1 p106 q106
                  cases e106
                  replace hx106_0 := (HB.out.cell (World.block_lt_of_cell? w _ hx106_0)).trans hx106_0
                  replace p106 := eq_true p106
                  replace q106 := eq_true q106
                  go_wp2
                  go_meet
                  case rel => exact ⟨_, (rdOf false l2 x28_1), (by first | rfl | (simp; done) | (simp [*]; done)), H', ⟨by have := HK1.out; first | omega | exact Nat.le_refl _⟩, ⟨by (with_reducible repeat (first | apply Kd.R_alloc | apply Kd.R_drewN | apply Kd.R_drew)); exact HO_9.out⟩, ⟨by repeat (first | (with_reducible first | exact HB.out | apply below_alloc | apply pw_below_drewN | apply below_drew1) | exact HB.out)⟩⟩
                · rw [if_neg c13] at H
                  have c13b0 : decide (x28_1 < (l2.length : Int)) = false := decide_eq_false c13
                  clear c13
                  (first | rw [c13b0] | (simp only [i64_w, i32_w]; rw [c13b0]) | skip)
                  have H' := Aside0.mk H
                  clear H
                  go_wp2
                  go_meet
                  case rel => exact ⟨_, (false), (by first | rfl | (simp; done) | (simp [*]; done)), H', ⟨by have := HK1.out; first | omega | exact Nat.le_refl _⟩, ⟨by (with_reducible repeat (first | apply Kd.R_alloc | apply Kd.R_drewN | apply Kd.R_drew)); exact HO_9.out⟩, ⟨by repeat (first | (with_reducible first | exact HB.out | apply below_alloc | apply pw_below_drewN | apply below_drew1) | exact HB.out)⟩⟩
              case rest =>
                clear HC12
                try clear c1
                try clear p1
                try clear q1
                try clear hx1
                try clear c2
                try clear p2
                try clear c3
                try clear c4
                try clear c4b0
                try clear c4b1
                try clear p6
                try clear c9
                try clear c9b0
                try clear c10
                try clear c10b0
                try clear p10
                try clear q10
                try clear hx10
                try clear c11
                try clear c11b0
                try clear c13
                try clear c13b0
                try clear hx105_0
                try clear hx106_0
                try clear p105
                try clear p106
                try clear p2
                try clear p6
                try clear q105
                try clear q106
                obtain ⟨kq, x42_11, rfl, HA, HJ11, HO_9, HB⟩ := hcut
                cases kq with
                | zero => exact absurd HA.out (by simp [agatelaw03_PackBack.j1])
                | succ kj11 =>
                  have H := HA.out
                  clear HA
                  simp only [agatelaw03_PackBack.j1] at H
                  by_cases c14 : x42_11 = true
                  · subst c14
                    have H1 : ((pack_Put.f (wrap64 ((wrap64 (Int.tmod a0 100)) + 1)) x9_1).bind fun t107 => ((wire_Number_s.f (wrap64 ((wrap64 (Int.tmod a0 100)) + 1)) (IntKind.u64.wrap ((rd l1 x28_1)))).bind fun t108 => (if t107.size + t108.size ≤ 9223372036854775807 then (if x8_1.size + (t107 ++ t108).size ≤ 9223372036854775807 then (agatelaw03_PackBack.l0 kj11 l1 l2 (wrap64 ((wrap64 (Int.tmod a0 100)) + 1)) (x8_1 ++ (t107 ++ t108)) ([] : List Int) l1 (l1.length : Int) (wrap64 (x28_1 + 1))) else (none)) else (none)))) = some r := by rw [if_pos rfl] at H; exact H
                    clear H
                    have H := H1
                    clear H1
                    replace H := Option.bind_eq_some_iff.mp H
                    obtain ⟨t107, A150, H⟩ := H
                    replace H : ((wire_Number_s.f (wrap64 ((wrap64 (Int.tmod a0 100)) + 1)) (IntKind.u64.wrap ((rd l1 x28_1)))).bind fun t108 => (if t107.size + t108.size ≤ 9223372036854775807 then (if x8_1.size + (t107 ++ t108).size ≤ 9223372036854775807 then (agatelaw03_PackBack.l0 kj11 l1 l2 (wrap64 ((wrap64 (Int.tmod a0 100)) + 1)) (x8_1 ++ (t107 ++ t108)) ([] : List Int) l1 (l1.length : Int) (wrap64 (x28_1 + 1))) else (none)) else (none))) = some r := H
                    have A15 := Aside0.mk A150
                    clear A150
                    replace H := Option.bind_eq_some_iff.mp H
                    obtain ⟨t108, A160, H⟩ := H
                    replace H : (if t107.size + t108.size ≤ 9223372036854775807 then (if x8_1.size + (t107 ++ t108).size ≤ 9223372036854775807 then (agatelaw03_PackBack.l0 kj11 l1 l2 (wrap64 ((wrap64 (Int.tmod a0 100)) + 1)) (x8_1 ++ (t107 ++ t108)) ([] : List Int) l1 (l1.length : Int) (wrap64 (x28_1 + 1))) else (none)) else (none)) = some r := H
                    have A16 := Aside0.mk A160
                    clear A160
                    by_cases c17 : t107.size + t108.size ≤ 9223372036854775807
                    · rw [if_pos c17] at H
                      have c17b0 := eq_true c17
                      have c17b1 : decide (t107.size + t108.size ≤ 9223372036854775807) = true := decide_eq_true c17
                      try have c17b2 : (9223372036854775807 < t107.size + t108.size) = False := eq_false (Nat.not_lt.2 c17)
                      try have c17b3 := c17b2
                      try simp only [ByteArray.size_append] at c17b3
                      by_cases c18 : x8_1.size + (t107 ++ t108).size ≤ 9223372036854775807
                      · rw [if_pos c18] at H
                        have c18b0 := eq_true c18
                        have c18b1 : decide (x8_1.size + (t107 ++ t108).size ≤ 9223372036854775807) = true := decide_eq_true c18
                        try have c18b2 : (9223372036854775807 < x8_1.size + (t107 ++ t108).size) = False := eq_false (Nat.not_lt.2 c18)
                        try have c18b3 := c18b2
                        try simp only [ByteArray.size_append] at c18b3
                        have H' := Aside0.mk H
                        clear H
                        obtain ⟨Ao19, co19, eo19⟩ := Kd.R_slice HO_9.out
                        subst eo19
                        go_wp2_with (first | ((with_reducible refine gate_callee (f := 35) rfl ?_); refine goesL_ (some 46) rfl rfl Try.func35 (by kernel_rfl) rfl #[.int .i64 (wrap64 ((wrap64 (Int.tmod a0 100)) + 1)), .slice Ao19 x9_1.length co19] rfl (by (try simp only [List.map_toArray, List.map_cons, List.map_nil]); first | done | rfl | (simp only [List.length_drop, List.length_take]; rfl)) ?_; (with_reducible refine (pack_Put.calls (wrap64 ((wrap64 (Int.tmod a0 100)) + 1)) _ _ x9_1 t107 _ ?side1 ?side2 A15.out).mono ?_); (case side1 => repeat (first | exact (Kd.R_reads' HO_9.out).2.2 | (with_reducible refine Kd.C_alloc ?_ _) | (with_reducible refine Kd.C_drewN ?_ _) | (with_reducible refine Kd.C_drew ?_))); (case side2 => exact (Kd.R_reads' HO_9.out).2.1); rintro e w20 ⟨rfl, hb⟩; refine ⟨_, rfl, ?_⟩; have n0_ := Aside0.mk (Kd.R_below (by (with_reducible repeat (first | apply Kd.R_alloc | apply Kd.R_drewN | apply Kd.R_drew)); exact HO_9.out) hb); have n1_ := Aside0.mk (below_step (by repeat (first | (with_reducible first | exact HB.out | apply below_alloc | apply pw_below_drewN | apply below_drew1) | exact HB.out)) hb); clear HO_9; clear HB; have HO_9 := n0_; have HB := n1_; clear n0_ n1_; (try clear hb); (try clear hb2); (try clear hk); (try clear hi)) | ((with_reducible refine gate_callee (f := 30) rfl ?_); refine goesL_ (some 50) rfl rfl Try.func30 (by kernel_rfl) rfl #[.int .i64 (wrap64 ((wrap64 (Int.tmod a0 100)) + 1)), .int .u64 (IntKind.u64.wrap ((rd l1 x28_1)))] rfl (by (try simp only [List.map_toArray, List.map_cons, List.map_nil]); first | done | rfl | (simp only [List.length_drop, List.length_take]; rfl)) ?_; (with_reducible refine (wire_Number_s.calls (wrap64 ((wrap64 (Int.tmod a0 100)) + 1)) (IntKind.u64.wrap ((rd l1 x28_1))) t108 _ A16.out).mono ?_); rintro e w21 ⟨rfl, hb⟩; refine ⟨_, rfl, ?_⟩; have n0_ := Aside0.mk (Kd.R_below (by (with_reducible repeat (first | apply Kd.R_alloc | apply Kd.R_drewN | apply Kd.R_drew)); exact HO_9.out) hb); have n1_ := Aside0.mk (below_step (by repeat (first | (with_reducible first | exact HB.out | apply below_alloc | apply pw_below_drewN | apply below_drew1) | exact HB.out)) hb); clear HO_9; clear HB; have HO_9 := n0_; have HB := n1_; clear n0_ n1_; (try clear hb); (try clear hb2); (try clear hk); (try clear hi)))
                        go_roundg kj11
                        case measure => have := HK1.out; have := HJ11.out; omega
                        case rel => exact ⟨(x8_1 ++ (t107 ++ t108)), (([] : List Int)), (wrap64 (x28_1 + 1)), (by first | rfl | (simp; done) | (simp [*]; done)), (by first | rfl | (simp; done) | (simp [*]; done)), H', ⟨by have := HK1.out; have := HJ11.out; omega⟩, ⟨by first | exact Kd.R_nil _ _ _ _ _ | exact Kd.N_nil _ _ _ _ _ | exact Kd.V_nil _ _ _ _ _ | exact Kd.Q_nil _ _ _ _ _ | exact Kd.S_nil _ _ _ _ _⟩, ⟨by repeat (first | (with_reducible first | exact HB.out | apply below_alloc | apply pw_below_drewN | apply below_drew1) | exact HB.out)⟩⟩
                      · rw [if_neg c18] at H
                        exact absurd H (by simp)
                    · rw [if_neg c17] at H
                      exact absurd H (by simp)
                  · replace c14 := Bool.eq_false_iff.mpr c14
                    subst c14
                    have H1 : (if x9_1.length < 17592186044416 then (agatelaw03_PackBack.l0 kj11 l1 l2 (wrap64 ((wrap64 (Int.tmod a0 100)) + 1)) x8_1 (x9_1 ++ [(rd l1 x28_1)]) l1 (l1.length : Int) (wrap64 (x28_1 + 1))) else (none)) = some r := by rw [if_neg (show ¬ (false = true) by decide)] at H; exact H
                    clear H
                    have H := H1
                    clear H1
                    by_cases c22 : x9_1.length < 17592186044416
                    · rw [if_pos c22] at H
                      have LMc22 := Aside0.mk c22
                      clear c22
                      obtain ⟨y109, hy109⟩ : ∃ y_ : List Int, y_ = (x9_1 ++ [(rd l1 x28_1)]) := ⟨_, rfl⟩
                      replace H : (agatelaw03_PackBack.l0 kj11 l1 l2 (wrap64 ((wrap64 (Int.tmod a0 100)) + 1)) x8_1 y109 l1 (l1.length : Int) (wrap64 (x28_1 + 1))) = some r := by first | (rw [hy109]; with_reducible exact H) | (have H2_ := (Option.bind_some _ _).symm.trans H; rw [hy109]; with_reducible exact H2_) | (have H2_ := (Option.bind_some _ _).symm.trans H; with_reducible exact H2_) | with_reducible exact H | (rw [hy109]; exact H) | exact H
                      have Ny109 := Aside0.mk hy109
                      clear hy109
                      have H' := Aside0.mk H
                      clear H
                      go_wp2_with (first | ((with_reducible refine gate_builtin (b := .append) (xs := #[.tmp 53, .tmp 55]) rfl ?_); at_builtin; refine Kd.R_append (Kd.int .i64) (w0 := w) w.heap.size rfl (.tmp 53) (.tmp 55) 58 2 (.int .i64 0) 8 rfl Try.underlying58 info2 rfl (by decide) (by omega) u9 x9_1 (rd l1 x28_1) [.int .i64 (rd l1 x28_1)] (fun _ => True) (fun _ => False) rfl rfl ?aP (fun _ hk => hk.elim) ?aF ?aO ?aB ?aS ?aL ?_; (case aP => exact rfl); (case aB => exact (by repeat (first | (with_reducible first | exact HB.out | apply below_alloc | apply pw_below_drewN | apply below_drew1) | exact HB.out))); (case aF => exact (fun _ _ => trivial)); (case aO => exact (by (with_reducible repeat (first | apply Kd.R_alloc | apply Kd.R_drewN | apply Kd.R_drew)); exact HO_9.out)); (case aS => exact (below_size (by repeat (first | (with_reducible first | exact HB.out | apply below_alloc | apply pw_below_drewN | apply below_drew1) | exact HB.out)))); (case aL => have := LMc22.out; omega); intro v110 w23 ho hb hg hat; rw [← Ny109.out] at ho; have n0_ := Aside0.mk (hb); have n1_ := Aside0.mk (ho); clear HB; clear HO_9; have HB := n0_; have HO111 := n1_; clear n0_ n1_; clear ho hb hg hat))
                      go_roundg kj11
                      case measure => have := HK1.out; have := HJ11.out; omega
                      case rel => exact ⟨(x8_1), (y109), (wrap64 (x28_1 + 1)), (by first | rfl | (simp; done) | (simp [*]; done)), (by first | rfl | (simp; done) | (simp [*]; done)), H', ⟨by have := HK1.out; have := HJ11.out; omega⟩, ⟨by (with_reducible repeat (first | apply Kd.R_alloc | apply Kd.R_drewN | apply Kd.R_drew)); exact HO111.out⟩, ⟨by repeat (first | (with_reducible first | exact HB.out | apply below_alloc | apply pw_below_drewN | apply below_drew1) | exact HB.out)⟩⟩
                    · rw [if_neg c22] at H
                      exact absurd H (by simp)
            · rw [if_neg c11] at H
              exact absurd H (by simp)
          · rw [if_neg c10] at H
            exact absurd H (by simp)
        · rw [if_neg c9] at H
          have c9b0 : decide (x28_1 < (l1.length : Int)) = false := decide_eq_false c9
          clear c9
          replace H := Option.bind_eq_some_iff.mp H
          obtain ⟨t112, A240, H⟩ := H
          replace H : (if x8_1.size + t112.size ≤ 9223372036854775807 then ((pack_Put.f (wrap64 ((wrap64 (Int.tmod a0 100)) + 1)) l1).bind fun t113 => ((some (([x8_1 ++ t112, t113] : List ByteArray) : List ByteArray)).bind fun y114 => (agatelaw03_PackBack.l1 k1 l1 (wrap64 ((wrap64 (Int.tmod a0 100)) + 1)) y114 (y114.length : Int) 0))) else (none)) = some r := H
          have A24 := Aside0.mk A240
          clear A240
          by_cases c25 : x8_1.size + t112.size ≤ 9223372036854775807
          · rw [if_pos c25] at H
            have c25b0 := eq_true c25
            have c25b1 : decide (x8_1.size + t112.size ≤ 9223372036854775807) = true := decide_eq_true c25
            try have c25b2 : (9223372036854775807 < x8_1.size + t112.size) = False := eq_false (Nat.not_lt.2 c25)
            try have c25b3 := c25b2
            try simp only [ByteArray.size_append] at c25b3
            replace H := Option.bind_eq_some_iff.mp H
            obtain ⟨t113, A260, H⟩ := H
            replace H : ((some (([x8_1 ++ t112, t113] : List ByteArray) : List ByteArray)).bind fun y114 => (agatelaw03_PackBack.l1 k1 l1 (wrap64 ((wrap64 (Int.tmod a0 100)) + 1)) y114 (y114.length : Int) 0)) = some r := H
            have A26 := Aside0.mk A260
            clear A260
            obtain ⟨y114, hy114⟩ : ∃ y_ : List ByteArray, y_ = (([x8_1 ++ t112, t113] : List ByteArray)) := ⟨_, rfl⟩
            replace H : (agatelaw03_PackBack.l1 k1 l1 (wrap64 ((wrap64 (Int.tmod a0 100)) + 1)) y114 (y114.length : Int) 0) = some r := by first | (rw [hy114]; with_reducible exact H) | (have H2_ := (Option.bind_some _ _).symm.trans H; rw [hy114]; with_reducible exact H2_) | (have H2_ := (Option.bind_some _ _).symm.trans H; with_reducible exact H2_) | with_reducible exact H | (rw [hy114]; exact H) | exact H
            have Ny114 := Aside0.mk hy114
            clear hy114
            have H' := Aside0.mk H
            clear H
            obtain ⟨Ao27, co27, eo27⟩ := Kd.R_slice HO_9.out
            subst eo27
            go_wp2_with (first | ((with_reducible refine gate_callee (f := 35) rfl ?_); refine goesL_ (some 61) rfl rfl Try.func35 (by kernel_rfl) rfl #[.int .i64 (wrap64 ((wrap64 (Int.tmod a0 100)) + 1)), .slice Ao27 x9_1.length co27] rfl (by (try simp only [List.map_toArray, List.map_cons, List.map_nil]); first | done | rfl | (simp only [List.length_drop, List.length_take]; rfl)) ?_; (with_reducible refine (pack_Put.calls (wrap64 ((wrap64 (Int.tmod a0 100)) + 1)) _ _ x9_1 t112 _ ?side1 ?side2 A24.out).mono ?_); (case side1 => repeat (first | exact (Kd.R_reads' HO_9.out).2.2 | (with_reducible refine Kd.C_alloc ?_ _) | (with_reducible refine Kd.C_drewN ?_ _) | (with_reducible refine Kd.C_drew ?_))); (case side2 => exact (Kd.R_reads' HO_9.out).2.1); rintro e w28 ⟨rfl, hb⟩; refine ⟨_, rfl, ?_⟩; have n0_ := Aside0.mk (Kd.R_below (by (with_reducible repeat (first | apply Kd.R_alloc | apply Kd.R_drewN | apply Kd.R_drew)); exact HO_9.out) hb); have n1_ := Aside0.mk (below_step (by repeat (first | (with_reducible first | exact HB.out | apply below_alloc | apply pw_below_drewN | apply below_drew1) | exact HB.out)) hb); clear HO_9; clear HB; have HO_9 := n0_; have HB := n1_; clear n0_ n1_; (try clear hb); (try clear hb2); (try clear hk); (try clear hi)) | ((with_reducible refine gate_callee (f := 35) rfl ?_); refine goesL_ (some 66) rfl rfl Try.func35 (by kernel_rfl) rfl #[.int .i64 (wrap64 ((wrap64 (Int.tmod a0 100)) + 1)), .slice A1 l1.length c1] rfl (by (try simp only [List.map_toArray, List.map_cons, List.map_nil]); first | done | rfl | (simp only [List.length_drop, List.length_take]; rfl)) ?_; (with_reducible refine (pack_Put.calls (wrap64 ((wrap64 (Int.tmod a0 100)) + 1)) _ _ l1 t113 _ ?side1 ?side2 A26.out).mono ?_); (case side1 => repeat (first | exact (Kd.C_below HR1.out HB.out) | (with_reducible refine Kd.C_alloc ?_ _) | (with_reducible refine Kd.C_drewN ?_ _) | (with_reducible refine Kd.C_drew ?_))); (case side2 => exact HC1.out); rintro e w29 ⟨rfl, hb⟩; refine ⟨_, rfl, ?_⟩; have n0_ := Aside0.mk (Kd.R_below (by (with_reducible repeat (first | apply Kd.R_alloc | apply Kd.R_drewN | apply Kd.R_drew)); exact HO_9.out) hb); have n1_ := Aside0.mk (below_step (by repeat (first | (with_reducible first | exact HB.out | apply below_alloc | apply pw_below_drewN | apply below_drew1) | exact HB.out)) hb); clear HO_9; clear HB; have HO_9 := n0_; have HB := n1_; clear n0_ n1_; (try clear hb); (try clear hb2); (try clear hk); (try clear hi)) | ((with_reducible refine gate_dst (N := 67) rfl ?_); refine Kd.R_lit Kd.string _ 9 ?hg (N := 67) ?hd (xs := ([x8_1 ++ t112, t113] : List ByteArray)) (inner := [.string (x8_1 ++ t112), .string t113]) (ok := fun _ => True) (okp := fun _ => True) ?hr ?hp (fun _ hk => hk) trivial (Below.refl _ _) (Nat.le_refl _) (by simp) ?_; (case hd => rfl); (case hg => rfl); (case hr => first | (go_simp; done) | (go_simp; rfl)); (case hp => exact (Reps.one (show Kd.M Kd.string _ _ _ (x8_1 ++ t112) [.string (x8_1 ++ t112)] from rfl) (Reps.one (show Kd.M Kd.string _ _ _ t113 [.string t113] from rfl) (Reps.none _ _)))); intro v115 w30 ho31 hb hg_ hnew_; clear hg_ hnew_; (first | rw [← Ny114.out] at ho31 | (simp only [Int.reduceToNat] at ho31; rw [← Ny114.out] at ho31)); have n0_ := Aside0.mk (Kd.R_below (by (with_reducible repeat (first | apply Kd.R_alloc | apply Kd.R_drewN | apply Kd.R_drew)); exact HO_9.out) hb); have n1_ := Aside0.mk (Kd.R_lower ho31 (below_size (by repeat (first | (with_reducible first | exact HB.out | apply below_alloc | apply pw_below_drewN | apply below_drew1) | exact HB.out)))); have n2_ := Aside0.mk (below_step (by repeat (first | (with_reducible first | exact HB.out | apply below_alloc | apply pw_below_drewN | apply below_drew1) | exact HB.out)) hb); clear HO_9; clear HB; have HO_9 := n0_; have HO116 := n1_; have HB := n2_; clear n0_ n1_ n2_; clear hb ho31; obtain ⟨Ao32, co32, eo32⟩ := Kd.R_slice HO116.out; subst eo32))
            go_loopg [69] k1 (fun kq v69 w' => ∃ (x69_2 : Int), v69 = .int .i64 x69_2 ∧ Aside0 (agatelaw03_PackBack.l1 kq l1 (wrap64 ((wrap64 (Int.tmod a0 100)) + 1)) y114 (y114.length : Int) x69_2 = some r) ∧ Aside0 (kq ≤ k1) ∧ Aside0 (Kd.R Kd.string 9 w' w.heap.size (fun _ => True) (.slice Ao32 y114.length co32) y114) ∧ Aside0 (Below w.heap.size w w'))
            case atStart => exact ⟨(0), (by first | rfl | (simp; done) | (simp [*]; done)), H', ⟨Nat.le_refl _⟩, ⟨by (with_reducible repeat (first | apply Kd.R_alloc | apply Kd.R_drewN | apply Kd.R_drew)); exact HO116.out⟩, ⟨by repeat (first | (with_reducible first | exact HB.out | apply below_alloc | apply pw_below_drewN | apply below_drew1) | exact HB.out)⟩⟩
            case round =>
              clear H'
              try clear c1
              try clear p1
              try clear q1
              try clear hx1
              try clear c2
              try clear p2
              try clear c3
              try clear c4
              try clear c4b0
              try clear c4b1
              try clear p6
              try clear c9
              try clear c9b0
              try clear c10
              try clear c10b0
              try clear p10
              try clear q10
              try clear hx10
              try clear c11
              try clear c11b0
              try clear c13
              try clear c13b0
              try clear c14
              try clear c17
              try clear c17b0
              try clear c17b1
              try clear c17b2
              try clear c18
              try clear c18b0
              try clear c18b1
              try clear c18b2
              try clear c22
              try clear c25
              try clear c25b0
              try clear c25b1
              try clear c25b2
              try clear c30
              try clear hx105_0
              try clear hx106_0
              try clear p1
              try clear p10
              try clear p105
              try clear p106
              try clear p2
              try clear p6
              try clear q1
              try clear q10
              try clear q105
              try clear q106
              obtain ⟨x69_2, rfl, HA, HK2, HO_67, HB⟩ := hrel
              cases gk with
              | zero => exact absurd HA.out (by simp [agatelaw03_PackBack.l1])
              | succ k2 =>
                have H := HA.out
                clear HA
                simp only [agatelaw03_PackBack.l1] at H
                by_cases c33 : x69_2 < (y114.length : Int)
                · rw [if_pos c33] at H
                  have c33b0 : decide (x69_2 < (y114.length : Int)) = true := decide_eq_true c33
                  clear c33
                  by_cases c34 : 0 ≤ x69_2
                  · rw [if_pos c34] at H
                    have c34b0 : decide (0 ≤ x69_2) = true := decide_eq_true c34
                    clear c34
                    by_cases c35 : x69_2 < (y114.length : Int)
                    · rw [if_pos c35] at H
                      have c35b0 : decide (x69_2 < (y114.length : Int)) = true := decide_eq_true c35
                      clear c35
                      replace H := Option.bind_eq_some_iff.mp H
                      obtain ⟨⟨t119, t120⟩, A360, H⟩ := H
                      replace H : (if t120 = 0 then ((pack_Ints_s.f t119 (wrap64 ((wrap64 (Int.tmod a0 100)) + 1))).bind fun bt123 => (if bt123.2 = 0 then ((agatelaw03_Ints_s.f bt123.1 l1).bind fun t127 => (if t127 = true then (agatelaw03_PackBack.l1 k2 l1 (wrap64 ((wrap64 (Int.tmod a0 100)) + 1)) y114 (y114.length : Int) (wrap64 (x69_2 + 1))) else (some false))) else (some false))) else (some false)) = some r := H
                      have A36 := Aside0.mk A360
                      clear A360
                      by_cases c37 : t120 = 0
                      · rw [if_pos c37] at H
                        have c37b0 : (t120 == 0) = true := beq_iff_eq.mpr c37
                        have c37b1 : (t120 != 0) = false := bne_eq_false_iff_eq.mpr c37
                        clear c37
                        replace H := Option.bind_eq_some_iff.mp H
                        obtain ⟨⟨t123, t124⟩, A380, H⟩ := H
                        replace H : (if t124 = 0 then ((agatelaw03_Ints_s.f t123 l1).bind fun t127 => (if t127 = true then (agatelaw03_PackBack.l1 k2 l1 (wrap64 ((wrap64 (Int.tmod a0 100)) + 1)) y114 (y114.length : Int) (wrap64 (x69_2 + 1))) else (some false))) else (some false)) = some r := H
                        have A38 := Aside0.mk A380
                        clear A380
                        by_cases c39 : t124 = 0
                        · rw [if_pos c39] at H
                          have c39b0 : (t124 == 0) = true := beq_iff_eq.mpr c39
                          have c39b1 : (t124 != 0) = false := bne_eq_false_iff_eq.mpr c39
                          clear c39
                          replace H := Option.bind_eq_some_iff.mp H
                          obtain ⟨t127, A400, H⟩ := H
                          replace H : (if t127 = true then (agatelaw03_PackBack.l1 k2 l1 (wrap64 ((wrap64 (Int.tmod a0 100)) + 1)) y114 (y114.length : Int) (wrap64 (x69_2 + 1))) else (some false)) = some r := H
                          have A40 := Aside0.mk A400
                          clear A400
                          by_cases c41 : t127 = true
                          · subst c41
                            have H1 : (agatelaw03_PackBack.l1 k2 l1 (wrap64 ((wrap64 (Int.tmod a0 100)) + 1)) y114 (y114.length : Int) (wrap64 (x69_2 + 1))) = some r := by rw [if_pos rfl] at H; exact H
                            clear H
                            have H := H1
                            clear H1
                            have H' := Aside0.mk H
                            clear H
                            have p118 : 0 ≤ (x69_2 : Int) := of_decide_eq_true (by first | (with_reducible assumption) | assumption)
                            have q118 : x69_2 < (y114.length : Int) := of_decide_eq_true (by first | (with_reducible assumption) | assumption)
                            obtain ⟨ad118, e118, hx118_0⟩ := Kd.at_string (Kd.R_reads' HO_67.out).2.2 x69_2 p118 q118
                            cases e118
                            replace p118 := eq_true p118
                            replace q118 := eq_true q118
                            go_wp2_with (first | ((with_reducible refine gate_callee (f := 21) rfl ?_); refine goesL_ (some 75) rfl rfl Try.func21 (by kernel_rfl) rfl #[.string (rdOf ByteArray.empty y114 x69_2)] rfl (by (try simp only [List.map_toArray, List.map_cons, List.map_nil]); first | done | rfl | (simp only [List.length_drop, List.length_take]; rfl)) ?_; (with_reducible refine (wire_Fields_s.calls (rdOf ByteArray.empty y114 x69_2) t119 t120 _ A36.out).mono ?_); rintro e w42 ⟨v121, rfl, ho0, hb⟩; refine ⟨_, rfl, ?_⟩; have n0_ := Aside0.mk (Kd.R_below (by (with_reducible repeat (first | apply Kd.R_alloc | apply Kd.R_drewN | apply Kd.R_drew)); exact HO_67.out) hb); have n1_ := Aside0.mk (Kd.R_lower ho0 (below_size (by repeat (first | (with_reducible first | exact HB.out | apply below_alloc | apply pw_below_drewN | apply below_drew1) | exact HB.out)))); have n2_ := Aside0.mk (below_step (by repeat (first | (with_reducible first | exact HB.out | apply below_alloc | apply pw_below_drewN | apply below_drew1) | exact HB.out)) hb); clear HO_67; clear HB; have HO_67 := n0_; have HO122 := n1_; have HB := n2_; clear n0_ n1_ n2_; (try clear hb); (try clear hb2); (try clear hk); (try clear hi); (try clear ho0); obtain ⟨Ao43, co43, eo43⟩ := Kd.R_slice HO122.out; subst eo43) | ((with_reducible refine gate_callee (f := 33) rfl ?_); refine goesL_ (some 83) rfl rfl Try.func33 (by kernel_rfl) rfl #[.slice Ao43 t119.length co43, .int .i64 (wrap64 ((wrap64 (Int.tmod a0 100)) + 1))] rfl (by (try simp only [List.map_toArray, List.map_cons, List.map_nil]); first | done | rfl | (simp only [List.length_drop, List.length_take]; rfl)) ?_; (with_reducible refine (pack_Ints_s.calls _ _ t119 (wrap64 ((wrap64 (Int.tmod a0 100)) + 1)) t123 t124 _ ?side1 ?side2 A38.out).mono ?_); (case side1 => repeat (first | exact (Kd.R_reads' HO122.out).2.2 | (with_reducible refine Kd.C_alloc ?_ _) | (with_reducible refine Kd.C_drewN ?_ _) | (with_reducible refine Kd.C_drew ?_))); (case side2 => exact (Kd.R_reads' HO122.out).2.1); rintro e w44 ⟨v125, rfl, ho0, hb⟩; refine ⟨_, rfl, ?_⟩; have n0_ := Aside0.mk (Kd.R_below (by (with_reducible repeat (first | apply Kd.R_alloc | apply Kd.R_drewN | apply Kd.R_drew)); exact HO_67.out) hb); have n1_ := Aside0.mk (Kd.R_below (by (with_reducible repeat (first | apply Kd.R_alloc | apply Kd.R_drewN | apply Kd.R_drew)); exact HO122.out) hb); have n2_ := Aside0.mk (Kd.R_lower ho0 (below_size (by repeat (first | (with_reducible first | exact HB.out | apply below_alloc | apply pw_below_drewN | apply below_drew1) | exact HB.out)))); have n3_ := Aside0.mk (below_step (by repeat (first | (with_reducible first | exact HB.out | apply below_alloc | apply pw_below_drewN | apply below_drew1) | exact HB.out)) hb); clear HO_67; clear HO122; clear HB; have HO_67 := n0_; have HO122 := n1_; have HO126 := n2_; have HB := n3_; clear n0_ n1_ n2_ n3_; (try clear hb); (try clear hb2); (try clear hk); (try clear hi); (try clear ho0); obtain ⟨Ao45, co45, eo45⟩ := Kd.R_slice HO126.out; subst eo45) | (go_at_call 36; (with_reducible refine (agatelaw03_Ints_s.calls _ _ t123 _ _ l1 true _ ?side1 ?side2 ?side3 ?side4 A40.out).mono ?_); (case side1 => repeat (first | exact (Kd.R_reads' HO126.out).2.2 | (with_reducible refine Kd.C_alloc ?_ _) | (with_reducible refine Kd.C_drewN ?_ _) | (with_reducible refine Kd.C_drew ?_))); (case side2 => exact (Kd.R_reads' HO126.out).2.1); (case side3 => repeat (first | exact (Kd.C_below HR1.out HB.out) | (with_reducible refine Kd.C_alloc ?_ _) | (with_reducible refine Kd.C_drewN ?_ _) | (with_reducible refine Kd.C_drew ?_))); (case side4 => exact HC1.out); rintro e w' ⟨rfl, ⟨nd, rfl⟩⟩))
                            go_roundg k2
                            case measure => have := HK1.out; have := HK2.out; omega
                            case rel => exact ⟨(wrap64 (x69_2 + 1)), (by first | rfl | (simp; done) | (simp [*]; done)), H', ⟨by have := HK1.out; have := HK2.out; omega⟩, ⟨by (with_reducible repeat (first | apply Kd.R_alloc | apply Kd.R_drewN | apply Kd.R_drew)); exact HO_67.out⟩, ⟨by repeat (first | (with_reducible first | exact HB.out | apply below_alloc | apply pw_below_drewN | apply below_drew1) | exact HB.out)⟩⟩
                          · replace c41 := Bool.eq_false_iff.mpr c41
                            subst c41
                            have H1 : (some false) = some r := by rw [if_neg (show ¬ (false = true) by decide)] at H; exact H
                            clear H
                            have H := H1
                            clear H1
                            obtain rfl := Option.some.inj H
                            have p118 : 0 ≤ (x69_2 : Int) := of_decide_eq_true (by first | (with_reducible assumption) | assumption)
                            have q118 : x69_2 < (y114.length : Int) := of_decide_eq_true (by first | (with_reducible assumption) | assumption)
                            obtain ⟨ad118, e118, hx118_0⟩ := Kd.at_string (Kd.R_reads' HO_67.out).2.2 x69_2 p118 q118
                            cases e118
                            replace p118 := eq_true p118
                            replace q118 := eq_true q118
                            go_wp2_with (first | ((with_reducible refine gate_callee (f := 21) rfl ?_); refine goesL_ (some 75) rfl rfl Try.func21 (by kernel_rfl) rfl #[.string (rdOf ByteArray.empty y114 x69_2)] rfl (by (try simp only [List.map_toArray, List.map_cons, List.map_nil]); first | done | rfl | (simp only [List.length_drop, List.length_take]; rfl)) ?_; (with_reducible refine (wire_Fields_s.calls (rdOf ByteArray.empty y114 x69_2) t119 t120 _ A36.out).mono ?_); rintro e w46 ⟨v121, rfl, ho0, hb⟩; refine ⟨_, rfl, ?_⟩; have n0_ := Aside0.mk (Kd.R_below (by (with_reducible repeat (first | apply Kd.R_alloc | apply Kd.R_drewN | apply Kd.R_drew)); exact HO_67.out) hb); have n1_ := Aside0.mk (Kd.R_lower ho0 (below_size (by repeat (first | (with_reducible first | exact HB.out | apply below_alloc | apply pw_below_drewN | apply below_drew1) | exact HB.out)))); have n2_ := Aside0.mk (below_step (by repeat (first | (with_reducible first | exact HB.out | apply below_alloc | apply pw_below_drewN | apply below_drew1) | exact HB.out)) hb); clear HO_67; clear HB; have HO_67 := n0_; have HO122 := n1_; have HB := n2_; clear n0_ n1_ n2_; (try clear hb); (try clear hb2); (try clear hk); (try clear hi); (try clear ho0); obtain ⟨Ao47, co47, eo47⟩ := Kd.R_slice HO122.out; subst eo47) | ((with_reducible refine gate_callee (f := 33) rfl ?_); refine goesL_ (some 83) rfl rfl Try.func33 (by kernel_rfl) rfl #[.slice Ao47 t119.length co47, .int .i64 (wrap64 ((wrap64 (Int.tmod a0 100)) + 1))] rfl (by (try simp only [List.map_toArray, List.map_cons, List.map_nil]); first | done | rfl | (simp only [List.length_drop, List.length_take]; rfl)) ?_; (with_reducible refine (pack_Ints_s.calls _ _ t119 (wrap64 ((wrap64 (Int.tmod a0 100)) + 1)) t123 t124 _ ?side1 ?side2 A38.out).mono ?_); (case side1 => repeat (first | exact (Kd.R_reads' HO122.out).2.2 | (with_reducible refine Kd.C_alloc ?_ _) | (with_reducible refine Kd.C_drewN ?_ _) | (with_reducible refine Kd.C_drew ?_))); (case side2 => exact (Kd.R_reads' HO122.out).2.1); rintro e w48 ⟨v125, rfl, ho0, hb⟩; refine ⟨_, rfl, ?_⟩; have n0_ := Aside0.mk (Kd.R_below (by (with_reducible repeat (first | apply Kd.R_alloc | apply Kd.R_drewN | apply Kd.R_drew)); exact HO_67.out) hb); have n1_ := Aside0.mk (Kd.R_below (by (with_reducible repeat (first | apply Kd.R_alloc | apply Kd.R_drewN | apply Kd.R_drew)); exact HO122.out) hb); have n2_ := Aside0.mk (Kd.R_lower ho0 (below_size (by repeat (first | (with_reducible first | exact HB.out | apply below_alloc | apply pw_below_drewN | apply below_drew1) | exact HB.out)))); have n3_ := Aside0.mk (below_step (by repeat (first | (with_reducible first | exact HB.out | apply below_alloc | apply pw_below_drewN | apply below_drew1) | exact HB.out)) hb); clear HO_67; clear HO122; clear HB; have HO_67 := n0_; have HO122 := n1_; have HO126 := n2_; have HB := n3_; clear n0_ n1_ n2_ n3_; (try clear hb); (try clear hb2); (try clear hk); (try clear hi); (try clear ho0); obtain ⟨Ao49, co49, eo49⟩ := Kd.R_slice HO126.out; subst eo49) | (go_at_call 36; (with_reducible refine (agatelaw03_Ints_s.calls _ _ t123 _ _ l1 false _ ?side1 ?side2 ?side3 ?side4 A40.out).mono ?_); (case side1 => repeat (first | exact (Kd.R_reads' HO126.out).2.2 | (with_reducible refine Kd.C_alloc ?_ _) | (with_reducible refine Kd.C_drewN ?_ _) | (with_reducible refine Kd.C_drew ?_))); (case side2 => exact (Kd.R_reads' HO126.out).2.1); (case side3 => repeat (first | exact (Kd.C_below HR1.out HB.out) | (with_reducible refine Kd.C_alloc ?_ _) | (with_reducible refine Kd.C_drewN ?_ _) | (with_reducible refine Kd.C_drew ?_))); (case side4 => exact HC1.out); rintro e w' ⟨rfl, ⟨nd, rfl⟩⟩))
                            go_ret
                            exact ⟨by first | rfl | (simp [errW_none, errW_some] <;> rfl) | (simp [*, errW_none, errW_some] <;> rfl), by repeat (first | (with_reducible first | exact HB.out | apply below_alloc | apply pw_below_drewN | apply below_drew1) | exact HB.out)⟩
                        · rw [if_neg c39] at H
                          have c39b0 : (t124 == 0) = false := beq_eq_false_iff_ne.mpr c39
                          have c39b1 : (t124 != 0) = true := bne_iff_ne.mpr c39
                          obtain rfl := Option.some.inj H
                          have p118 : 0 ≤ (x69_2 : Int) := of_decide_eq_true (by first | (with_reducible assumption) | assumption)
                          have q118 : x69_2 < (y114.length : Int) := of_decide_eq_true (by first | (with_reducible assumption) | assumption)
                          obtain ⟨ad118, e118, hx118_0⟩ := Kd.at_string (Kd.R_reads' HO_67.out).2.2 x69_2 p118 q118
                          cases e118
                          replace p118 := eq_true p118
                          replace q118 := eq_true q118
                          go_wp2_with (first | ((with_reducible refine gate_callee (f := 21) rfl ?_); refine goesL_ (some 75) rfl rfl Try.func21 (by kernel_rfl) rfl #[.string (rdOf ByteArray.empty y114 x69_2)] rfl (by (try simp only [List.map_toArray, List.map_cons, List.map_nil]); first | done | rfl | (simp only [List.length_drop, List.length_take]; rfl)) ?_; (with_reducible refine (wire_Fields_s.calls (rdOf ByteArray.empty y114 x69_2) t119 t120 _ A36.out).mono ?_); rintro e w50 ⟨v121, rfl, ho0, hb⟩; refine ⟨_, rfl, ?_⟩; have n0_ := Aside0.mk (Kd.R_below (by (with_reducible repeat (first | apply Kd.R_alloc | apply Kd.R_drewN | apply Kd.R_drew)); exact HO_67.out) hb); have n1_ := Aside0.mk (Kd.R_lower ho0 (below_size (by repeat (first | (with_reducible first | exact HB.out | apply below_alloc | apply pw_below_drewN | apply below_drew1) | exact HB.out)))); have n2_ := Aside0.mk (below_step (by repeat (first | (with_reducible first | exact HB.out | apply below_alloc | apply pw_below_drewN | apply below_drew1) | exact HB.out)) hb); clear HO_67; clear HB; have HO_67 := n0_; have HO122 := n1_; have HB := n2_; clear n0_ n1_ n2_; (try clear hb); (try clear hb2); (try clear hk); (try clear hi); (try clear ho0); obtain ⟨Ao51, co51, eo51⟩ := Kd.R_slice HO122.out; subst eo51) | ((with_reducible refine gate_callee (f := 33) rfl ?_); refine goesL_ (some 83) rfl rfl Try.func33 (by kernel_rfl) rfl #[.slice Ao51 t119.length co51, .int .i64 (wrap64 ((wrap64 (Int.tmod a0 100)) + 1))] rfl (by (try simp only [List.map_toArray, List.map_cons, List.map_nil]); first | done | rfl | (simp only [List.length_drop, List.length_take]; rfl)) ?_; (with_reducible refine (pack_Ints_s.calls _ _ t119 (wrap64 ((wrap64 (Int.tmod a0 100)) + 1)) t123 t124 _ ?side1 ?side2 A38.out).mono ?_); (case side1 => repeat (first | exact (Kd.R_reads' HO122.out).2.2 | (with_reducible refine Kd.C_alloc ?_ _) | (with_reducible refine Kd.C_drewN ?_ _) | (with_reducible refine Kd.C_drew ?_))); (case side2 => exact (Kd.R_reads' HO122.out).2.1); rintro e w52 ⟨v125, rfl, ho0, hb⟩; refine ⟨_, rfl, ?_⟩; have n0_ := Aside0.mk (Kd.R_below (by (with_reducible repeat (first | apply Kd.R_alloc | apply Kd.R_drewN | apply Kd.R_drew)); exact HO_67.out) hb); have n1_ := Aside0.mk (Kd.R_below (by (with_reducible repeat (first | apply Kd.R_alloc | apply Kd.R_drewN | apply Kd.R_drew)); exact HO122.out) hb); have n2_ := Aside0.mk (Kd.R_lower ho0 (below_size (by repeat (first | (with_reducible first | exact HB.out | apply below_alloc | apply pw_below_drewN | apply below_drew1) | exact HB.out)))); have n3_ := Aside0.mk (below_step (by repeat (first | (with_reducible first | exact HB.out | apply below_alloc | apply pw_below_drewN | apply below_drew1) | exact HB.out)) hb); clear HO_67; clear HO122; clear HB; have HO_67 := n0_; have HO122 := n1_; have HO126 := n2_; have HB := n3_; clear n0_ n1_ n2_ n3_; (try clear hb); (try clear hb2); (try clear hk); (try clear hi); (try clear ho0)))
                          go_ret
                          exact ⟨by first | rfl | (simp [errW_none, errW_some] <;> rfl) | (simp [*, errW_none, errW_some] <;> rfl), by repeat (first | (with_reducible first | exact HB.out | apply below_alloc | apply pw_below_drewN | apply below_drew1) | exact HB.out)⟩
                      · rw [if_neg c37] at H
                        have c37b0 : (t120 == 0) = false := beq_eq_false_iff_ne.mpr c37
                        have c37b1 : (t120 != 0) = true := bne_iff_ne.mpr c37
                        obtain rfl := Option.some.inj H
                        have p118 : 0 ≤ (x69_2 : Int) := of_decide_eq_true (by first | (with_reducible assumption) | assumption)
                        have q118 : x69_2 < (y114.length : Int) := of_decide_eq_true (by first | (with_reducible assumption) | assumption)
                        obtain ⟨ad118, e118, hx118_0⟩ := Kd.at_string (Kd.R_reads' HO_67.out).2.2 x69_2 p118 q118
                        cases e118
                        replace p118 := eq_true p118
                        replace q118 := eq_true q118
                        go_wp2_with (first | ((with_reducible refine gate_callee (f := 21) rfl ?_); refine goesL_ (some 75) rfl rfl Try.func21 (by kernel_rfl) rfl #[.string (rdOf ByteArray.empty y114 x69_2)] rfl (by (try simp only [List.map_toArray, List.map_cons, List.map_nil]); first | done | rfl | (simp only [List.length_drop, List.length_take]; rfl)) ?_; (with_reducible refine (wire_Fields_s.calls (rdOf ByteArray.empty y114 x69_2) t119 t120 _ A36.out).mono ?_); rintro e w53 ⟨v121, rfl, ho0, hb⟩; refine ⟨_, rfl, ?_⟩; have n0_ := Aside0.mk (Kd.R_below (by (with_reducible repeat (first | apply Kd.R_alloc | apply Kd.R_drewN | apply Kd.R_drew)); exact HO_67.out) hb); have n1_ := Aside0.mk (Kd.R_lower ho0 (below_size (by repeat (first | (with_reducible first | exact HB.out | apply below_alloc | apply pw_below_drewN | apply below_drew1) | exact HB.out)))); have n2_ := Aside0.mk (below_step (by repeat (first | (with_reducible first | exact HB.out | apply below_alloc | apply pw_below_drewN | apply below_drew1) | exact HB.out)) hb); clear HO_67; clear HB; have HO_67 := n0_; have HO122 := n1_; have HB := n2_; clear n0_ n1_ n2_; (try clear hb); (try clear hb2); (try clear hk); (try clear hi); (try clear ho0)))
                        go_ret
                        exact ⟨by first | rfl | (simp [errW_none, errW_some] <;> rfl) | (simp [*, errW_none, errW_some] <;> rfl), by repeat (first | (with_reducible first | exact HB.out | apply below_alloc | apply pw_below_drewN | apply below_drew1) | exact HB.out)⟩
                    · rw [if_neg c35] at H
                      exact absurd H (by simp)
                  · rw [if_neg c34] at H
                    exact absurd H (by simp)
                · rw [if_neg c33] at H
                  have c33b0 : decide (x69_2 < (y114.length : Int)) = false := decide_eq_false c33
                  clear c33
                  replace H := Option.bind_eq_some_iff.mp H
                  obtain ⟨t117, A540, H⟩ := H
                  replace H : (some t117) = some r := H
                  have A54 := Aside0.mk A540
                  clear A540
                  obtain rfl := Option.some.inj H
                  go_wp2_with (first | ((with_reducible refine gate_callee (f := 34) rfl ?_); refine goesL_ (some 95) rfl rfl Try.func34 (by kernel_rfl) rfl #[] rfl (by (try simp only [List.map_toArray, List.map_cons, List.map_nil]); first | done | rfl | (simp only [List.length_drop, List.length_take]; rfl)) ?_; (with_reducible refine (agatelaw03_Awake_s.calls  t117 _ A54.out).mono ?_); rintro e w55 ⟨rfl, hb⟩; refine ⟨_, rfl, ?_⟩; have n0_ := Aside0.mk (Kd.R_below (by (with_reducible repeat (first | apply Kd.R_alloc | apply Kd.R_drewN | apply Kd.R_drew)); exact HO_67.out) hb); have n1_ := Aside0.mk (below_step (by repeat (first | (with_reducible first | exact HB.out | apply below_alloc | apply pw_below_drewN | apply below_drew1) | exact HB.out)) hb); clear HO_67; clear HB; have HO_67 := n0_; have HB := n1_; clear n0_ n1_; (try clear hb); (try clear hb2); (try clear hk); (try clear hi)))
                  go_ret
                  exact ⟨by first | rfl | (simp [errW_none, errW_some] <;> rfl) | (simp [*, errW_none, errW_some] <;> rfl), by repeat (first | (with_reducible first | exact HB.out | apply below_alloc | apply pw_below_drewN | apply below_drew1) | exact HB.out)⟩
          · rw [if_neg c25] at H
            exact absurd H (by simp)

def agatelaw03_PackBack.Pure : Prop := ∀ (x0 : Int) (x1 : List Int) (x2 : List Bool), (fun a => (Lit.int .u8 a).wf = true) x0 → (fun l => l.length ≤ maxLen ∧ l.length * 8 ≤ 140737488351232 ∧ ∀ x ∈ l, (fun a => (Lit.int .i64 a).wf = true) x) x1 → (fun l => l.length ≤ maxLen ∧ l.length * 1 ≤ 140737488351232 ∧ ∀ x ∈ l, (fun _ => True) x) x2 → ∃ k, agatelaw03_PackBack.f k x0 x1 x2 = some true

end Go.Proofs.Ytohddbiedabmhaa.X
