import Derived.Test.YtohddbiedabmhaaMPackReads0
import Derived.Test.YtohddbiedabmhaaMPackReads12
import Derived.Test.YtohddbiedabmhaaMPackReads11
import Derived.Test.YtohddbiedabmhaaMPackReads1
import Derived.Test.YtohddbiedabmhaaMPackReads2
-- by xprint.py, a program of this session, over the kit's print.py
namespace Go.Proofs.Ytohddbiedabmhaa.X
open Go.RowKit Go.Proofs.YtohddbiedabmhaaW.PrintWords Go.Proofs.YtohddbiedabmhaaW.PrintLast Go.Proofs.YtohddbiedabmhaaW.PrintMore
attribute [local go_sem] max2_int min2_int max_two min_two max_three min_three max_four min_four   -- for this text's walks alone
set_option linter.unusedVariables false
set_option linter.unusedSimpArgs false

def agateref02_Bytes_s.f (a0 a1 a2 : Int) (a3 : ByteArray) : Option ByteArray :=
  if -9223372036854775808 ≤ a0 ∧ a0 < 9223372036854775808 ∧ -9223372036854775808 ≤ a1 ∧ a1 < 9223372036854775808 ∧ 0 ≤ a2 ∧ a2 < 18446744073709551616 ∧ a3.size ≤ 140737488351232 then some (bytesS a0 a1 a2 a3) else none
theorem agateref02_Bytes_s.ev (a0 a1 a2 : Int) (a3 : ByteArray) (r) (h : agateref02_Bytes_s.f a0 a1 a2 a3 = some r) : ∃ k, agateref02_Bytes.f k a0 a1 a2 a3 = some r := by
  unfold agateref02_Bytes_s.f at h
  split at h
  · rename_i hr
    obtain ⟨p0, p1, p2, p3, p4, p5, p6⟩ := hr
    rw [← h]
    refine ⟨1, ?_⟩
    unfold agateref02_Bytes.f bytesS
    by_cases hm : 1 ≤ a0 ∧ a0 ≤ 536870911 ∧ (a1 = 0 ∨ a1 = 1 ∨ a1 = 2 ∨ a1 = 5)
    · have hm1 := hm
      obtain ⟨m0, m1, m2⟩ := hm1
      rw [if_neg (by omega), if_neg (by omega), if_neg (by omega), if_neg (by omega), if_neg (by omega), if_pos hm]
      simp only [agateref02_Bytes.j0]
      have ep : ∀ x : Int, 0 ≤ x → x < 18446744073709551616 → agateref01_Put_s.f x = some ((vPut x.toNat).map Int.ofNat) := fun x g0 g1 => if_pos ⟨g0, g1⟩
      have hs : ∀ x : Int, 0 ≤ x → x < 18446744073709551616 → (vStr x.toNat).size ≤ 10 := fun x g0 g1 => by rw [vStr_size]; exact vSize_10 _ (by omega)
      have hs1 := hs (8 * a0 + a1) (by omega) (by omega)
      have es : ∀ n, strOfNums ((vPut n).map Int.ofNat) = vStr n := fun _ => rfl
      rw [if_neg (by simp; omega), wrap64_id (x := 8 * a0) (by omega) (by omega), wrap64_id (by omega) (by omega), u64_id (by omega) (by omega), ep _ (by omega) (by omega), Option.bind_some]
      simp only [es]
      rcases m2 with rfl | rfl | rfl | rfl
      · have hs2 := hs a2 p4 p5
        rw [if_pos rfl, if_pos rfl, ep _ p4 p5, Option.bind_some]
        simp only [es]
        rw [if_pos (by omega)]
      · rw [if_neg (by decide), if_pos rfl, if_neg (by decide), if_neg (by decide), if_pos rfl]
        have el : agateref02_high_s.f a2 8 = some (laidStr a2.toNat 8) := if_pos ⟨p4, p5, by decide, by decide⟩
        rw [el, Option.bind_some, if_pos (by rw [laidStr_size]; omega)]
      · have hs2 := hs (a3.size : Int) (by omega) (by omega)
        rw [Int.toNat_natCast] at hs2
        rw [if_neg (by decide), if_neg (by decide), if_pos rfl, if_neg (by decide), if_pos rfl, u64_id (by omega) (by omega), ep _ (by omega) (by omega), Option.bind_some, Int.toNat_natCast]
        simp only [es]
        rw [if_pos (by omega), if_pos (by rw [ByteArray.size_append]; omega)]
      · rw [if_neg (show ¬ (5 : Int) = 0 by decide), if_neg (show ¬ (5 : Int) = 1 by decide), if_neg (show ¬ (5 : Int) = 2 by decide), if_neg (show ¬ (5 : Int) = 0 by decide), if_neg (show ¬ (5 : Int) = 2 by decide), if_neg (show ¬ (5 : Int) = 1 by decide)]
        by_cases hg : a2 > 4294967295
        · rw [if_pos hg, if_pos hg]
        · rw [if_neg hg, if_neg hg]
          have el : agateref02_high_s.f a2 4 = some (laidStr a2.toNat 4) := if_pos ⟨p4, p5, by decide, by decide⟩
          rw [el, Option.bind_some, if_pos (by rw [laidStr_size]; omega)]
    · rw [if_neg hm]
      by_cases n0 : a0 < 1
      · rw [if_pos n0]; rfl
      · by_cases n1 : a0 > 536870911
        · rw [if_neg n0, if_pos n1]; rfl
        · by_cases n2 : a1 < 0
          · rw [if_neg n0, if_neg n1, if_pos n2]; rfl
          · by_cases n3 : a1 > 5
            · rw [if_neg n0, if_neg n1, if_neg n2, if_pos n3]; rfl
            · by_cases n4 : a1 = 3
              · rw [if_neg n0, if_neg n1, if_neg n2, if_neg n3, if_pos n4]; rfl
              · obtain rfl : a1 = 4 := by omega
                rw [if_neg n0, if_neg n1, if_neg n2, if_neg n3, if_neg n4]; rfl
  · cases h

set_option maxHeartbeats 1000000 in
theorem agateref02_Bytes_s.calls (a0_0 : Int) (a0_1 : Int) (a0_2 : Int) (a0_3 : ByteArray) (r : ByteArray) (w : World) (h : agateref02_Bytes_s.f a0_0 a0_1 a0_2 a0_3 = some r) :
    Calls Try.prog 28 #[.agg #[.int .i64 a0_0, .int .i64 a0_1, .int .u64 a0_2, .string a0_3]] w fun e w' => e = .returned (.string r) ∧ Below w.heap.size w w' := by
  obtain ⟨k, hk⟩ := agateref02_Bytes_s.ev a0_0 a0_1 a0_2 a0_3 _ h
  exact agateref02_Bytes.calls k a0_0 a0_1 a0_2 a0_3 r w hk

end Go.Proofs.Ytohddbiedabmhaa.X
-- by xprint.py, a program of this session, over the kit's print.py
namespace Go.Proofs.Ytohddbiedabmhaa.X
open Go.RowKit Go.Proofs.YtohddbiedabmhaaW.PrintWords Go.Proofs.YtohddbiedabmhaaW.PrintLast Go.Proofs.YtohddbiedabmhaaW.PrintMore
attribute [local go_sem] max2_int min2_int max_two min_two max_three min_three max_four min_four   -- for this text's walks alone
set_option linter.unusedVariables false
set_option linter.unusedSimpArgs false

/-! ### agateref02_Text: function 32 -/
def agateref02_Text.f (a0 : Int) (a1 : ByteArray) : Option (ByteArray) := (agateref02_Bytes_s.f a0 2 0 a1).bind fun t101 => (some t101)
set_option maxHeartbeats 8000000 in
set_option maxRecDepth 100000 in
theorem agateref02_Text.calls (a0 : Int) (a1 : ByteArray) (r : ByteArray) (w : World) (h : agateref02_Text.f a0 a1 = some r) :
    Calls Try.prog 32 #[.int .i64 a0, .string a1] w fun e w' => e = .returned (.string r) ∧ Below w.heap.size w w' := by
  have hu50 := Try.underlying50
  have HB := Aside0.mk (Below.refl w.heap.size w)
  have H : ((agateref02_Bytes_s.f a0 2 0 a1).bind fun t101 => (some t101)) = some r := h
  clear h
  replace H := Option.bind_eq_some_iff.mp H
  obtain ⟨t101, A30, H⟩ := H
  replace H : (some t101) = some r := H
  have A3 := Aside0.mk A30
  clear A30
  obtain rfl := Option.some.inj H
  go_enter Try.func32, Try.ntmps32
  go_wp2_with (first | ((with_reducible refine gate_callee (f := 28) rfl ?_); refine goesL_ (some 8) rfl rfl Try.func28 (by kernel_rfl) rfl #[.agg #[.int .i64 a0, .int .i64 2, .int .u64 0, .string a1]] rfl (by (try simp only [List.map_toArray, List.map_cons, List.map_nil]); first | done | rfl | (simp only [List.length_drop, List.length_take]; rfl)) ?_; (with_reducible refine (agateref02_Bytes_s.calls a0 2 0 a1 t101 _ A3.out).mono ?_); rintro e w4 ⟨rfl, hb⟩; refine ⟨_, rfl, ?_⟩; have n0_ := Aside0.mk (below_step (by repeat (first | (with_reducible first | exact HB.out | apply below_alloc | apply pw_below_drewN | apply below_drew1) | exact HB.out)) hb); clear HB; have HB := n0_; clear n0_; (try clear hb); (try clear hb2); (try clear hk); (try clear hi)))
  go_ret
  exact ⟨by first | rfl | (simp [errW_none, errW_some] <;> rfl) | (simp [*, errW_none, errW_some] <;> rfl), by repeat (first | (with_reducible first | exact HB.out | apply below_alloc | apply pw_below_drewN | apply below_drew1) | exact HB.out)⟩

end Go.Proofs.Ytohddbiedabmhaa.X
-- by xprint.py, a program of this session, over the kit's print.py
namespace Go.Proofs.Ytohddbiedabmhaa.X
open Go.RowKit Go.Proofs.YtohddbiedabmhaaW.PrintWords Go.Proofs.YtohddbiedabmhaaW.PrintLast Go.Proofs.YtohddbiedabmhaaW.PrintMore
attribute [local go_sem] max2_int min2_int max_two min_two max_three min_three max_four min_four   -- for this text's walks alone
set_option linter.unusedVariables false
set_option linter.unusedSimpArgs false

def agateref02_Text_s.f (a0 : Int) (a1 : ByteArray) : Option ByteArray := agateref02_Bytes_s.f a0 2 0 a1
theorem agateref02_Text_s.ev (a0 : Int) (a1 : ByteArray) (r) (h : agateref02_Text_s.f a0 a1 = some r) : ∃ k : Nat, agateref02_Text.f a0 a1 = some r := by
  unfold agateref02_Text_s.f at h
  exact ⟨0, by unfold agateref02_Text.f; rw [h]; rfl⟩

set_option maxHeartbeats 1000000 in
theorem agateref02_Text_s.calls (a0 : Int) (a1 : ByteArray) (r : ByteArray) (w : World) (h : agateref02_Text_s.f a0 a1 = some r) :
    Calls Try.prog 32 #[.int .i64 a0, .string a1] w fun e w' => e = .returned (.string r) ∧ Below w.heap.size w w' := by
  obtain ⟨k, hk⟩ := agateref02_Text_s.ev a0 a1 _ h
  exact agateref02_Text.calls a0 a1 r w hk

end Go.Proofs.Ytohddbiedabmhaa.X
-- by xprint.py, a program of this session, over the kit's print.py
namespace Go.Proofs.Ytohddbiedabmhaa.X
open Go.RowKit Go.Proofs.YtohddbiedabmhaaW.PrintWords Go.Proofs.YtohddbiedabmhaaW.PrintLast Go.Proofs.YtohddbiedabmhaaW.PrintMore
attribute [local go_sem] max2_int min2_int max_two min_two max_three min_three max_four min_four   -- for this text's walks alone
set_option linter.unusedVariables false
set_option linter.unusedSimpArgs false

/-! ### agateref03_Put: function 41 -/
def agateref03_Put.l0 : Nat → Int → List Int → ByteArray → Int → Option (ByteArray)
  | 0, _, _, _, _ => none
  | k + 1, x0, x1, x5, x6 => if x6 < (x1.length : Int) then (if 0 ≤ x6 then ((agateref01_Put_s.f (IntKind.u64.wrap (rd x1 x6))).bind fun t102 => (if x5.size + (strOfNums t102).size ≤ 9223372036854775807 then (agateref03_Put.l0 k x0 x1 (x5 ++ (strOfNums t102)) (wrap64 (x6 + 1))) else (none))) else (none)) else ((agateref02_Text_s.f x0 x5).bind fun t105 => (some t105))
def agateref03_Put.f (k : Nat) (a0 : Int) (l1 : List Int) : Option (ByteArray) := if (l1.length : Int) = 0 then (some (⟨#[]⟩ : ByteArray)) else (agateref03_Put.l0 k a0 l1 (⟨#[]⟩ : ByteArray) 0)
theorem agateref03_Put.mono_l : ∀ k, (∀ y0 y1 y2 y3, LeO (agateref03_Put.l0 k y0 y1 y2 y3) (agateref03_Put.l0 (k + 1) y0 y1 y2 y3))
  | 0 => fun _ _ _ _ r h => by simp [agateref03_Put.l0] at h
  | k + 1 => by
    have ih0 := agateref03_Put.mono_l k
    · intro y0 y1 y2 y3
      unfold agateref03_Put.l0
      repeat' first
      | (with_reducible exact ih0 _ _ _ _)
      | (with_reducible exact LeO.refl _)
      | (with_reducible exact LeO.none _)
      | (with_reducible refine LeO.ite ?_ ?_)
      | (with_reducible refine LeO.bind ?_ (fun _ => ?_))
      | exact ih0 _ _ _ _
      | exact LeO.none _
      | refine LeO.ite ?_ ?_
      | refine LeO.bind ?_ (fun _ => ?_)
theorem agateref03_Put.mono : ∀ a0 a1 k, LeO (agateref03_Put.f k a0 a1) (agateref03_Put.f (k + 1) a0 a1) := by
  intro a0 a1 k
  have ih0 := agateref03_Put.mono_l k
  unfold agateref03_Put.f
  repeat' first
      | (with_reducible exact ih0 _ _ _ _)
      | (with_reducible exact LeO.refl _)
      | (with_reducible exact LeO.none _)
      | (with_reducible refine LeO.ite ?_ ?_)
      | (with_reducible refine LeO.bind ?_ (fun _ => ?_))
      | exact ih0 _ _ _ _
      | exact LeO.none _
      | refine LeO.ite ?_ ?_
      | refine LeO.bind ?_ (fun _ => ?_)
set_option maxHeartbeats 8000000 in
set_option maxRecDepth 100000 in
theorem agateref03_Put.calls (k : Nat) (a0 : Int) (A1 : Option Addr) (c1 : Nat) (l1 : List Int) (r : ByteArray) (w : World) (hr1 : Kd.C (Kd.int .i64) w A1 l1.length l1) (hc1 : l1.length ≤ c1) (h : agateref03_Put.f k a0 l1 = some r) :
    Calls Try.prog 41 #[.int .i64 a0, .slice A1 l1.length c1] w fun e w' => e = .returned (.string r) ∧ Below w.heap.size w w' := by
  have HR1 := Aside0.mk hr1
  have HC1 := Aside0.mk hc1
  clear hr1 hc1
  have HB := Aside0.mk (Below.refl w.heap.size w)
  have H : (if (l1.length : Int) = 0 then (some (⟨#[]⟩ : ByteArray)) else (agateref03_Put.l0 k a0 l1 (⟨#[]⟩ : ByteArray) 0)) = some r := h
  clear h
  by_cases c3 : (l1.length : Int) = 0
  · rw [if_pos c3] at H
    have c3b0 : ((l1.length : Int) == 0) = true := beq_iff_eq.mpr c3
    have c3b1 : ((l1.length : Int) != 0) = false := bne_eq_false_iff_eq.mpr c3
    clear c3
    obtain rfl := Option.some.inj H
    go_enter Try.func41, Try.ntmps41
    go_wp2
    go_ret
    exact ⟨by first | rfl | (simp [errW_none, errW_some] <;> rfl) | (simp [*, errW_none, errW_some] <;> rfl), by repeat (first | (with_reducible first | exact HB.out | apply below_alloc | apply pw_below_drewN | apply below_drew1) | exact HB.out)⟩
  · rw [if_neg c3] at H
    have c3b0 : ((l1.length : Int) == 0) = false := beq_eq_false_iff_ne.mpr c3
    have c3b1 : ((l1.length : Int) != 0) = true := bne_iff_ne.mpr c3
    have c3b2 : ¬ (l1 = []) := fun h_ => c3 (by rw [h_]; rfl)
    have H' := Aside0.mk H
    clear H
    go_enter Try.func41, Try.ntmps41
    go_wp2
    go_loopg [5, 6] k (fun kq v5 v6 w' => ∃ (x5_1 : ByteArray) (x6_1 : Int), v5 = .string x5_1 ∧ v6 = .int .i64 x6_1 ∧ Aside0 (agateref03_Put.l0 kq a0 l1 x5_1 x6_1 = some r) ∧ Aside0 (kq ≤ k) ∧ Aside0 (Below w.heap.size w w'))
    case atStart => exact ⟨((⟨#[]⟩ : ByteArray)), (0), (by first | rfl | (simp; done) | (simp [*]; done)), (by first | rfl | (simp; done) | (simp [*]; done)), H', ⟨Nat.le_refl _⟩, ⟨by repeat (first | (with_reducible first | exact HB.out | apply below_alloc | apply pw_below_drewN | apply below_drew1) | exact HB.out)⟩⟩
    case round =>
      clear H'
      try clear c1
      try clear p2
      try clear c3
      try clear c3b0
      try clear c3b1
      try clear c3b2
      obtain ⟨x5_1, x6_1, rfl, rfl, HA, HK1, HB⟩ := hrel
      cases gk with
      | zero => exact absurd HA.out (by simp [agateref03_Put.l0])
      | succ k1 =>
        have H := HA.out
        clear HA
        simp only [agateref03_Put.l0] at H
        by_cases c4 : x6_1 < (l1.length : Int)
        · rw [if_pos c4] at H
          have c4b0 : decide (x6_1 < (l1.length : Int)) = true := decide_eq_true c4
          clear c4
          by_cases c5 : 0 ≤ x6_1
          · rw [if_pos c5] at H
            have c5b0 : decide (0 ≤ x6_1) = true := decide_eq_true c5
            clear c5
            replace H := Option.bind_eq_some_iff.mp H
            obtain ⟨t102, A60, H⟩ := H
            replace H : (if x5_1.size + (strOfNums t102).size ≤ 9223372036854775807 then (agateref03_Put.l0 k1 a0 l1 (x5_1 ++ (strOfNums t102)) (wrap64 (x6_1 + 1))) else (none)) = some r := H
            have A6 := Aside0.mk A60
            clear A60
            by_cases c7 : x5_1.size + (strOfNums t102).size ≤ 9223372036854775807
            · rw [if_pos c7] at H
              have c7b0 := eq_true c7
              have c7b1 : decide (x5_1.size + (strOfNums t102).size ≤ 9223372036854775807) = true := decide_eq_true c7
              try have c7b2 : (9223372036854775807 < x5_1.size + (strOfNums t102).size) = False := eq_false (Nat.not_lt.2 c7)
              try have c7b3 := c7b2
              try simp only [ByteArray.size_append] at c7b3
              have H' := Aside0.mk H
              clear H
              have p101 : 0 ≤ (x6_1 : Int) := of_decide_eq_true (by first | (with_reducible assumption) | assumption)
              have q101 : x6_1 < (l1.length : Int) := of_decide_eq_true (by first | (with_reducible assumption) | assumption)
              obtain ⟨ad101, e101, hx101_0⟩ := Kd.at_int HR1.out x6_1 p101 q101
              cases e101
              replace hx101_0 := (HB.out.cell (World.block_lt_of_cell? w _ hx101_0)).trans hx101_0
              replace p101 := eq_true p101
              replace q101 := eq_true q101
              go_wp2_with (first | ((with_reducible refine gate_callee (f := 12) rfl ?_); refine goesL_ (some 22) rfl rfl Try.func12 (by kernel_rfl) rfl #[.int .u64 (IntKind.u64.wrap (rd l1 x6_1))] rfl (by (try simp only [List.map_toArray, List.map_cons, List.map_nil]); first | done | rfl | (simp only [List.length_drop, List.length_take]; rfl)) ?_; (with_reducible refine (agateref01_Put_s.calls (IntKind.u64.wrap (rd l1 x6_1)) t102 _ A6.out).mono ?_); rintro e w8 ⟨v103, rfl, ho0, hb⟩; refine ⟨_, rfl, ?_⟩; have n0_ := Aside0.mk (Kd.R_lower ho0 (below_size (by repeat (first | (with_reducible first | exact HB.out | apply below_alloc | apply pw_below_drewN | apply below_drew1) | exact HB.out)))); have n1_ := Aside0.mk (below_step (by repeat (first | (with_reducible first | exact HB.out | apply below_alloc | apply pw_below_drewN | apply below_drew1) | exact HB.out)) hb); clear HB; have HO104 := n0_; have HB := n1_; clear n0_ n1_; (try clear hb); (try clear hb2); (try clear hk); (try clear hi); (try clear ho0); have hcv9 := own_string (P := Try.prog) Try.underlying24 Try.underlying5 Try.underlying9 (Kd.own_of_R HO104.out)))
              go_roundg k1
              case measure => have := HK1.out; omega
              case rel => exact ⟨(x5_1 ++ (strOfNums t102)), (wrap64 (x6_1 + 1)), (by first | rfl | (simp; done) | (simp [*]; done)), (by first | rfl | (simp; done) | (simp [*]; done)), H', ⟨by have := HK1.out; omega⟩, ⟨by repeat (first | (with_reducible first | exact HB.out | apply below_alloc | apply pw_below_drewN | apply below_drew1) | exact HB.out)⟩⟩
            · rw [if_neg c7] at H
              exact absurd H (by simp)
          · rw [if_neg c5] at H
            exact absurd H (by simp)
        · rw [if_neg c4] at H
          have c4b0 : decide (x6_1 < (l1.length : Int)) = false := decide_eq_false c4
          clear c4
          replace H := Option.bind_eq_some_iff.mp H
          obtain ⟨t105, A100, H⟩ := H
          replace H : (some t105) = some r := H
          have A10 := Aside0.mk A100
          clear A100
          obtain rfl := Option.some.inj H
          go_wp2_with (first | ((with_reducible refine gate_callee (f := 32) rfl ?_); refine goesL_ (some 27) rfl rfl Try.func32 (by kernel_rfl) rfl #[.int .i64 a0, .string x5_1] rfl (by (try simp only [List.map_toArray, List.map_cons, List.map_nil]); first | done | rfl | (simp only [List.length_drop, List.length_take]; rfl)) ?_; (with_reducible refine (agateref02_Text_s.calls a0 x5_1 t105 _ A10.out).mono ?_); rintro e w11 ⟨rfl, hb⟩; refine ⟨_, rfl, ?_⟩; have n0_ := Aside0.mk (below_step (by repeat (first | (with_reducible first | exact HB.out | apply below_alloc | apply pw_below_drewN | apply below_drew1) | exact HB.out)) hb); clear HB; have HB := n0_; clear n0_; (try clear hb); (try clear hb2); (try clear hk); (try clear hi)))
          go_ret
          exact ⟨by first | rfl | (simp [errW_none, errW_some] <;> rfl) | (simp [*, errW_none, errW_some] <;> rfl), by repeat (first | (with_reducible first | exact HB.out | apply below_alloc | apply pw_below_drewN | apply below_drew1) | exact HB.out)⟩

end Go.Proofs.Ytohddbiedabmhaa.X
-- by xprint.py, a program of this session, over the kit's print.py
namespace Go.Proofs.Ytohddbiedabmhaa.X
open Go.RowKit Go.Proofs.YtohddbiedabmhaaW.PrintWords Go.Proofs.YtohddbiedabmhaaW.PrintLast Go.Proofs.YtohddbiedabmhaaW.PrintMore
attribute [local go_sem] max2_int min2_int max_two min_two max_three min_three max_four min_four   -- for this text's walks alone
set_option linter.unusedVariables false
set_option linter.unusedSimpArgs false

def agateref03_Put_s.f (a0 : Int) (l1 : List Int) : Option ByteArray := if -9223372036854775808 ≤ a0 ∧ a0 < 9223372036854775808 ∧ l1.length ≤ 1000000000 then some (putS a0 l1) else none
theorem refPut_eval (num : Int) (hn : -9223372036854775808 ≤ num ∧ num < 9223372036854775808) (l : List Int) (hl : l.length ≤ 1000000000) (d : Nat) : ∀ (k i : Nat), l.length - i = d → i ≤ l.length → d < k →
    agateref03_Put.l0 k num l (catS (l.take i)) i = some (bytesS num 2 0 (catS l)) := by
  induction d with
  | zero =>
    intro k i hd hi hk
    obtain ⟨k, rfl⟩ : ∃ m, k = m + 1 := ⟨k - 1, by omega⟩
    rw [agateref03_Put.l0, if_neg (by omega), List.take_of_length_le (by omega)]
    have hs := catS_size l
    have e : agateref02_Text_s.f num (catS l) = some (bytesS num 2 0 (catS l)) := if_pos ⟨hn.1, hn.2, by decide, by decide, by decide, by decide, by omega⟩
    rw [e]; rfl
  | succ d ih =>
    intro k i hd hi hk
    obtain ⟨k, rfl⟩ : ∃ m, k = m + 1 := ⟨k - 1, by omega⟩
    have h0 : i < l.length := by omega
    have e0 : rd l (i : Int) = l[i] := by simp [rd, List.getD_eq_getElem?_getD, h0]
    have hu := u64_range l[i]
    have e1 : agateref01_Put_s.f (IntKind.u64.wrap l[i]) = some ((vPut (IntKind.u64.wrap l[i]).toNat).map Int.ofNat) := if_pos hu
    have ew : wrap64 ((i : Int) + 1) = ((i + 1 : Nat) : Int) := by rw [wrap64_id (by omega) (by omega)]; omega
    have hs := catS_size (l.take i)
    rw [List.length_take] at hs
    have hv := vSize_10 (IntKind.u64.wrap l[i]).toNat (by omega)
    have ht : catS (l.take (i + 1)) = catS (l.take i) ++ vStr (IntKind.u64.wrap l[i]).toNat := by
      rw [List.take_succ_eq_append_getElem h0, catS_append]
      congr 1
      apply ns_inj
      simp [catS, ns_append, ns]
    rw [agateref03_Put.l0, if_pos (by omega), if_pos (by omega), e0, e1, Option.bind_some, ew]
    show (if (catS (l.take i)).size + (vStr (IntKind.u64.wrap l[i]).toNat).size ≤ 9223372036854775807 then agateref03_Put.l0 k num l (catS (l.take i) ++ vStr (IntKind.u64.wrap l[i]).toNat) ((i + 1 : Nat) : Int) else none) = _
    rw [if_pos (by rw [vStr_size]; clear ew e0 e1; omega), ← ht]
    exact ih k (i + 1) (by omega) (by omega) (by omega)
theorem agateref03_Put_s.ev (a0 : Int) (l1 : List Int) (r) (h : agateref03_Put_s.f a0 l1 = some r) : ∃ k, agateref03_Put.f k a0 l1 = some r := by
  unfold agateref03_Put_s.f at h
  split at h
  · rename_i hs
    rw [← h]
    refine ⟨l1.length + 1, ?_⟩
    unfold agateref03_Put.f putS
    by_cases h0 : l1 = []
    · rw [if_pos (by rw [h0]; rfl), if_pos h0]
    · have hne : l1.length ≠ 0 := fun h => h0 (List.eq_nil_of_length_eq_zero h)
      rw [if_neg (by omega), if_neg h0]
      exact refPut_eval a0 ⟨hs.1, hs.2.1⟩ l1 hs.2.2 l1.length _ 0 (by omega) (by omega) (by omega)
  · cases h

set_option maxHeartbeats 1000000 in
theorem agateref03_Put_s.calls (a0 : Int) (A1 : Option Addr) (c1 : Nat) (l1 : List Int) (r : ByteArray) (w : World) (hr1 : Kd.C (Kd.int .i64) w A1 l1.length l1) (hc1 : l1.length ≤ c1) (h : agateref03_Put_s.f a0 l1 = some r) :
    Calls Try.prog 41 #[.int .i64 a0, .slice A1 l1.length c1] w fun e w' => e = .returned (.string r) ∧ Below w.heap.size w w' := by
  obtain ⟨k, hk⟩ := agateref03_Put_s.ev a0 l1 _ h
  exact agateref03_Put.calls k a0 A1 c1 l1 r w hr1 hc1 hk

end Go.Proofs.Ytohddbiedabmhaa.X
-- by xprint.py, a program of this session, over the kit's print.py
namespace Go.Proofs.Ytohddbiedabmhaa.X
open Go.RowKit Go.Proofs.YtohddbiedabmhaaW.PrintWords Go.Proofs.YtohddbiedabmhaaW.PrintLast Go.Proofs.YtohddbiedabmhaaW.PrintMore
attribute [local go_sem] max2_int min2_int max_two min_two max_three min_three max_four min_four   -- for this text's walks alone
set_option linter.unusedVariables false
set_option linter.unusedSimpArgs false

/-! ### agateref03_Texts: function 39 -/
mutual
def agateref03_Texts.l0 : Nat → List (S50) → Int → List ByteArray → Int → Option (List ByteArray × Int)
  | 0, _, _, _, _ => none
  | k + 1, x0, x1, x6, x7 => if x7 < (x0.length : Int) then (if 0 ≤ x7 then (if ((rd_T50 x0 x7).f0) = x1 then (agateref03_Texts.j1 k x0 x1 x6 x7 (((rd_T50 x0 x7).f1) != 2)) else (agateref03_Texts.j1 k x0 x1 x6 x7 false)) else (none)) else (some (x6, 0))
def agateref03_Texts.j1 : Nat → List (S50) → Int → List ByteArray → Int → Bool → Option (List ByteArray × Int)
  | 0, _, _, _, _, _ => none
  | k + 1, x0, x1, x6, x7, x28 => if x28 = true then (some (([] : List ByteArray), 3)) else (if 0 ≤ x7 then (if x7 < (x0.length : Int) then (if ((rd_T50 x0 x7).f0) = x1 then (if x6.length < 8796093022208 then (agateref03_Texts.l0 k x0 x1 (x6 ++ [(rd_T50 x0 x7).f3]) (wrap64 (x7 + 1))) else (none)) else (agateref03_Texts.l0 k x0 x1 x6 (wrap64 (x7 + 1)))) else (none)) else (none))
end
def agateref03_Texts.f (k : Nat) (l0 : List (S50)) (a1 : Int) : Option (List ByteArray × Int) := agateref03_Texts.l0 k l0 a1 ([] : List ByteArray) 0
theorem agateref03_Texts.mono_l : ∀ k, (∀ y0 y1 y2 y3, LeO (agateref03_Texts.l0 k y0 y1 y2 y3) (agateref03_Texts.l0 (k + 1) y0 y1 y2 y3)) ∧ (∀ y0 y1 y2 y3 y4, LeO (agateref03_Texts.j1 k y0 y1 y2 y3 y4) (agateref03_Texts.j1 (k + 1) y0 y1 y2 y3 y4))
  | 0 => ⟨fun _ _ _ _ r h => by simp [agateref03_Texts.l0] at h, fun _ _ _ _ _ r h => by simp [agateref03_Texts.j1] at h⟩
  | k + 1 => by
    obtain ⟨ih0, ih1⟩ := agateref03_Texts.mono_l k
    refine ⟨?_, ?_⟩
    · intro y0 y1 y2 y3
      unfold agateref03_Texts.l0
      repeat' first
      | (with_reducible exact ih0 _ _ _ _)
      | (with_reducible exact ih1 _ _ _ _ _)
      | (with_reducible exact LeO.refl _)
      | (with_reducible exact LeO.none _)
      | (with_reducible refine LeO.ite ?_ ?_)
      | (with_reducible refine LeO.bind ?_ (fun _ => ?_))
      | exact ih0 _ _ _ _
      | exact ih1 _ _ _ _ _
      | exact LeO.none _
      | refine LeO.ite ?_ ?_
      | refine LeO.bind ?_ (fun _ => ?_)
    · intro y0 y1 y2 y3 y4
      unfold agateref03_Texts.j1
      repeat' first
      | (with_reducible exact ih0 _ _ _ _)
      | (with_reducible exact ih1 _ _ _ _ _)
      | (with_reducible exact LeO.refl _)
      | (with_reducible exact LeO.none _)
      | (with_reducible refine LeO.ite ?_ ?_)
      | (with_reducible refine LeO.bind ?_ (fun _ => ?_))
      | exact ih0 _ _ _ _
      | exact ih1 _ _ _ _ _
      | exact LeO.none _
      | refine LeO.ite ?_ ?_
      | refine LeO.bind ?_ (fun _ => ?_)
theorem agateref03_Texts.mono : ∀ a0 a1 k, LeO (agateref03_Texts.f k a0 a1) (agateref03_Texts.f (k + 1) a0 a1) := by
  intro a0 a1 k
  obtain ⟨ih0, ih1⟩ := agateref03_Texts.mono_l k
  unfold agateref03_Texts.f
  repeat' first
      | (with_reducible exact ih0 _ _ _ _)
      | (with_reducible exact ih1 _ _ _ _ _)
      | (with_reducible exact LeO.refl _)
      | (with_reducible exact LeO.none _)
      | (with_reducible refine LeO.ite ?_ ?_)
      | (with_reducible refine LeO.bind ?_ (fun _ => ?_))
      | exact ih0 _ _ _ _
      | exact ih1 _ _ _ _ _
      | exact LeO.none _
      | refine LeO.ite ?_ ?_
      | refine LeO.bind ?_ (fun _ => ?_)
set_option maxHeartbeats 8000000 in
set_option maxRecDepth 100000 in
theorem agateref03_Texts.calls (k : Nat) (A0 : Option Addr) (c0 : Nat) (l0 : List (S50)) (a1 : Int) (r1 : List ByteArray) (r2 : Int) (w : World) (hr0 : Kd.C k50 w A0 l0.length l0) (hc0 : l0.length ≤ c0) (h : agateref03_Texts.f k l0 a1 = some (r1, r2)) :
    Calls Try.prog 39 #[.slice A0 l0.length c0, .int .i64 a1] w fun e w' => ∃ v0_ : Value, e = .returned (.tuple #[v0_, .int .i64 r2]) ∧ Kd.R Kd.string 9 w' w.heap.size (fun _ => True) v0_ r1 ∧ Below w.heap.size w w' := by
  have HR0 := Aside0.mk hr0
  have HC0 := Aside0.mk hc0
  clear hr0 hc0
  have HB := Aside0.mk (Below.refl w.heap.size w)
  have H : (agateref03_Texts.l0 k l0 a1 ([] : List ByteArray) 0) = some (r1, r2) := h
  clear h
  have H' := Aside0.mk H
  clear H
  go_enter Try.func39, Try.ntmps39
  go_wp2
  go_loopg [6, 7] k (fun kq v6 v7 w' => ∃ (x6_1 : List ByteArray) (x7_1 : Int), v7 = .int .i64 x7_1 ∧ Aside0 (agateref03_Texts.l0 kq l0 a1 x6_1 x7_1 = some (r1, r2)) ∧ Aside0 (kq ≤ k) ∧ Aside0 (Kd.R Kd.string 9 w' w.heap.size (fun _ => True) v6 x6_1) ∧ Aside0 (Below w.heap.size w w'))
  case atStart => exact ⟨(([] : List ByteArray)), (0), (by first | rfl | (simp; done) | (simp [*]; done)), H', ⟨Nat.le_refl _⟩, ⟨by first | exact Kd.R_nil _ _ _ _ _ | exact Kd.N_nil _ _ _ _ _ | exact Kd.V_nil _ _ _ _ _ | exact Kd.Q_nil _ _ _ _ _ | exact Kd.S_nil _ _ _ _ _⟩, ⟨by repeat (first | (with_reducible first | exact HB.out | apply below_alloc | apply pw_below_drewN | apply below_drew1) | exact HB.out)⟩⟩
  case round =>
    clear H'
    try clear p2
    obtain ⟨x6_1, x7_1, rfl, HA, HK1, HO_6, HB⟩ := hrel
    cases gk with
    | zero => exact absurd HA.out (by simp [agateref03_Texts.l0])
    | succ k1 =>
      have H := HA.out
      clear HA
      simp only [agateref03_Texts.l0] at H
      by_cases c3 : x7_1 < (l0.length : Int)
      · rw [if_pos c3] at H
        have c3b0 : decide (x7_1 < (l0.length : Int)) = true := decide_eq_true c3
        clear c3
        have HC4 := Aside0.mk H
        clear H
        go_upto_region 5 with (fail)
        go_cut [28] (fun v28 wc => ∃ (kq : Nat) (x28_3 : Bool), v28 = .bool x28_3 ∧ Aside0 (agateref03_Texts.j1 kq l0 a1 x6_1 x7_1 x28_3 = some (r1, r2)) ∧ Aside0 (kq ≤ k1) ∧ Aside0 (Kd.R Kd.string 9 wc w.heap.size (fun _ => True) u6 x6_1) ∧ Aside0 (Below w.heap.size w wc))
        case first =>
          have H := HC4.out
          clear HC4
          by_cases c5 : 0 ≤ x7_1
          · rw [if_pos c5] at H
            have c5b0 : decide (0 ≤ x7_1) = true := decide_eq_true c5
            clear c5
            (first | rw [c5b0] | (simp only [i64_w, i32_w]; rw [c5b0]) | skip)
            by_cases c6 : ((rd_T50 l0 x7_1).f0) = a1
            · rw [if_pos c6] at H
              have c6b0 : (((rd_T50 l0 x7_1).f0) == a1) = true := beq_iff_eq.mpr c6
              have c6b1 : (((rd_T50 l0 x7_1).f0) != a1) = false := bne_eq_false_iff_eq.mpr c6
              clear c6
              have H' := Aside0.mk H
              clear H
              have p101 : 0 ≤ (x7_1 : Int) := of_decide_eq_true (by first | (with_reducible assumption) | assumption)
              have q101 : x7_1 < (l0.length : Int) := of_decide_eq_true (by first | (with_reducible assumption) | assumption)
              obtain ⟨ad101, e101, hx101_0, hx101_1, hx101_2, hx101_3⟩ := at_T50 HR0.out x7_1 p101 q101
              cases e101
              replace hx101_0 := (HB.out.cell (World.block_lt_of_cell? w _ hx101_0)).trans hx101_0
              replace hx101_1 := (HB.out.cell (World.block_lt_of_cell? w _ hx101_1)).trans hx101_1
              replace hx101_2 := (HB.out.cell (World.block_lt_of_cell? w _ hx101_2)).trans hx101_2
              replace hx101_3 := (HB.out.cell (World.block_lt_of_cell? w _ hx101_3)).trans hx101_3
              replace p101 := eq_true p101
              replace q101 := eq_true q101
              have p102 : 0 ≤ (x7_1 : Int) := of_decide_eq_true (by first | (with_reducible assumption) | assumption)
              have q102 : x7_1 < (l0.length : Int) := of_decide_eq_true (by first | (with_reducible assumption) | assumption)
              obtain ⟨ad102, e102, hx102_0, hx102_1, hx102_2, hx102_3⟩ := at_T50 HR0.out x7_1 p102 q102
              obtain rfl : ad101 = ad102 := (by injection e102)
              replace hx102_0 := (HB.out.cell (World.block_lt_of_cell? w _ hx102_0)).trans hx102_0
              replace hx102_1 := (HB.out.cell (World.block_lt_of_cell? w _ hx102_1)).trans hx102_1
              replace hx102_2 := (HB.out.cell (World.block_lt_of_cell? w _ hx102_2)).trans hx102_2
              replace hx102_3 := (HB.out.cell (World.block_lt_of_cell? w _ hx102_3)).trans hx102_3
              replace p102 := eq_true p102
              replace q102 := eq_true q102
              go_wp2
              go_meet
              case rel => exact ⟨_, ((((rd_T50 l0 x7_1).f1) != 2)), (by first | rfl | (simp; done) | (simp [*]; done)), H', ⟨by have := HK1.out; first | omega | exact Nat.le_refl _⟩, ⟨by (with_reducible repeat (first | apply Kd.R_alloc | apply Kd.R_drewN | apply Kd.R_drew)); exact HO_6.out⟩, ⟨by repeat (first | (with_reducible first | exact HB.out | apply below_alloc | apply pw_below_drewN | apply below_drew1) | exact HB.out)⟩⟩
            · rw [if_neg c6] at H
              have c6b0 : (((rd_T50 l0 x7_1).f0) == a1) = false := beq_eq_false_iff_ne.mpr c6
              have c6b1 : (((rd_T50 l0 x7_1).f0) != a1) = true := bne_iff_ne.mpr c6
              have H' := Aside0.mk H
              clear H
              have p101 : 0 ≤ (x7_1 : Int) := of_decide_eq_true (by first | (with_reducible assumption) | assumption)
              have q101 : x7_1 < (l0.length : Int) := of_decide_eq_true (by first | (with_reducible assumption) | assumption)
              obtain ⟨ad101, e101, hx101_0, hx101_1, hx101_2, hx101_3⟩ := at_T50 HR0.out x7_1 p101 q101
              cases e101
              replace hx101_0 := (HB.out.cell (World.block_lt_of_cell? w _ hx101_0)).trans hx101_0
              replace hx101_1 := (HB.out.cell (World.block_lt_of_cell? w _ hx101_1)).trans hx101_1
              replace hx101_2 := (HB.out.cell (World.block_lt_of_cell? w _ hx101_2)).trans hx101_2
              replace hx101_3 := (HB.out.cell (World.block_lt_of_cell? w _ hx101_3)).trans hx101_3
              replace p101 := eq_true p101
              replace q101 := eq_true q101
              go_wp2
              go_meet
              case rel => exact ⟨_, (false), (by first | rfl | (simp; done) | (simp [*]; done)), H', ⟨by have := HK1.out; first | omega | exact Nat.le_refl _⟩, ⟨by (with_reducible repeat (first | apply Kd.R_alloc | apply Kd.R_drewN | apply Kd.R_drew)); exact HO_6.out⟩, ⟨by repeat (first | (with_reducible first | exact HB.out | apply below_alloc | apply pw_below_drewN | apply below_drew1) | exact HB.out)⟩⟩
          · rw [if_neg c5] at H
            exact absurd H (by simp)
        case rest =>
          clear HC4
          try clear p1
          try clear q1
          try clear hx1
          try clear p2
          try clear c3
          try clear c3b0
          try clear c5
          try clear c5b0
          try clear c6
          try clear c6b0
          try clear c6b1
          try clear hx101_0
          try clear hx101_1
          try clear hx101_2
          try clear hx101_3
          try clear hx102_0
          try clear hx102_1
          try clear hx102_2
          try clear hx102_3
          try clear p101
          try clear p102
          try clear p2
          try clear q101
          try clear q102
          obtain ⟨kq, x28_3, rfl, HA, HJ3, HO_6, HB⟩ := hcut
          cases kq with
          | zero => exact absurd HA.out (by simp [agateref03_Texts.j1])
          | succ kj3 =>
            have H := HA.out
            clear HA
            simp only [agateref03_Texts.j1] at H
            by_cases c7 : x28_3 = true
            · subst c7
              have H1 : (some (([] : List ByteArray), 3)) = some (r1, r2) := by rw [if_pos rfl] at H; exact H
              clear H
              have H := H1
              clear H1
              simp only [Option.some.injEq, Prod.mk.injEq] at H
              obtain ⟨rfl, rfl⟩ := H
              go_wp2
              go_ret2
              exact ⟨_, by first | rfl | (simp [errW_none, errW_some] <;> rfl) | (simp [*, errW_none, errW_some] <;> rfl), by first | exact Kd.R_nil _ _ _ _ _ | exact Kd.N_nil _ _ _ _ _ | exact Kd.V_nil _ _ _ _ _ | exact Kd.Q_nil _ _ _ _ _ | exact Kd.S_nil _ _ _ _ _, by repeat (first | (with_reducible first | exact HB.out | apply below_alloc | apply pw_below_drewN | apply below_drew1) | exact HB.out)⟩
            · replace c7 := Bool.eq_false_iff.mpr c7
              subst c7
              have H1 : (if 0 ≤ x7_1 then (if x7_1 < (l0.length : Int) then (if ((rd_T50 l0 x7_1).f0) = a1 then (if x6_1.length < 8796093022208 then (agateref03_Texts.l0 kj3 l0 a1 (x6_1 ++ [(rd_T50 l0 x7_1).f3]) (wrap64 (x7_1 + 1))) else (none)) else (agateref03_Texts.l0 kj3 l0 a1 x6_1 (wrap64 (x7_1 + 1)))) else (none)) else (none)) = some (r1, r2) := by rw [if_neg (show ¬ (false = true) by decide)] at H; exact H
              clear H
              have H := H1
              clear H1
              by_cases c8 : 0 ≤ x7_1
              · rw [if_pos c8] at H
                have c8b0 : decide (0 ≤ x7_1) = true := decide_eq_true c8
                clear c8
                by_cases c9 : x7_1 < (l0.length : Int)
                · rw [if_pos c9] at H
                  have c9b0 : decide (x7_1 < (l0.length : Int)) = true := decide_eq_true c9
                  clear c9
                  by_cases c10 : ((rd_T50 l0 x7_1).f0) = a1
                  · rw [if_pos c10] at H
                    have c10b0 : (((rd_T50 l0 x7_1).f0) == a1) = true := beq_iff_eq.mpr c10
                    have c10b1 : (((rd_T50 l0 x7_1).f0) != a1) = false := bne_eq_false_iff_eq.mpr c10
                    clear c10
                    by_cases c11 : x6_1.length < 8796093022208
                    · rw [if_pos c11] at H
                      have LMc11 := Aside0.mk c11
                      clear c11
                      obtain ⟨y105, hy105⟩ : ∃ y_ : List ByteArray, y_ = (x6_1 ++ [(rd_T50 l0 x7_1).f3]) := ⟨_, rfl⟩
                      replace H : (agateref03_Texts.l0 kj3 l0 a1 y105 (wrap64 (x7_1 + 1))) = some (r1, r2) := by first | (rw [hy105]; with_reducible exact H) | (have H2_ := (Option.bind_some _ _).symm.trans H; rw [hy105]; with_reducible exact H2_) | (have H2_ := (Option.bind_some _ _).symm.trans H; with_reducible exact H2_) | with_reducible exact H | (rw [hy105]; exact H) | exact H
                      have Ny105 := Aside0.mk hy105
                      clear hy105
                      have H' := Aside0.mk H
                      clear H
                      have p103 : 0 ≤ (x7_1 : Int) := of_decide_eq_true (by first | (with_reducible assumption) | assumption)
                      have q103 : x7_1 < (l0.length : Int) := of_decide_eq_true (by first | (with_reducible assumption) | assumption)
                      obtain ⟨ad103, e103, hx103_0, hx103_1, hx103_2, hx103_3⟩ := at_T50 HR0.out x7_1 p103 q103
                      cases e103
                      replace hx103_0 := (HB.out.cell (World.block_lt_of_cell? w _ hx103_0)).trans hx103_0
                      replace hx103_1 := (HB.out.cell (World.block_lt_of_cell? w _ hx103_1)).trans hx103_1
                      replace hx103_2 := (HB.out.cell (World.block_lt_of_cell? w _ hx103_2)).trans hx103_2
                      replace hx103_3 := (HB.out.cell (World.block_lt_of_cell? w _ hx103_3)).trans hx103_3
                      replace p103 := eq_true p103
                      replace q103 := eq_true q103
                      have p104 : 0 ≤ (x7_1 : Int) := of_decide_eq_true (by first | (with_reducible assumption) | assumption)
                      have q104 : x7_1 < (l0.length : Int) := of_decide_eq_true (by first | (with_reducible assumption) | assumption)
                      obtain ⟨ad104, e104, hx104_0, hx104_1, hx104_2, hx104_3⟩ := at_T50 HR0.out x7_1 p104 q104
                      obtain rfl : ad103 = ad104 := (by injection e104)
                      replace hx104_0 := (HB.out.cell (World.block_lt_of_cell? w _ hx104_0)).trans hx104_0
                      replace hx104_1 := (HB.out.cell (World.block_lt_of_cell? w _ hx104_1)).trans hx104_1
                      replace hx104_2 := (HB.out.cell (World.block_lt_of_cell? w _ hx104_2)).trans hx104_2
                      replace hx104_3 := (HB.out.cell (World.block_lt_of_cell? w _ hx104_3)).trans hx104_3
                      replace p104 := eq_true p104
                      replace q104 := eq_true q104
                      go_wp2_with (first | ((with_reducible refine gate_builtin (b := .append) (xs := #[.tmp 36, .tmp 42]) rfl ?_); at_builtin; refine Kd.R_append Kd.string (w0 := w) w.heap.size rfl (.tmp 36) (.tmp 42) 64 9 (.string ⟨#[]⟩) 16 rfl Try.underlying64 info9 rfl (by decide) (by omega) u6 x6_1 ((rd_T50 l0 x7_1).f3) [.string ((rd_T50 l0 x7_1).f3)] (fun _ => True) (fun _ => False) rfl rfl ?aP (fun _ hk => hk.elim) ?aF ?aO ?aB ?aS ?aL ?_; (case aP => exact rfl); (case aB => exact (by repeat (first | (with_reducible first | exact HB.out | apply below_alloc | apply pw_below_drewN | apply below_drew1) | exact HB.out))); (case aF => exact (fun _ _ => trivial)); (case aO => exact (by (with_reducible repeat (first | apply Kd.R_alloc | apply Kd.R_drewN | apply Kd.R_drew)); exact HO_6.out)); (case aS => exact (below_size (by repeat (first | (with_reducible first | exact HB.out | apply below_alloc | apply pw_below_drewN | apply below_drew1) | exact HB.out)))); (case aL => have := LMc11.out; omega); intro v106 w12 ho hb hg hat; rw [← Ny105.out] at ho; have n0_ := Aside0.mk (hb); have n1_ := Aside0.mk (ho); clear HB; clear HO_6; have HB := n0_; have HO107 := n1_; clear n0_ n1_; clear ho hb hg hat))
                      go_roundg kj3
                      case measure => have := HK1.out; have := HJ3.out; omega
                      case rel => exact ⟨(y105), (wrap64 (x7_1 + 1)), (by first | rfl | (simp; done) | (simp [*]; done)), H', ⟨by have := HK1.out; have := HJ3.out; omega⟩, ⟨by (with_reducible repeat (first | apply Kd.R_alloc | apply Kd.R_drewN | apply Kd.R_drew)); exact HO107.out⟩, ⟨by repeat (first | (with_reducible first | exact HB.out | apply below_alloc | apply pw_below_drewN | apply below_drew1) | exact HB.out)⟩⟩
                    · rw [if_neg c11] at H
                      exact absurd H (by simp)
                  · rw [if_neg c10] at H
                    have c10b0 : (((rd_T50 l0 x7_1).f0) == a1) = false := beq_eq_false_iff_ne.mpr c10
                    have c10b1 : (((rd_T50 l0 x7_1).f0) != a1) = true := bne_iff_ne.mpr c10
                    have H' := Aside0.mk H
                    clear H
                    have p103 : 0 ≤ (x7_1 : Int) := of_decide_eq_true (by first | (with_reducible assumption) | assumption)
                    have q103 : x7_1 < (l0.length : Int) := of_decide_eq_true (by first | (with_reducible assumption) | assumption)
                    obtain ⟨ad103, e103, hx103_0, hx103_1, hx103_2, hx103_3⟩ := at_T50 HR0.out x7_1 p103 q103
                    cases e103
                    replace hx103_0 := (HB.out.cell (World.block_lt_of_cell? w _ hx103_0)).trans hx103_0
                    replace hx103_1 := (HB.out.cell (World.block_lt_of_cell? w _ hx103_1)).trans hx103_1
                    replace hx103_2 := (HB.out.cell (World.block_lt_of_cell? w _ hx103_2)).trans hx103_2
                    replace hx103_3 := (HB.out.cell (World.block_lt_of_cell? w _ hx103_3)).trans hx103_3
                    replace p103 := eq_true p103
                    replace q103 := eq_true q103
                    go_wp2
                    go_roundg kj3
                    case measure => have := HK1.out; have := HJ3.out; omega
                    case rel => exact ⟨(x6_1), (wrap64 (x7_1 + 1)), (by first | rfl | (simp; done) | (simp [*]; done)), H', ⟨by have := HK1.out; have := HJ3.out; omega⟩, ⟨by (with_reducible repeat (first | apply Kd.R_alloc | apply Kd.R_drewN | apply Kd.R_drew)); exact HO_6.out⟩, ⟨by repeat (first | (with_reducible first | exact HB.out | apply below_alloc | apply pw_below_drewN | apply below_drew1) | exact HB.out)⟩⟩
                · rw [if_neg c9] at H
                  exact absurd H (by simp)
              · rw [if_neg c8] at H
                exact absurd H (by simp)
      · rw [if_neg c3] at H
        have c3b0 : decide (x7_1 < (l0.length : Int)) = false := decide_eq_false c3
        clear c3
        simp only [Option.some.injEq, Prod.mk.injEq] at H
        obtain ⟨rfl, rfl⟩ := H
        go_wp2
        go_ret2
        exact ⟨_, by first | rfl | (simp [errW_none, errW_some] <;> rfl) | (simp [*, errW_none, errW_some] <;> rfl), by (with_reducible repeat (first | apply Kd.R_alloc | apply Kd.R_drewN | apply Kd.R_drew)); exact HO_6.out, by repeat (first | (with_reducible first | exact HB.out | apply below_alloc | apply pw_below_drewN | apply below_drew1) | exact HB.out)⟩

end Go.Proofs.Ytohddbiedabmhaa.X
