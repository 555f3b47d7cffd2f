import Derived.Test.YtohddbiedabmhaaMPackBack0
import Derived.Test.YtohddbiedabmhaaMPackBack4
import Derived.Test.YtohddbiedabmhaaMPackBack2
import Derived.Test.YtohddbiedabmhaaMPackBack1
-- by xprint.py, a program of this session, over the kit's print.py
namespace Go.Proofs.Ytohddbiedabmhaa.X
open Go.RowKit Go.Proofs.YtohddbiedabmhaaW.PrintWords Go.Proofs.YtohddbiedabmhaaW.PrintLast Go.Proofs.YtohddbiedabmhaaW.PrintMore
attribute [local go_sem] max2_int min2_int max_two min_two max_three min_three max_four min_four   -- for this text's walks alone
set_option linter.unusedVariables false
set_option linter.unusedSimpArgs false

def wire_fixed_s.f (a0 : ByteArray) : Option Int := if a0.size ≤ 8 then some ((lowS (ns a0) : Nat) : Int) else none
theorem wire_fixed_step (v c i : Nat) (hv : v < 256 ^ i) (hi : i ≤ 7) (hc : c < 256) :
    Go.bits .or .u64 (v : Int) (shl .u64 (IntKind.u64.wrap (c : Int)) (wrap64 (8 * (i : Int)))) = ((v + c * 256 ^ i : Nat) : Int) := by
  have e0 : wrap64 (8 * (i : Int)) = ((8 * i : Nat) : Int) := by rw [wrap64_id (by omega) (by omega)]; omega
  have hp : (256 : Nat) ^ i = 2 ^ (8 * i) := by rw [Nat.pow_mul]
  have h1 : 256 ^ i ≤ 256 ^ 7 := Nat.pow_le_pow_right (by decide) hi
  have h2 : c * 256 ^ i ≤ 255 * 256 ^ i := Nat.mul_le_mul_right _ (by omega)
  have e1 : shl .u64 (IntKind.u64.wrap (c : Int)) (wrap64 (8 * (i : Int))) = ((c * 2 ^ (8 * i) : Nat) : Int) := by
    rw [e0, u64_id (by omega) (by omega)]
    show IntKind.u64.wrap ((c : Int) * 2 ^ min ((8 * i : Nat) : Int).toNat 64) = _
    rw [Int.toNat_natCast, Nat.min_eq_left (by omega), u64_id]
    · simp
    · exact Int.mul_nonneg (by omega) (Int.pow_nonneg (by decide))
    · have : ((c : Int) * 2 ^ (8 * i)) = ((c * 2 ^ (8 * i) : Nat) : Int) := by simp
      rw [this, ← hp]; omega
  rw [e1, u64_or_nat _ _ (by omega) (by rw [← hp]; omega), Nat.or_comm, Nat.mul_comm, ← Nat.two_pow_add_eq_or_of_lt (by rw [← hp]; exact hv), ← hp, Nat.mul_comm, Nat.add_comm]
theorem wire_fixed_eval (s : ByteArray) (hs : s.size ≤ 8) (d : Nat) : ∀ (k i : Nat), s.size - i = d → i ≤ s.size → d < k →
    wire_fixed.l0 k s (lowS ((ns s).take i) : Nat) (s.size : Int) (i : Int) = some ((lowS (ns s) : Nat) : Int) := by
  induction d with
  | zero =>
    intro k i hd hi hk
    obtain ⟨k, rfl⟩ : ∃ m, k = m + 1 := ⟨k - 1, by omega⟩
    simp only [wire_fixed.l0]
    rw [if_neg (by omega), List.take_of_length_le (by rw [ns_length]; omega)]
  | succ d ih =>
    intro k i hd hi hk
    obtain ⟨k, rfl⟩ : ∃ m, k = m + 1 := ⟨k - 1, by omega⟩
    have hlt : i < s.size := by omega
    have hb : bt s (i : Int) = ((s[i]'hlt).toNat : Int) := bt_ns s i hlt
    have hl : ((ns s).take i).length = i := by rw [List.length_take, ns_length]; omega
    have hv : lowS ((ns s).take i) < 256 ^ i := by
      have := lowS_lt ((ns s).take i) (fun c hc => ns_lt s c (List.mem_of_mem_take hc))
      rwa [hl] at this
    have ht : (ns s).take (i + 1) = (ns s).take i ++ [(s[i]'hlt).toNat] := by
      rw [List.take_succ_eq_append_getElem (by rw [ns_length]; exact hlt), ns_get s i hlt]
    simp only [wire_fixed.l0]
    rw [if_pos (by omega), if_pos (by omega), if_pos (by omega), if_pos (by rw [wrap64_id (by omega) (by omega)]; omega), hb, wire_fixed_step _ _ i hv (by omega) (s[i]'hlt).toNat_lt]
    have := ih k (i + 1) (by omega) (by omega) (by omega)
    rw [ht, lowS_snoc, hl] at this
    rw [wrap64_id (by omega) (by omega)]
    exact this
theorem wire_fixed_s.ev (a0 : ByteArray) (r) (h : wire_fixed_s.f a0 = some r) : ∃ k, wire_fixed.f k a0 = some r := by
  unfold wire_fixed_s.f at h
  split at h
  · rename_i hs
    exact ⟨a0.size + 1, (wire_fixed_eval a0 hs a0.size (a0.size + 1) 0 (by omega) (by omega) (by omega)).trans h⟩
  · cases h

set_option maxHeartbeats 1000000 in
theorem wire_fixed_s.calls (a0 : ByteArray) (r : Int) (w : World) (h : wire_fixed_s.f a0 = some r) :
    Calls Try.prog 50 #[.string a0] w fun e w' => e = .returned (.int .u64 r) ∧ Drawn0 w w' := by
  obtain ⟨k, hk⟩ := wire_fixed_s.ev a0 _ h
  exact wire_fixed.calls k a0 r w hk

end Go.Proofs.Ytohddbiedabmhaa.X
-- by xprint.py, a program of this session, over the kit's print.py
namespace Go.Proofs.Ytohddbiedabmhaa.X
open Go.RowKit Go.Proofs.YtohddbiedabmhaaW.PrintWords Go.Proofs.YtohddbiedabmhaaW.PrintLast Go.Proofs.YtohddbiedabmhaaW.PrintMore
attribute [local go_sem] max2_int min2_int max_two min_two max_three min_three max_four min_four   -- for this text's walks alone
set_option linter.unusedVariables false
set_option linter.unusedSimpArgs false

/-! ### wire_one: function 42 -/
def wire_one.j0 : Nat → ByteArray → Int → Int → Int → Bool → Int → Int → Int → ByteArray → Option (Int × Int × Int × ByteArray × Int × Int)
  | 0, _, _, _, _, _, _, _, _, _ => none
  | k + 1, x0, x6, x9, x40, x41, x107000, x107001, x107002, x107003 => if x41 = true then (if 0 ≤ x6 then (if x6 ≤ (x0.size : Int) then ((varint_Read.f (x0.extract (x6 : Int).toNat x0.size)).bind fun bt107 => (if bt107.2.2 = 0 then (if x107001 = 0 then (some (x107000, x107001, bt107.1, x107003, wrap64 (x6 + bt107.2.1), 0)) else (if bt107.1 > (IntKind.u64.wrap (wrap64 ((x0.size : Int) - (wrap64 (x6 + bt107.2.1))))) then (some (0, 0, 0, (⟨#[]⟩ : ByteArray), 0, 1)) else (if 0 ≤ (wrap64 (x6 + bt107.2.1)) then (if (wrap64 (x6 + bt107.2.1)) ≤ (wrap64 ((wrap64 (x6 + bt107.2.1)) + (wrap64 (bt107.1)))) then (if (wrap64 ((wrap64 (x6 + bt107.2.1)) + (wrap64 (bt107.1)))) ≤ (x0.size : Int) then (some (x107000, x107001, x107002, x0.extract ((wrap64 (x6 + bt107.2.1)) : Int).toNat ((wrap64 ((wrap64 (x6 + bt107.2.1)) + (wrap64 (bt107.1)))) : Int).toNat, wrap64 ((wrap64 (x6 + bt107.2.1)) + (wrap64 (bt107.1))), 0)) else (none)) else (none)) else (none)))) else (some (0, 0, 0, (⟨#[]⟩ : ByteArray), 0, bt107.2.2)))) else (none)) else (none)) else (if x40 = 5 then (if (wrap64 ((x0.size : Int) - x6)) < 4 then (some (0, 0, 0, (⟨#[]⟩ : ByteArray), 0, 1)) else (if 0 ≤ x6 then (if x6 ≤ (wrap64 (x6 + 4)) then (if (wrap64 (x6 + 4)) ≤ (x0.size : Int) then ((wire_fixed_s.f (x0.extract (x6 : Int).toNat ((wrap64 (x6 + 4)) : Int).toNat)).bind fun t110 => (some (x107000, x107001, t110, x107003, wrap64 (x6 + 4), 0))) else (none)) else (none)) else (none))) else (if (wrap64 ((x0.size : Int) - x6)) < x9 then (some (0, 0, 0, (⟨#[]⟩ : ByteArray), 0, 1)) else (if 0 ≤ x6 then (if x6 ≤ (wrap64 (x6 + x9)) then (if (wrap64 (x6 + x9)) ≤ (x0.size : Int) then ((wire_fixed_s.f (x0.extract (x6 : Int).toNat ((wrap64 (x6 + x9)) : Int).toNat)).bind fun t111 => (some (x107000, x107001, t111, x107003, wrap64 (x6 + x9), 0))) else (none)) else (none)) else (none))))
def wire_one.f (k : Nat) (a0 : ByteArray) : Option (Int × Int × Int × ByteArray × Int × Int) := (varint_Read.f a0).bind fun bt102 => (if bt102.2.2 = 0 then ((wire_may.f (bt102.1 / 8) (Go.bits .and .u64 bt102.1 7)).bind fun t105 => (if t105 = true then (if (wrap64 (Go.bits .and .u64 bt102.1 7)) = 0 then (wire_one.j0 k a0 bt102.2.1 8 (wrap64 (Go.bits .and .u64 bt102.1 7)) ((wrap64 (Go.bits .and .u64 bt102.1 7)) == 0) (wrap64 (bt102.1 / 8)) (wrap64 (Go.bits .and .u64 bt102.1 7)) 0 (⟨#[]⟩ : ByteArray)) else (wire_one.j0 k a0 bt102.2.1 8 (wrap64 (Go.bits .and .u64 bt102.1 7)) ((wrap64 (Go.bits .and .u64 bt102.1 7)) == 2) (wrap64 (bt102.1 / 8)) (wrap64 (Go.bits .and .u64 bt102.1 7)) 0 (⟨#[]⟩ : ByteArray))) else (some (0, 0, 0, (⟨#[]⟩ : ByteArray), 0, 3)))) else (some (0, 0, 0, (⟨#[]⟩ : ByteArray), 0, bt102.2.2)))
theorem wire_one.mono_l : ∀ k, (∀ y0 y1 y2 y3 y4 y5 y6 y7 y8, LeO (wire_one.j0 k y0 y1 y2 y3 y4 y5 y6 y7 y8) (wire_one.j0 (k + 1) y0 y1 y2 y3 y4 y5 y6 y7 y8))
  | 0 => fun _ _ _ _ _ _ _ _ _ r h => by simp [wire_one.j0] at h
  | k + 1 => by
    have ih0 := wire_one.mono_l k
    · intro y0 y1 y2 y3 y4 y5 y6 y7 y8
      unfold wire_one.j0
      repeat' first
      | (with_reducible exact ih0 _ _ _ _ _ _ _ _ _)
      | (with_reducible exact LeO.refl _)
      | (with_reducible exact LeO.none _)
      | (with_reducible refine LeO.ite ?_ ?_)
      | (with_reducible refine LeO.bind ?_ (fun _ => ?_))
      | exact ih0 _ _ _ _ _ _ _ _ _
      | exact LeO.none _
      | refine LeO.ite ?_ ?_
      | refine LeO.bind ?_ (fun _ => ?_)
theorem wire_one.mono : ∀ a0 k, LeO (wire_one.f k a0) (wire_one.f (k + 1) a0) := by
  intro a0 k
  have ih0 := wire_one.mono_l k
  unfold wire_one.f
  repeat' first
      | (with_reducible exact ih0 _ _ _ _ _ _ _ _ _)
      | (with_reducible exact LeO.refl _)
      | (with_reducible exact LeO.none _)
      | (with_reducible refine LeO.ite ?_ ?_)
      | (with_reducible refine LeO.bind ?_ (fun _ => ?_))
      | exact ih0 _ _ _ _ _ _ _ _ _
      | exact LeO.none _
      | refine LeO.ite ?_ ?_
      | refine LeO.bind ?_ (fun _ => ?_)
set_option maxHeartbeats 8000000 in
set_option maxRecDepth 100000 in
theorem wire_one.calls (k : Nat) (a0 : ByteArray) (r1 : Int) (r2 : Int) (r3 : Int) (r4 : ByteArray) (r5 : Int) (r6 : Int) (w : World) (h : wire_one.f k a0 = some (r1, r2, r3, r4, r5, r6)) :
    Calls Try.prog 42 #[.string a0] w fun e w' => e = .returned (.tuple #[.agg #[.int .i64 r1, .int .i64 r2, .int .u64 r3, .string r4], .int .i64 r5, .int .i64 r6]) ∧ Below w.heap.size w w' := by
  have hu47 := Try.underlying47
  have HB := Aside0.mk (Below.refl w.heap.size w)
  have H : ((varint_Read.f a0).bind fun bt102 => (if bt102.2.2 = 0 then ((wire_may.f (bt102.1 / 8) (Go.bits .and .u64 bt102.1 7)).bind fun t105 => (if t105 = true then (if (wrap64 (Go.bits .and .u64 bt102.1 7)) = 0 then (wire_one.j0 k a0 bt102.2.1 8 (wrap64 (Go.bits .and .u64 bt102.1 7)) ((wrap64 (Go.bits .and .u64 bt102.1 7)) == 0) (wrap64 (bt102.1 / 8)) (wrap64 (Go.bits .and .u64 bt102.1 7)) 0 (⟨#[]⟩ : ByteArray)) else (wire_one.j0 k a0 bt102.2.1 8 (wrap64 (Go.bits .and .u64 bt102.1 7)) ((wrap64 (Go.bits .and .u64 bt102.1 7)) == 2) (wrap64 (bt102.1 / 8)) (wrap64 (Go.bits .and .u64 bt102.1 7)) 0 (⟨#[]⟩ : ByteArray))) else (some (0, 0, 0, (⟨#[]⟩ : ByteArray), 0, 3)))) else (some (0, 0, 0, (⟨#[]⟩ : ByteArray), 0, bt102.2.2)))) = some (r1, r2, r3, r4, r5, r6) := h
  clear h
  replace H := Option.bind_eq_some_iff.mp H
  obtain ⟨⟨t102, t103, t104⟩, A20, H⟩ := H
  replace H : (if t104 = 0 then ((wire_may.f (t102 / 8) (Go.bits .and .u64 t102 7)).bind fun t105 => (if t105 = true then (if (wrap64 (Go.bits .and .u64 t102 7)) = 0 then (wire_one.j0 k a0 t103 8 (wrap64 (Go.bits .and .u64 t102 7)) ((wrap64 (Go.bits .and .u64 t102 7)) == 0) (wrap64 (t102 / 8)) (wrap64 (Go.bits .and .u64 t102 7)) 0 (⟨#[]⟩ : ByteArray)) else (wire_one.j0 k a0 t103 8 (wrap64 (Go.bits .and .u64 t102 7)) ((wrap64 (Go.bits .and .u64 t102 7)) == 2) (wrap64 (t102 / 8)) (wrap64 (Go.bits .and .u64 t102 7)) 0 (⟨#[]⟩ : ByteArray))) else (some (0, 0, 0, (⟨#[]⟩ : ByteArray), 0, 3)))) else (some (0, 0, 0, (⟨#[]⟩ : ByteArray), 0, t104))) = some (r1, r2, r3, r4, r5, r6) := H
  have A2 := Aside0.mk A20
  clear A20
  by_cases c3 : t104 = 0
  · rw [if_pos c3] at H
    have c3b0 : (t104 == 0) = true := beq_iff_eq.mpr c3
    have c3b1 : (t104 != 0) = false := bne_eq_false_iff_eq.mpr c3
    clear c3
    replace H := Option.bind_eq_some_iff.mp H
    obtain ⟨t105, A40, H⟩ := H
    replace H : (if t105 = true then (if (wrap64 (Go.bits .and .u64 t102 7)) = 0 then (wire_one.j0 k a0 t103 8 (wrap64 (Go.bits .and .u64 t102 7)) ((wrap64 (Go.bits .and .u64 t102 7)) == 0) (wrap64 (t102 / 8)) (wrap64 (Go.bits .and .u64 t102 7)) 0 (⟨#[]⟩ : ByteArray)) else (wire_one.j0 k a0 t103 8 (wrap64 (Go.bits .and .u64 t102 7)) ((wrap64 (Go.bits .and .u64 t102 7)) == 2) (wrap64 (t102 / 8)) (wrap64 (Go.bits .and .u64 t102 7)) 0 (⟨#[]⟩ : ByteArray))) else (some (0, 0, 0, (⟨#[]⟩ : ByteArray), 0, 3))) = some (r1, r2, r3, r4, r5, r6) := H
    have A4 := Aside0.mk A40
    clear A40
    by_cases c5 : t105 = true
    · subst c5
      have H1 : (if (wrap64 (Go.bits .and .u64 t102 7)) = 0 then (wire_one.j0 k a0 t103 8 (wrap64 (Go.bits .and .u64 t102 7)) ((wrap64 (Go.bits .and .u64 t102 7)) == 0) (wrap64 (t102 / 8)) (wrap64 (Go.bits .and .u64 t102 7)) 0 (⟨#[]⟩ : ByteArray)) else (wire_one.j0 k a0 t103 8 (wrap64 (Go.bits .and .u64 t102 7)) ((wrap64 (Go.bits .and .u64 t102 7)) == 2) (wrap64 (t102 / 8)) (wrap64 (Go.bits .and .u64 t102 7)) 0 (⟨#[]⟩ : ByteArray))) = some (r1, r2, r3, r4, r5, r6) := by rw [if_pos rfl] at H; exact H
      clear H
      have H := H1
      clear H1
      have HC6 := Aside0.mk H
      clear H
      go_enter Try.func42, Try.ntmps42
      go_upto_if 41 with (first | ((with_reducible refine gate_dst (N := 2) rfl ?_); refine box_event ?hg (N := 2) ?hd (cs := #[.int .i64 0, .int .i64 0, .int .u64 0, .string (⟨#[]⟩ : ByteArray)]) (t := 47) ?hr ?_; (case hd => rfl); (case hg => rfl); (case hr => first | (go_simp; done) | (go_simp; rfl)); intro gb101 hg w7 hbox hb; have n0_ := Aside0.mk (below_step (by repeat (first | (with_reducible first | exact HB.out | apply below_alloc | apply pw_below_drewN | apply below_drew1) | exact HB.out)) hb); have n1_ := Aside0.mk (hbox); have n2_ := Aside0.mk ((by rw [hg]; exact (below_size (by repeat (first | (with_reducible first | exact HB.out | apply below_alloc | apply pw_below_drewN | apply below_drew1) | exact HB.out))) : w.heap.size ≤ gb101)); have n3_ := Aside0.mk ((by rw [hg]; exact (below_size (by repeat (first | (with_reducible first | exact HB.out | apply below_alloc | apply pw_below_drewN | apply below_drew1) | exact HB.out))) : w.heap.size ≤ gb101)); clear HB; have HB := n0_; have BK101 := n1_; have GW101 := n2_; have GE101 := n3_; clear n0_ n1_ n2_ n3_; clear hb hbox hg) | ((with_reducible refine gate_callee (f := 13) rfl ?_); refine goesL_ (some 15) rfl rfl Try.func13 (by kernel_rfl) rfl #[.string a0] rfl (by (try simp only [List.map_toArray, List.map_cons, List.map_nil]); first | done | rfl | (simp only [List.length_drop, List.length_take]; rfl)) ?_; (with_reducible refine (varint_Read.calls a0 t102 t103 t104 _ A2.out).mono ?_); rintro e w' ⟨rfl, ⟨nd, rfl⟩⟩; refine ⟨_, rfl, ?_⟩; (try (rw [drewN_self w7]; generalize hq_ : World.drewN w7 _ = w7; have n0_ : Aside0 (w7.heap[gb101]? = some (.cells #[.int .i64 0, .int .i64 0, .int .u64 0, .string (⟨#[]⟩ : ByteArray)] 47 (0, 0))) := ⟨by rw [← hq_]; exact (by (with_reducible repeat (first | refine blk_drewN ?_ _ | refine blk_drew ?_ | refine blk_alloc ?_ _)); exact BK101.out)⟩; have n1_ : Aside0 (Below w.heap.size w w7) := ⟨by rw [← hq_]; exact (by repeat (first | (with_reducible first | exact HB.out | apply below_alloc | apply pw_below_drewN | apply below_drew1 | refine below_set ?_ GE101.out) | exact HB.out))⟩; clear BK101 HB hq_; have BK101 := n0_; have HB := n1_; clear n0_ n1_))) | ((with_reducible refine gate_callee (f := 45) rfl ?_); refine goesL_ (some 29) rfl rfl Try.func45 (by kernel_rfl) rfl #[.int .u64 (t102 / 8), .int .u64 (Go.bits .and .u64 t102 7)] rfl (by (try simp only [List.map_toArray, List.map_cons, List.map_nil]); first | done | rfl | (simp only [List.length_drop, List.length_take]; rfl)) ?_; (with_reducible refine (wire_may.calls (t102 / 8) (Go.bits .and .u64 t102 7) true _ A4.out).mono ?_); rintro e w' ⟨rfl, ⟨nd, rfl⟩⟩; refine ⟨_, rfl, ?_⟩; (try (rw [drewN_self w7]; generalize hq_ : World.drewN w7 _ = w7; have n0_ : Aside0 (w7.heap[gb101]? = some (.cells #[.int .i64 0, .int .i64 0, .int .u64 0, .string (⟨#[]⟩ : ByteArray)] 47 (0, 0))) := ⟨by rw [← hq_]; exact (by (with_reducible repeat (first | refine blk_drewN ?_ _ | refine blk_drew ?_ | refine blk_alloc ?_ _)); exact BK101.out)⟩; have n1_ : Aside0 (Below w.heap.size w w7) := ⟨by rw [← hq_]; exact (by repeat (first | (with_reducible first | exact HB.out | apply below_alloc | apply pw_below_drewN | apply below_drew1 | refine below_set ?_ GE101.out) | exact HB.out))⟩; clear BK101 HB hq_; have BK101 := n0_; have HB := n1_; clear n0_ n1_))) | ((with_reducible refine gate_dst (N := 8) rfl ?_); refine box_event ?hg (N := 8) ?hd (cs := #[.int .i64 0, .int .i64 0, .int .u64 0, .string (⟨#[]⟩ : ByteArray)]) (t := 47) ?hr ?_; (case hd => rfl); (case hg => rfl); (case hr => first | (go_simp; done) | (go_simp; rfl)); intro gb106 hg w8 hbox hb; have n0_ := Aside0.mk (blk_below (g := gb101) (o := .cells #[.int .i64 0, .int .i64 0, .int .u64 0, .string (⟨#[]⟩ : ByteArray)] 47 (0, 0)) (by (with_reducible repeat (first | refine blk_drewN ?_ _ | refine blk_drew ?_ | refine blk_alloc ?_ _)); exact BK101.out) hb); have n1_ := Aside0.mk (below_step (by repeat (first | (with_reducible first | exact HB.out | apply below_alloc | apply pw_below_drewN | apply below_drew1 | refine below_set ?_ GE101.out) | exact HB.out)) hb); have n2_ := Aside0.mk (hbox); have n3_ := Aside0.mk ((by rw [hg]; exact (below_size (by repeat (first | (with_reducible first | exact HB.out | apply below_alloc | apply pw_below_drewN | apply below_drew1 | refine below_set ?_ GE101.out) | exact HB.out))) : w.heap.size ≤ gb106)); have n4_ := Aside0.mk ((by rw [hg]; exact (below_size (by repeat (first | (with_reducible first | exact HB.out | apply below_alloc | apply pw_below_drewN | apply below_drew1 | refine below_set ?_ GE101.out) | exact HB.out))) : w.heap.size ≤ gb106)); have n5_ := Aside0.mk ((by rw [hg]; exact Nat.ne_of_lt (blk_lt (g := gb101) (o := .cells #[.int .i64 0, .int .i64 0, .int .u64 0, .string (⟨#[]⟩ : ByteArray)] 47 (0, 0)) (by (with_reducible repeat (first | refine blk_drewN ?_ _ | refine blk_drew ?_ | refine blk_alloc ?_ _)); exact BK101.out)) : gb101 ≠ gb106)); have n6_ := Aside0.mk ((by rw [hg]; exact Nat.ne_of_gt (blk_lt (g := gb101) (o := .cells #[.int .i64 0, .int .i64 0, .int .u64 0, .string (⟨#[]⟩ : ByteArray)] 47 (0, 0)) (by (with_reducible repeat (first | refine blk_drewN ?_ _ | refine blk_drew ?_ | refine blk_alloc ?_ _)); exact BK101.out)) : gb106 ≠ gb101)); clear BK101; clear HB; have BK101 := n0_; have HB := n1_; have BK106 := n2_; have GW106 := n3_; have GE106 := n4_; have NB101_106 := n5_; have NB106_101 := n6_; clear n0_ n1_ n2_ n3_ n4_ n5_ n6_; clear hb hbox hg; have hnb9 := NB106_101.out; have hnc9 := NB101_106.out; have hcz10_0 : w8.cell? ⟨gb106, 0, none⟩ = some (.int .i64 0) := (blk_cell BK106.out 0).trans rfl; have hcz10_1 : w8.cell? ⟨gb106, 1, none⟩ = some (.int .i64 0) := (blk_cell BK106.out 1).trans rfl; have hcz10_2 : w8.cell? ⟨gb106, 2, none⟩ = some (.int .u64 0) := (blk_cell BK106.out 2).trans rfl; have hcz10_3 : w8.cell? ⟨gb106, 3, none⟩ = some (.string (⟨#[]⟩ : ByteArray)) := (blk_cell BK106.out 3).trans rfl; have hfz10_0 := blk_frozen BK106.out 0; have hfz10_1 := blk_frozen BK106.out 1; have hfz10_2 := blk_frozen BK106.out 2; have hfz10_3 := blk_frozen BK106.out 3))
      (try simp only [Act.put, List.setIfInBounds_toArray, List.set_cons_zero, List.set_cons_succ])
      go_cut [41] (fun v41 wc => ∃ (kq : Nat) (x41_5 : Bool), v41 = .bool x41_5 ∧ Aside0 (wire_one.j0 kq a0 t103 8 (wrap64 (Go.bits .and .u64 t102 7)) x41_5 (wrap64 (t102 / 8)) (wrap64 (Go.bits .and .u64 t102 7)) 0 (⟨#[]⟩ : ByteArray) = some (r1, r2, r3, r4, r5, r6)) ∧ Aside0 (kq ≤ k) ∧ Aside0 (wc.heap[gb101]? = some (.cells #[.int .i64 0, .int .i64 0, .int .u64 0, .string (⟨#[]⟩ : ByteArray)] 47 (0, 0))) ∧ Aside0 (wc.heap[gb106]? = some (.cells #[.int .i64 (wrap64 (t102 / 8)), .int .i64 (wrap64 (Go.bits .and .u64 t102 7)), .int .u64 0, .string (⟨#[]⟩ : ByteArray)] 47 (0, 0))) ∧ Aside0 (Below w.heap.size w wc))
      case first =>
        have H := HC6.out
        clear HC6
        by_cases c11 : (wrap64 (Go.bits .and .u64 t102 7)) = 0
        · rw [if_pos c11] at H
          have c11b0 : ((wrap64 (Go.bits .and .u64 t102 7)) == 0) = true := beq_iff_eq.mpr c11
          have c11b1 : ((wrap64 (Go.bits .and .u64 t102 7)) != 0) = false := bne_eq_false_iff_eq.mpr c11
          clear c11
          (first | rw [c11b0] | (simp only [i64_w, i32_w]; rw [c11b0]) | skip)
          have H' := Aside0.mk H
          clear H
          go_wp2
          go_meet
          case rel => exact ⟨_, (((wrap64 (Go.bits .and .u64 t102 7)) == 0)), (by first | rfl | (simp; done) | (simp [*]; done)), H', ⟨by first | omega | exact Nat.le_refl _⟩, ⟨by (with_reducible repeat (first | refine blk_drewN ?_ _ | refine blk_drew ?_ | refine blk_alloc ?_ _)); refine blk_far ?_ NB101_106.out _; (with_reducible repeat (first | refine blk_drewN ?_ _ | refine blk_drew ?_ | refine blk_alloc ?_ _)); refine blk_far ?_ NB101_106.out _; (with_reducible repeat (first | refine blk_drewN ?_ _ | refine blk_drew ?_ | refine blk_alloc ?_ _)); refine blk_far ?_ NB101_106.out _; (with_reducible repeat (first | refine blk_drewN ?_ _ | refine blk_drew ?_ | refine blk_alloc ?_ _)); refine blk_far ?_ NB101_106.out _; (with_reducible repeat (first | refine blk_drewN ?_ _ | refine blk_drew ?_ | refine blk_alloc ?_ _)); exact BK101.out⟩, ⟨by (with_reducible repeat (first | refine blk_drewN ?_ _ | refine blk_drew ?_ | refine blk_alloc ?_ _)); refine blk_put (cs := #[.int .i64 (wrap64 (t102 / 8)), .int .i64 (wrap64 (Go.bits .and .u64 t102 7)), .int .u64 0, .string (⟨#[]⟩ : ByteArray)]) ?_ 3 _ rfl; (with_reducible repeat (first | refine blk_drewN ?_ _ | refine blk_drew ?_ | refine blk_alloc ?_ _)); refine blk_put (cs := #[.int .i64 (wrap64 (t102 / 8)), .int .i64 (wrap64 (Go.bits .and .u64 t102 7)), .int .u64 0, .string (⟨#[]⟩ : ByteArray)]) ?_ 2 _ rfl; (with_reducible repeat (first | refine blk_drewN ?_ _ | refine blk_drew ?_ | refine blk_alloc ?_ _)); refine blk_put (cs := #[.int .i64 (wrap64 (t102 / 8)), .int .i64 0, .int .u64 0, .string (⟨#[]⟩ : ByteArray)]) ?_ 1 _ rfl; (with_reducible repeat (first | refine blk_drewN ?_ _ | refine blk_drew ?_ | refine blk_alloc ?_ _)); refine blk_put (cs := #[.int .i64 0, .int .i64 0, .int .u64 0, .string (⟨#[]⟩ : ByteArray)]) ?_ 0 _ rfl; (with_reducible repeat (first | refine blk_drewN ?_ _ | refine blk_drew ?_ | refine blk_alloc ?_ _)); exact BK106.out⟩, ⟨by repeat (first | (with_reducible first | exact HB.out | apply below_alloc | apply pw_below_drewN | apply below_drew1 | refine below_set ?_ GE101.out | refine below_set ?_ GE106.out) | exact HB.out)⟩⟩
        · rw [if_neg c11] at H
          have c11b0 : ((wrap64 (Go.bits .and .u64 t102 7)) == 0) = false := beq_eq_false_iff_ne.mpr c11
          have c11b1 : ((wrap64 (Go.bits .and .u64 t102 7)) != 0) = true := bne_iff_ne.mpr c11
          (first | rw [c11b0] | (simp only [i64_w, i32_w]; rw [c11b0]) | skip)
          have H' := Aside0.mk H
          clear H
          go_wp2
          go_meet
          case rel => exact ⟨_, (((wrap64 (Go.bits .and .u64 t102 7)) == 2)), (by first | rfl | (simp; done) | (simp [*]; done)), H', ⟨by first | omega | exact Nat.le_refl _⟩, ⟨by (with_reducible repeat (first | refine blk_drewN ?_ _ | refine blk_drew ?_ | refine blk_alloc ?_ _)); refine blk_far ?_ NB101_106.out _; (with_reducible repeat (first | refine blk_drewN ?_ _ | refine blk_drew ?_ | refine blk_alloc ?_ _)); refine blk_far ?_ NB101_106.out _; (with_reducible repeat (first | refine blk_drewN ?_ _ | refine blk_drew ?_ | refine blk_alloc ?_ _)); refine blk_far ?_ NB101_106.out _; (with_reducible repeat (first | refine blk_drewN ?_ _ | refine blk_drew ?_ | refine blk_alloc ?_ _)); refine blk_far ?_ NB101_106.out _; (with_reducible repeat (first | refine blk_drewN ?_ _ | refine blk_drew ?_ | refine blk_alloc ?_ _)); exact BK101.out⟩, ⟨by (with_reducible repeat (first | refine blk_drewN ?_ _ | refine blk_drew ?_ | refine blk_alloc ?_ _)); refine blk_put (cs := #[.int .i64 (wrap64 (t102 / 8)), .int .i64 (wrap64 (Go.bits .and .u64 t102 7)), .int .u64 0, .string (⟨#[]⟩ : ByteArray)]) ?_ 3 _ rfl; (with_reducible repeat (first | refine blk_drewN ?_ _ | refine blk_drew ?_ | refine blk_alloc ?_ _)); refine blk_put (cs := #[.int .i64 (wrap64 (t102 / 8)), .int .i64 (wrap64 (Go.bits .and .u64 t102 7)), .int .u64 0, .string (⟨#[]⟩ : ByteArray)]) ?_ 2 _ rfl; (with_reducible repeat (first | refine blk_drewN ?_ _ | refine blk_drew ?_ | refine blk_alloc ?_ _)); refine blk_put (cs := #[.int .i64 (wrap64 (t102 / 8)), .int .i64 0, .int .u64 0, .string (⟨#[]⟩ : ByteArray)]) ?_ 1 _ rfl; (with_reducible repeat (first | refine blk_drewN ?_ _ | refine blk_drew ?_ | refine blk_alloc ?_ _)); refine blk_put (cs := #[.int .i64 0, .int .i64 0, .int .u64 0, .string (⟨#[]⟩ : ByteArray)]) ?_ 0 _ rfl; (with_reducible repeat (first | refine blk_drewN ?_ _ | refine blk_drew ?_ | refine blk_alloc ?_ _)); exact BK106.out⟩, ⟨by repeat (first | (with_reducible first | exact HB.out | apply below_alloc | apply pw_below_drewN | apply below_drew1 | refine below_set ?_ GE101.out | refine below_set ?_ GE106.out) | exact HB.out)⟩⟩
      case rest =>
        clear HC6
        try clear c1
        try clear p2
        try clear c3
        try clear c3b0
        try clear c3b1
        try clear c4
        try clear c5
        try clear p6
        try clear c9
        try clear c11
        try clear c11b0
        try clear c11b1
        try clear hcz10_0
        try clear hcz10_1
        try clear hcz10_2
        try clear hcz10_3
        try clear hfz10_0
        try clear hfz10_1
        try clear hfz10_2
        try clear hfz10_3
        obtain ⟨kq, x41_5, rfl, HA, HJ5, BK101, BK106, HB⟩ := hcut
        cases kq with
        | zero => exact absurd HA.out (by simp [wire_one.j0])
        | succ kj5 =>
          have H := HA.out
          clear HA
          simp only [wire_one.j0] at H
          by_cases c12 : x41_5 = true
          · subst c12
            have H1 : (if 0 ≤ t103 then (if t103 ≤ (a0.size : Int) then ((varint_Read.f (a0.extract (t103 : Int).toNat a0.size)).bind fun bt107 => (if bt107.2.2 = 0 then (if (wrap64 (Go.bits .and .u64 t102 7)) = 0 then (some ((wrap64 (t102 / 8)), (wrap64 (Go.bits .and .u64 t102 7)), bt107.1, (⟨#[]⟩ : ByteArray), wrap64 (t103 + bt107.2.1), 0)) else (if bt107.1 > (IntKind.u64.wrap (wrap64 ((a0.size : Int) - (wrap64 (t103 + bt107.2.1))))) then (some (0, 0, 0, (⟨#[]⟩ : ByteArray), 0, 1)) else (if 0 ≤ (wrap64 (t103 + bt107.2.1)) then (if (wrap64 (t103 + bt107.2.1)) ≤ (wrap64 ((wrap64 (t103 + bt107.2.1)) + (wrap64 (bt107.1)))) then (if (wrap64 ((wrap64 (t103 + bt107.2.1)) + (wrap64 (bt107.1)))) ≤ (a0.size : Int) then (some ((wrap64 (t102 / 8)), (wrap64 (Go.bits .and .u64 t102 7)), 0, a0.extract ((wrap64 (t103 + bt107.2.1)) : Int).toNat ((wrap64 ((wrap64 (t103 + bt107.2.1)) + (wrap64 (bt107.1)))) : Int).toNat, wrap64 ((wrap64 (t103 + bt107.2.1)) + (wrap64 (bt107.1))), 0)) else (none)) else (none)) else (none)))) else (some (0, 0, 0, (⟨#[]⟩ : ByteArray), 0, bt107.2.2)))) else (none)) else (none)) = some (r1, r2, r3, r4, r5, r6) := by rw [if_pos rfl] at H; exact H
            clear H
            have H := H1
            clear H1
            by_cases c13 : 0 ≤ t103
            · rw [if_pos c13] at H
              have c13b0 := eq_true c13
              have c13b1 : decide (0 ≤ t103) = true := decide_eq_true c13
              clear c13
              by_cases c14 : t103 ≤ (a0.size : Int)
              · rw [if_pos c14] at H
                have c14b0 := eq_true c14
                have c14b1 : decide (t103 ≤ (a0.size : Int)) = true := decide_eq_true c14
                clear c14
                replace H := Option.bind_eq_some_iff.mp H
                obtain ⟨⟨t107, t108, t109⟩, A150, H⟩ := H
                replace H : (if t109 = 0 then (if (wrap64 (Go.bits .and .u64 t102 7)) = 0 then (some ((wrap64 (t102 / 8)), (wrap64 (Go.bits .and .u64 t102 7)), t107, (⟨#[]⟩ : ByteArray), wrap64 (t103 + t108), 0)) else (if t107 > (IntKind.u64.wrap (wrap64 ((a0.size : Int) - (wrap64 (t103 + t108))))) then (some (0, 0, 0, (⟨#[]⟩ : ByteArray), 0, 1)) else (if 0 ≤ (wrap64 (t103 + t108)) then (if (wrap64 (t103 + t108)) ≤ (wrap64 ((wrap64 (t103 + t108)) + (wrap64 (t107)))) then (if (wrap64 ((wrap64 (t103 + t108)) + (wrap64 (t107)))) ≤ (a0.size : Int) then (some ((wrap64 (t102 / 8)), (wrap64 (Go.bits .and .u64 t102 7)), 0, a0.extract ((wrap64 (t103 + t108)) : Int).toNat ((wrap64 ((wrap64 (t103 + t108)) + (wrap64 (t107)))) : Int).toNat, wrap64 ((wrap64 (t103 + t108)) + (wrap64 (t107))), 0)) else (none)) else (none)) else (none)))) else (some (0, 0, 0, (⟨#[]⟩ : ByteArray), 0, t109))) = some (r1, r2, r3, r4, r5, r6) := H
                have A15 := Aside0.mk A150
                clear A150
                by_cases c16 : t109 = 0
                · rw [if_pos c16] at H
                  have c16b0 : (t109 == 0) = true := beq_iff_eq.mpr c16
                  have c16b1 : (t109 != 0) = false := bne_eq_false_iff_eq.mpr c16
                  clear c16
                  by_cases c17 : (wrap64 (Go.bits .and .u64 t102 7)) = 0
                  · rw [if_pos c17] at H
                    have c17b0 : ((wrap64 (Go.bits .and .u64 t102 7)) == 0) = true := beq_iff_eq.mpr c17
                    have c17b1 : ((wrap64 (Go.bits .and .u64 t102 7)) != 0) = false := bne_eq_false_iff_eq.mpr c17
                    clear c17
                    simp only [Option.some.injEq, Prod.mk.injEq] at H
                    obtain ⟨rfl, rfl, rfl, rfl, rfl, rfl⟩ := H
                    go_wp2_with (first | ((with_reducible refine gate_callee (f := 13) rfl ?_); refine goesL_ (some 48) rfl rfl Try.func13 (by kernel_rfl) rfl #[.string (a0.extract (t103 : Int).toNat a0.size)] rfl (by (try simp only [List.map_toArray, List.map_cons, List.map_nil]); first | done | rfl | (simp only [List.length_drop, List.length_take]; rfl)) ?_; (with_reducible refine (varint_Read.calls (a0.extract (t103 : Int).toNat a0.size) t107 t108 t109 _ A15.out).mono ?_); rintro e w' ⟨rfl, ⟨nd, rfl⟩⟩; refine ⟨_, rfl, ?_⟩; (try (rw [drewN_self wc]; generalize hq_ : World.drewN wc _ = wc; have n0_ : Aside0 (wc.heap[gb101]? = some (.cells #[.int .i64 0, .int .i64 0, .int .u64 0, .string (⟨#[]⟩ : ByteArray)] 47 (0, 0))) := ⟨by rw [← hq_]; exact (by (with_reducible repeat (first | refine blk_drewN ?_ _ | refine blk_drew ?_ | refine blk_alloc ?_ _)); exact BK101.out)⟩; have n1_ : Aside0 (wc.heap[gb106]? = some (.cells #[.int .i64 (wrap64 (t102 / 8)), .int .i64 (wrap64 (Go.bits .and .u64 t102 7)), .int .u64 0, .string (⟨#[]⟩ : ByteArray)] 47 (0, 0))) := ⟨by rw [← hq_]; exact (by (with_reducible repeat (first | refine blk_drewN ?_ _ | refine blk_drew ?_ | refine blk_alloc ?_ _)); exact BK106.out)⟩; have n2_ : Aside0 (Below w.heap.size w wc) := ⟨by rw [← hq_]; exact (by repeat (first | (with_reducible first | exact HB.out | apply below_alloc | apply pw_below_drewN | apply below_drew1 | refine below_set ?_ GE101.out | refine below_set ?_ GE106.out) | exact HB.out))⟩; clear BK101 BK106 HB hq_; have BK101 := n0_; have BK106 := n1_; have HB := n2_; clear n0_ n1_ n2_)); have hnb18 := NB106_101.out; have hnc18 := NB101_106.out; have hcz19_0 : wc.cell? ⟨gb106, 0, none⟩ = some (.int .i64 (wrap64 (t102 / 8))) := (blk_cell BK106.out 0).trans rfl; have hcz19_1 : wc.cell? ⟨gb106, 1, none⟩ = some (.int .i64 (wrap64 (Go.bits .and .u64 t102 7))) := (blk_cell BK106.out 1).trans rfl; have hcz19_2 : wc.cell? ⟨gb106, 2, none⟩ = some (.int .u64 0) := (blk_cell BK106.out 2).trans rfl; have hcz19_3 : wc.cell? ⟨gb106, 3, none⟩ = some (.string (⟨#[]⟩ : ByteArray)) := (blk_cell BK106.out 3).trans rfl; have hfz19_0 := blk_frozen BK106.out 0; have hfz19_1 := blk_frozen BK106.out 1; have hfz19_2 := blk_frozen BK106.out 2; have hfz19_3 := blk_frozen BK106.out 3; have hcz20_0 : wc.cell? ⟨gb101, 0, none⟩ = some (.int .i64 0) := (blk_cell BK101.out 0).trans rfl; have hcz20_1 : wc.cell? ⟨gb101, 1, none⟩ = some (.int .i64 0) := (blk_cell BK101.out 1).trans rfl; have hcz20_2 : wc.cell? ⟨gb101, 2, none⟩ = some (.int .u64 0) := (blk_cell BK101.out 2).trans rfl; have hcz20_3 : wc.cell? ⟨gb101, 3, none⟩ = some (.string (⟨#[]⟩ : ByteArray)) := (blk_cell BK101.out 3).trans rfl; have hfz20_0 := blk_frozen BK101.out 0; have hfz20_1 := blk_frozen BK101.out 1; have hfz20_2 := blk_frozen BK101.out 2; have hfz20_3 := blk_frozen BK101.out 3))
                    refine bodyPost_ret (results_ctt rfl _ _ gb101 47 #[.int .i64 (wrap64 (t102 / 8)), .int .i64 (wrap64 (Go.bits .and .u64 t102 7)), .int .u64 t107, .string (⟨#[]⟩ : ByteArray)] (0, 0) _ rfl (by (with_reducible repeat (first | refine blk_drewN ?_ _ | refine blk_drew ?_ | refine blk_alloc ?_ _)); refine blk_put (cs := #[.int .i64 (wrap64 (t102 / 8)), .int .i64 (wrap64 (Go.bits .and .u64 t102 7)), .int .u64 t107, .string (⟨#[]⟩ : ByteArray)]) ?_ 3 _ rfl; (with_reducible repeat (first | refine blk_drewN ?_ _ | refine blk_drew ?_ | refine blk_alloc ?_ _)); refine blk_put (cs := #[.int .i64 (wrap64 (t102 / 8)), .int .i64 (wrap64 (Go.bits .and .u64 t102 7)), .int .u64 0, .string (⟨#[]⟩ : ByteArray)]) ?_ 2 _ rfl; (with_reducible repeat (first | refine blk_drewN ?_ _ | refine blk_drew ?_ | refine blk_alloc ?_ _)); refine blk_put (cs := #[.int .i64 (wrap64 (t102 / 8)), .int .i64 0, .int .u64 0, .string (⟨#[]⟩ : ByteArray)]) ?_ 1 _ rfl; (with_reducible repeat (first | refine blk_drewN ?_ _ | refine blk_drew ?_ | refine blk_alloc ?_ _)); refine blk_put (cs := #[.int .i64 0, .int .i64 0, .int .u64 0, .string (⟨#[]⟩ : ByteArray)]) ?_ 0 _ rfl; (with_reducible repeat (first | refine blk_drewN ?_ _ | refine blk_drew ?_ | refine blk_alloc ?_ _)); refine blk_far ?_ NB101_106.out _; (with_reducible repeat (first | refine blk_drewN ?_ _ | refine blk_drew ?_ | refine blk_alloc ?_ _)); exact BK101.out) Try.underlying47 rfl (by kernel_rfl)) rfl ?_
                    exact ⟨by first | rfl | (simp [errW_none, errW_some] <;> rfl) | (simp [*, errW_none, errW_some] <;> rfl), by repeat (first | (with_reducible first | exact HB.out | apply below_alloc | apply pw_below_drewN | apply below_drew1 | refine below_set ?_ GE101.out | refine below_set ?_ GE106.out) | exact HB.out)⟩
                  · rw [if_neg c17] at H
                    have c17b0 : ((wrap64 (Go.bits .and .u64 t102 7)) == 0) = false := beq_eq_false_iff_ne.mpr c17
                    have c17b1 : ((wrap64 (Go.bits .and .u64 t102 7)) != 0) = true := bne_iff_ne.mpr c17
                    by_cases c21 : t107 > (IntKind.u64.wrap (wrap64 ((a0.size : Int) - (wrap64 (t103 + t108)))))
                    · rw [if_pos c21] at H
                      have c21b0 : decide ((IntKind.u64.wrap (wrap64 ((a0.size : Int) - (wrap64 (t103 + t108))))) < t107) = true := decide_eq_true c21
                      clear c21
                      simp only [Option.some.injEq, Prod.mk.injEq] at H
                      obtain ⟨rfl, rfl, rfl, rfl, rfl, rfl⟩ := H
                      go_wp2_with (first | ((with_reducible refine gate_callee (f := 13) rfl ?_); refine goesL_ (some 48) rfl rfl Try.func13 (by kernel_rfl) rfl #[.string (a0.extract (t103 : Int).toNat a0.size)] rfl (by (try simp only [List.map_toArray, List.map_cons, List.map_nil]); first | done | rfl | (simp only [List.length_drop, List.length_take]; rfl)) ?_; (with_reducible refine (varint_Read.calls (a0.extract (t103 : Int).toNat a0.size) t107 t108 t109 _ A15.out).mono ?_); rintro e w' ⟨rfl, ⟨nd, rfl⟩⟩; refine ⟨_, rfl, ?_⟩; (try (rw [drewN_self wc]; generalize hq_ : World.drewN wc _ = wc; have n0_ : Aside0 (wc.heap[gb101]? = some (.cells #[.int .i64 0, .int .i64 0, .int .u64 0, .string (⟨#[]⟩ : ByteArray)] 47 (0, 0))) := ⟨by rw [← hq_]; exact (by (with_reducible repeat (first | refine blk_drewN ?_ _ | refine blk_drew ?_ | refine blk_alloc ?_ _)); exact BK101.out)⟩; have n1_ : Aside0 (wc.heap[gb106]? = some (.cells #[.int .i64 (wrap64 (t102 / 8)), .int .i64 (wrap64 (Go.bits .and .u64 t102 7)), .int .u64 0, .string (⟨#[]⟩ : ByteArray)] 47 (0, 0))) := ⟨by rw [← hq_]; exact (by (with_reducible repeat (first | refine blk_drewN ?_ _ | refine blk_drew ?_ | refine blk_alloc ?_ _)); exact BK106.out)⟩; have n2_ : Aside0 (Below w.heap.size w wc) := ⟨by rw [← hq_]; exact (by repeat (first | (with_reducible first | exact HB.out | apply below_alloc | apply pw_below_drewN | apply below_drew1 | refine below_set ?_ GE101.out | refine below_set ?_ GE106.out) | exact HB.out))⟩; clear BK101 BK106 HB hq_; have BK101 := n0_; have BK106 := n1_; have HB := n2_; clear n0_ n1_ n2_)); have hnb22 := NB106_101.out; have hnc22 := NB101_106.out; have hcz23_0 : wc.cell? ⟨gb106, 0, none⟩ = some (.int .i64 (wrap64 (t102 / 8))) := (blk_cell BK106.out 0).trans rfl; have hcz23_1 : wc.cell? ⟨gb106, 1, none⟩ = some (.int .i64 (wrap64 (Go.bits .and .u64 t102 7))) := (blk_cell BK106.out 1).trans rfl; have hcz23_2 : wc.cell? ⟨gb106, 2, none⟩ = some (.int .u64 0) := (blk_cell BK106.out 2).trans rfl; have hcz23_3 : wc.cell? ⟨gb106, 3, none⟩ = some (.string (⟨#[]⟩ : ByteArray)) := (blk_cell BK106.out 3).trans rfl; have hfz23_0 := blk_frozen BK106.out 0; have hfz23_1 := blk_frozen BK106.out 1; have hfz23_2 := blk_frozen BK106.out 2; have hfz23_3 := blk_frozen BK106.out 3; have hcz24_0 : wc.cell? ⟨gb101, 0, none⟩ = some (.int .i64 0) := (blk_cell BK101.out 0).trans rfl; have hcz24_1 : wc.cell? ⟨gb101, 1, none⟩ = some (.int .i64 0) := (blk_cell BK101.out 1).trans rfl; have hcz24_2 : wc.cell? ⟨gb101, 2, none⟩ = some (.int .u64 0) := (blk_cell BK101.out 2).trans rfl; have hcz24_3 : wc.cell? ⟨gb101, 3, none⟩ = some (.string (⟨#[]⟩ : ByteArray)) := (blk_cell BK101.out 3).trans rfl; have hfz24_0 := blk_frozen BK101.out 0; have hfz24_1 := blk_frozen BK101.out 1; have hfz24_2 := blk_frozen BK101.out 2; have hfz24_3 := blk_frozen BK101.out 3))
                      refine bodyPost_ret (results_ctt rfl _ _ gb101 47 #[.int .i64 0, .int .i64 0, .int .u64 0, .string (⟨#[]⟩ : ByteArray)] (0, 0) _ rfl (by (with_reducible repeat (first | refine blk_drewN ?_ _ | refine blk_drew ?_ | refine blk_alloc ?_ _)); refine blk_put (cs := #[.int .i64 0, .int .i64 0, .int .u64 0, .string (⟨#[]⟩ : ByteArray)]) ?_ 3 _ rfl; (with_reducible repeat (first | refine blk_drewN ?_ _ | refine blk_drew ?_ | refine blk_alloc ?_ _)); refine blk_put (cs := #[.int .i64 0, .int .i64 0, .int .u64 0, .string (⟨#[]⟩ : ByteArray)]) ?_ 2 _ rfl; (with_reducible repeat (first | refine blk_drewN ?_ _ | refine blk_drew ?_ | refine blk_alloc ?_ _)); refine blk_put (cs := #[.int .i64 0, .int .i64 0, .int .u64 0, .string (⟨#[]⟩ : ByteArray)]) ?_ 1 _ rfl; (with_reducible repeat (first | refine blk_drewN ?_ _ | refine blk_drew ?_ | refine blk_alloc ?_ _)); refine blk_put (cs := #[.int .i64 0, .int .i64 0, .int .u64 0, .string (⟨#[]⟩ : ByteArray)]) ?_ 0 _ rfl; (with_reducible repeat (first | refine blk_drewN ?_ _ | refine blk_drew ?_ | refine blk_alloc ?_ _)); exact BK101.out) Try.underlying47 rfl (by kernel_rfl)) rfl ?_
                      exact ⟨by first | rfl | (simp [errW_none, errW_some] <;> rfl) | (simp [*, errW_none, errW_some] <;> rfl), by repeat (first | (with_reducible first | exact HB.out | apply below_alloc | apply pw_below_drewN | apply below_drew1 | refine below_set ?_ GE101.out | refine below_set ?_ GE106.out) | exact HB.out)⟩
                    · rw [if_neg c21] at H
                      have c21b0 : decide ((IntKind.u64.wrap (wrap64 ((a0.size : Int) - (wrap64 (t103 + t108))))) < t107) = false := decide_eq_false c21
                      clear c21
                      obtain ⟨ji25, hji25⟩ : ∃ j_ : Int, (wrap64 (t103 + t108)) = j_ := ⟨_, rfl⟩
                      replace H : (if 0 ≤ (ji25) then (if (ji25) ≤ (wrap64 ((ji25) + (wrap64 (t107)))) then (if (wrap64 ((ji25) + (wrap64 (t107)))) ≤ (a0.size : Int) then (some ((wrap64 (t102 / 8)), (wrap64 (Go.bits .and .u64 t102 7)), 0, a0.extract ((ji25) : Int).toNat ((wrap64 ((ji25) + (wrap64 (t107)))) : Int).toNat, wrap64 ((ji25) + (wrap64 (t107))), 0)) else (none)) else (none)) else (none)) = some (r1, r2, r3, r4, r5, r6) := by first | (rw [hji25] at H; exact H) | (simp only [hji25] at H ⊢; exact H)
                      (try rw [hji25] at c21b0)
                      (try rw [hji25] at A15)
                      have hji25w : (IntKind.i64.wrap (t103 + t108)) = ji25 := (i64_w _).trans hji25
                      by_cases c26 : 0 ≤ (ji25)
                      · rw [if_pos c26] at H
                        have c26b0 := eq_true c26
                        have c26b1 : decide (0 ≤ (ji25)) = true := decide_eq_true c26
                        clear c26
                        by_cases c27 : (ji25) ≤ (wrap64 ((ji25) + (wrap64 (t107))))
                        · rw [if_pos c27] at H
                          have c27b0 := eq_true c27
                          have c27b1 : decide ((ji25) ≤ (wrap64 ((ji25) + (wrap64 (t107))))) = true := decide_eq_true c27
                          by_cases c28 : (wrap64 ((ji25) + (wrap64 (t107)))) ≤ (a0.size : Int)
                          · rw [if_pos c28] at H
                            have c28b0 := eq_true c28
                            have c28b1 : decide ((wrap64 ((ji25) + (wrap64 (t107)))) ≤ (a0.size : Int)) = true := decide_eq_true c28
                            simp only [Option.some.injEq, Prod.mk.injEq] at H
                            obtain ⟨rfl, rfl, rfl, rfl, rfl, rfl⟩ := H
                            go_wp2_with (first | ((with_reducible refine gate_callee (f := 13) rfl ?_); refine goesL_ (some 48) rfl rfl Try.func13 (by kernel_rfl) rfl #[.string (a0.extract (t103 : Int).toNat a0.size)] rfl (by (try simp only [List.map_toArray, List.map_cons, List.map_nil]); first | done | rfl | (simp only [List.length_drop, List.length_take]; rfl)) ?_; (with_reducible refine (varint_Read.calls (a0.extract (t103 : Int).toNat a0.size) t107 t108 t109 _ A15.out).mono ?_); rintro e w' ⟨rfl, ⟨nd, rfl⟩⟩; refine ⟨_, rfl, ?_⟩; (try (rw [drewN_self wc]; generalize hq_ : World.drewN wc _ = wc; have n0_ : Aside0 (wc.heap[gb101]? = some (.cells #[.int .i64 0, .int .i64 0, .int .u64 0, .string (⟨#[]⟩ : ByteArray)] 47 (0, 0))) := ⟨by rw [← hq_]; exact (by (with_reducible repeat (first | refine blk_drewN ?_ _ | refine blk_drew ?_ | refine blk_alloc ?_ _)); exact BK101.out)⟩; have n1_ : Aside0 (wc.heap[gb106]? = some (.cells #[.int .i64 (wrap64 (t102 / 8)), .int .i64 (wrap64 (Go.bits .and .u64 t102 7)), .int .u64 0, .string (⟨#[]⟩ : ByteArray)] 47 (0, 0))) := ⟨by rw [← hq_]; exact (by (with_reducible repeat (first | refine blk_drewN ?_ _ | refine blk_drew ?_ | refine blk_alloc ?_ _)); exact BK106.out)⟩; have n2_ : Aside0 (Below w.heap.size w wc) := ⟨by rw [← hq_]; exact (by repeat (first | (with_reducible first | exact HB.out | apply below_alloc | apply pw_below_drewN | apply below_drew1 | refine below_set ?_ GE101.out | refine below_set ?_ GE106.out) | exact HB.out))⟩; clear BK101 BK106 HB hq_; have BK101 := n0_; have BK106 := n1_; have HB := n2_; clear n0_ n1_ n2_)); have hnb29 := NB106_101.out; have hnc29 := NB101_106.out; have hcz30_0 : wc.cell? ⟨gb106, 0, none⟩ = some (.int .i64 (wrap64 (t102 / 8))) := (blk_cell BK106.out 0).trans rfl; have hcz30_1 : wc.cell? ⟨gb106, 1, none⟩ = some (.int .i64 (wrap64 (Go.bits .and .u64 t102 7))) := (blk_cell BK106.out 1).trans rfl; have hcz30_2 : wc.cell? ⟨gb106, 2, none⟩ = some (.int .u64 0) := (blk_cell BK106.out 2).trans rfl; have hcz30_3 : wc.cell? ⟨gb106, 3, none⟩ = some (.string (⟨#[]⟩ : ByteArray)) := (blk_cell BK106.out 3).trans rfl; have hfz30_0 := blk_frozen BK106.out 0; have hfz30_1 := blk_frozen BK106.out 1; have hfz30_2 := blk_frozen BK106.out 2; have hfz30_3 := blk_frozen BK106.out 3; have hcz31_0 : wc.cell? ⟨gb101, 0, none⟩ = some (.int .i64 0) := (blk_cell BK101.out 0).trans rfl; have hcz31_1 : wc.cell? ⟨gb101, 1, none⟩ = some (.int .i64 0) := (blk_cell BK101.out 1).trans rfl; have hcz31_2 : wc.cell? ⟨gb101, 2, none⟩ = some (.int .u64 0) := (blk_cell BK101.out 2).trans rfl; have hcz31_3 : wc.cell? ⟨gb101, 3, none⟩ = some (.string (⟨#[]⟩ : ByteArray)) := (blk_cell BK101.out 3).trans rfl; have hfz31_0 := blk_frozen BK101.out 0; have hfz31_1 := blk_frozen BK101.out 1; have hfz31_2 := blk_frozen BK101.out 2; have hfz31_3 := blk_frozen BK101.out 3))
                            refine bodyPost_ret (results_ctt rfl _ _ gb101 47 #[.int .i64 (wrap64 (t102 / 8)), .int .i64 (wrap64 (Go.bits .and .u64 t102 7)), .int .u64 0, .string (a0.extract ((ji25) : Int).toNat ((wrap64 ((ji25) + (wrap64 (t107)))) : Int).toNat)] (0, 0) _ rfl (by (with_reducible repeat (first | refine blk_drewN ?_ _ | refine blk_drew ?_ | refine blk_alloc ?_ _)); refine blk_put (cs := #[.int .i64 (wrap64 (t102 / 8)), .int .i64 (wrap64 (Go.bits .and .u64 t102 7)), .int .u64 0, .string (⟨#[]⟩ : ByteArray)]) ?_ 3 _ rfl; (with_reducible repeat (first | refine blk_drewN ?_ _ | refine blk_drew ?_ | refine blk_alloc ?_ _)); refine blk_put (cs := #[.int .i64 (wrap64 (t102 / 8)), .int .i64 (wrap64 (Go.bits .and .u64 t102 7)), .int .u64 0, .string (⟨#[]⟩ : ByteArray)]) ?_ 2 _ rfl; (with_reducible repeat (first | refine blk_drewN ?_ _ | refine blk_drew ?_ | refine blk_alloc ?_ _)); refine blk_put (cs := #[.int .i64 (wrap64 (t102 / 8)), .int .i64 0, .int .u64 0, .string (⟨#[]⟩ : ByteArray)]) ?_ 1 _ rfl; (with_reducible repeat (first | refine blk_drewN ?_ _ | refine blk_drew ?_ | refine blk_alloc ?_ _)); refine blk_put (cs := #[.int .i64 0, .int .i64 0, .int .u64 0, .string (⟨#[]⟩ : ByteArray)]) ?_ 0 _ rfl; (with_reducible repeat (first | refine blk_drewN ?_ _ | refine blk_drew ?_ | refine blk_alloc ?_ _)); refine blk_far ?_ NB101_106.out _; (with_reducible repeat (first | refine blk_drewN ?_ _ | refine blk_drew ?_ | refine blk_alloc ?_ _)); exact BK101.out) Try.underlying47 rfl (by kernel_rfl)) rfl ?_
                            exact ⟨by first | rfl | (simp [errW_none, errW_some] <;> rfl) | (simp only [← hji25]; first | rfl | (simp [errW_none, errW_some] <;> rfl)) | (simp [*, errW_none, errW_some] <;> rfl), by repeat (first | (with_reducible first | exact HB.out | apply below_alloc | apply pw_below_drewN | apply below_drew1 | refine below_set ?_ GE101.out | refine below_set ?_ GE106.out) | exact HB.out)⟩
                          · rw [if_neg c28] at H
                            exact absurd H (by simp)
                        · rw [if_neg c27] at H
                          exact absurd H (by simp)
                      · rw [if_neg c26] at H
                        exact absurd H (by simp)
                · rw [if_neg c16] at H
                  have c16b0 : (t109 == 0) = false := beq_eq_false_iff_ne.mpr c16
                  have c16b1 : (t109 != 0) = true := bne_iff_ne.mpr c16
                  simp only [Option.some.injEq, Prod.mk.injEq] at H
                  obtain ⟨rfl, rfl, rfl, rfl, rfl, rfl⟩ := H
                  go_wp2_with (first | ((with_reducible refine gate_callee (f := 13) rfl ?_); refine goesL_ (some 48) rfl rfl Try.func13 (by kernel_rfl) rfl #[.string (a0.extract (t103 : Int).toNat a0.size)] rfl (by (try simp only [List.map_toArray, List.map_cons, List.map_nil]); first | done | rfl | (simp only [List.length_drop, List.length_take]; rfl)) ?_; (with_reducible refine (varint_Read.calls (a0.extract (t103 : Int).toNat a0.size) t107 t108 t109 _ A15.out).mono ?_); rintro e w' ⟨rfl, ⟨nd, rfl⟩⟩; refine ⟨_, rfl, ?_⟩; (try (rw [drewN_self wc]; generalize hq_ : World.drewN wc _ = wc; have n0_ : Aside0 (wc.heap[gb101]? = some (.cells #[.int .i64 0, .int .i64 0, .int .u64 0, .string (⟨#[]⟩ : ByteArray)] 47 (0, 0))) := ⟨by rw [← hq_]; exact (by (with_reducible repeat (first | refine blk_drewN ?_ _ | refine blk_drew ?_ | refine blk_alloc ?_ _)); exact BK101.out)⟩; have n1_ : Aside0 (wc.heap[gb106]? = some (.cells #[.int .i64 (wrap64 (t102 / 8)), .int .i64 (wrap64 (Go.bits .and .u64 t102 7)), .int .u64 0, .string (⟨#[]⟩ : ByteArray)] 47 (0, 0))) := ⟨by rw [← hq_]; exact (by (with_reducible repeat (first | refine blk_drewN ?_ _ | refine blk_drew ?_ | refine blk_alloc ?_ _)); exact BK106.out)⟩; have n2_ : Aside0 (Below w.heap.size w wc) := ⟨by rw [← hq_]; exact (by repeat (first | (with_reducible first | exact HB.out | apply below_alloc | apply pw_below_drewN | apply below_drew1 | refine below_set ?_ GE101.out | refine below_set ?_ GE106.out) | exact HB.out))⟩; clear BK101 BK106 HB hq_; have BK101 := n0_; have BK106 := n1_; have HB := n2_; clear n0_ n1_ n2_)); have hnb32 := NB101_106.out; have hnc32 := NB106_101.out; have hcz33_0 : wc.cell? ⟨gb101, 0, none⟩ = some (.int .i64 0) := (blk_cell BK101.out 0).trans rfl; have hcz33_1 : wc.cell? ⟨gb101, 1, none⟩ = some (.int .i64 0) := (blk_cell BK101.out 1).trans rfl; have hcz33_2 : wc.cell? ⟨gb101, 2, none⟩ = some (.int .u64 0) := (blk_cell BK101.out 2).trans rfl; have hcz33_3 : wc.cell? ⟨gb101, 3, none⟩ = some (.string (⟨#[]⟩ : ByteArray)) := (blk_cell BK101.out 3).trans rfl; have hfz33_0 := blk_frozen BK101.out 0; have hfz33_1 := blk_frozen BK101.out 1; have hfz33_2 := blk_frozen BK101.out 2; have hfz33_3 := blk_frozen BK101.out 3))
                  refine bodyPost_ret (results_ctt rfl _ _ gb101 47 #[.int .i64 0, .int .i64 0, .int .u64 0, .string (⟨#[]⟩ : ByteArray)] (0, 0) _ rfl (by (with_reducible repeat (first | refine blk_drewN ?_ _ | refine blk_drew ?_ | refine blk_alloc ?_ _)); refine blk_put (cs := #[.int .i64 0, .int .i64 0, .int .u64 0, .string (⟨#[]⟩ : ByteArray)]) ?_ 3 _ rfl; (with_reducible repeat (first | refine blk_drewN ?_ _ | refine blk_drew ?_ | refine blk_alloc ?_ _)); refine blk_put (cs := #[.int .i64 0, .int .i64 0, .int .u64 0, .string (⟨#[]⟩ : ByteArray)]) ?_ 2 _ rfl; (with_reducible repeat (first | refine blk_drewN ?_ _ | refine blk_drew ?_ | refine blk_alloc ?_ _)); refine blk_put (cs := #[.int .i64 0, .int .i64 0, .int .u64 0, .string (⟨#[]⟩ : ByteArray)]) ?_ 1 _ rfl; (with_reducible repeat (first | refine blk_drewN ?_ _ | refine blk_drew ?_ | refine blk_alloc ?_ _)); refine blk_put (cs := #[.int .i64 0, .int .i64 0, .int .u64 0, .string (⟨#[]⟩ : ByteArray)]) ?_ 0 _ rfl; (with_reducible repeat (first | refine blk_drewN ?_ _ | refine blk_drew ?_ | refine blk_alloc ?_ _)); exact BK101.out) Try.underlying47 rfl (by kernel_rfl)) rfl ?_
                  exact ⟨by first | rfl | (simp [errW_none, errW_some] <;> rfl) | (simp [*, errW_none, errW_some] <;> rfl), by repeat (first | (with_reducible first | exact HB.out | apply below_alloc | apply pw_below_drewN | apply below_drew1 | refine below_set ?_ GE101.out | refine below_set ?_ GE106.out) | exact HB.out)⟩
              · rw [if_neg c14] at H
                exact absurd H (by simp)
            · rw [if_neg c13] at H
              exact absurd H (by simp)
          · replace c12 := Bool.eq_false_iff.mpr c12
            subst c12
            have H1 : (if (wrap64 (Go.bits .and .u64 t102 7)) = 5 then (if (wrap64 ((a0.size : Int) - t103)) < 4 then (some (0, 0, 0, (⟨#[]⟩ : ByteArray), 0, 1)) else (if 0 ≤ t103 then (if t103 ≤ (wrap64 (t103 + 4)) then (if (wrap64 (t103 + 4)) ≤ (a0.size : Int) then ((wire_fixed_s.f (a0.extract (t103 : Int).toNat ((wrap64 (t103 + 4)) : Int).toNat)).bind fun t110 => (some ((wrap64 (t102 / 8)), (wrap64 (Go.bits .and .u64 t102 7)), t110, (⟨#[]⟩ : ByteArray), wrap64 (t103 + 4), 0))) else (none)) else (none)) else (none))) else (if (wrap64 ((a0.size : Int) - t103)) < 8 then (some (0, 0, 0, (⟨#[]⟩ : ByteArray), 0, 1)) else (if 0 ≤ t103 then (if t103 ≤ (wrap64 (t103 + 8)) then (if (wrap64 (t103 + 8)) ≤ (a0.size : Int) then ((wire_fixed_s.f (a0.extract (t103 : Int).toNat ((wrap64 (t103 + 8)) : Int).toNat)).bind fun t111 => (some ((wrap64 (t102 / 8)), (wrap64 (Go.bits .and .u64 t102 7)), t111, (⟨#[]⟩ : ByteArray), wrap64 (t103 + 8), 0))) else (none)) else (none)) else (none)))) = some (r1, r2, r3, r4, r5, r6) := by rw [if_neg (show ¬ (false = true) by decide)] at H; exact H
            clear H
            have H := H1
            clear H1
            by_cases c34 : (wrap64 (Go.bits .and .u64 t102 7)) = 5
            · rw [if_pos c34] at H
              have c34b0 : ((wrap64 (Go.bits .and .u64 t102 7)) == 5) = true := beq_iff_eq.mpr c34
              have c34b1 : ((wrap64 (Go.bits .and .u64 t102 7)) != 5) = false := bne_eq_false_iff_eq.mpr c34
              clear c34
              by_cases c35 : (wrap64 ((a0.size : Int) - t103)) < 4
              · rw [if_pos c35] at H
                have c35b0 : decide ((wrap64 ((a0.size : Int) - t103)) < 4) = true := decide_eq_true c35
                clear c35
                simp only [Option.some.injEq, Prod.mk.injEq] at H
                obtain ⟨rfl, rfl, rfl, rfl, rfl, rfl⟩ := H
                have hnb36 := NB101_106.out
                have hnc36 := NB106_101.out
                have hcz37_0 : wc.cell? ⟨gb101, 0, none⟩ = some (.int .i64 0) := (blk_cell BK101.out 0).trans rfl
                have hcz37_1 : wc.cell? ⟨gb101, 1, none⟩ = some (.int .i64 0) := (blk_cell BK101.out 1).trans rfl
                have hcz37_2 : wc.cell? ⟨gb101, 2, none⟩ = some (.int .u64 0) := (blk_cell BK101.out 2).trans rfl
                have hcz37_3 : wc.cell? ⟨gb101, 3, none⟩ = some (.string (⟨#[]⟩ : ByteArray)) := (blk_cell BK101.out 3).trans rfl
                have hfz37_0 := blk_frozen BK101.out 0
                have hfz37_1 := blk_frozen BK101.out 1
                have hfz37_2 := blk_frozen BK101.out 2
                have hfz37_3 := blk_frozen BK101.out 3
                go_wp2
                refine bodyPost_ret (results_ctt rfl _ _ gb101 47 #[.int .i64 0, .int .i64 0, .int .u64 0, .string (⟨#[]⟩ : ByteArray)] (0, 0) _ rfl (by (with_reducible repeat (first | refine blk_drewN ?_ _ | refine blk_drew ?_ | refine blk_alloc ?_ _)); refine blk_put (cs := #[.int .i64 0, .int .i64 0, .int .u64 0, .string (⟨#[]⟩ : ByteArray)]) ?_ 3 _ rfl; (with_reducible repeat (first | refine blk_drewN ?_ _ | refine blk_drew ?_ | refine blk_alloc ?_ _)); refine blk_put (cs := #[.int .i64 0, .int .i64 0, .int .u64 0, .string (⟨#[]⟩ : ByteArray)]) ?_ 2 _ rfl; (with_reducible repeat (first | refine blk_drewN ?_ _ | refine blk_drew ?_ | refine blk_alloc ?_ _)); refine blk_put (cs := #[.int .i64 0, .int .i64 0, .int .u64 0, .string (⟨#[]⟩ : ByteArray)]) ?_ 1 _ rfl; (with_reducible repeat (first | refine blk_drewN ?_ _ | refine blk_drew ?_ | refine blk_alloc ?_ _)); refine blk_put (cs := #[.int .i64 0, .int .i64 0, .int .u64 0, .string (⟨#[]⟩ : ByteArray)]) ?_ 0 _ rfl; (with_reducible repeat (first | refine blk_drewN ?_ _ | refine blk_drew ?_ | refine blk_alloc ?_ _)); exact BK101.out) Try.underlying47 rfl (by kernel_rfl)) rfl ?_
                exact ⟨by first | rfl | (simp [errW_none, errW_some] <;> rfl) | (simp [*, errW_none, errW_some] <;> rfl), by repeat (first | (with_reducible first | exact HB.out | apply below_alloc | apply pw_below_drewN | apply below_drew1 | refine below_set ?_ GE101.out | refine below_set ?_ GE106.out) | exact HB.out)⟩
              · rw [if_neg c35] at H
                have c35b0 : decide ((wrap64 ((a0.size : Int) - t103)) < 4) = false := decide_eq_false c35
                clear c35
                by_cases c38 : 0 ≤ t103
                · rw [if_pos c38] at H
                  have c38b0 := eq_true c38
                  have c38b1 : decide (0 ≤ t103) = true := decide_eq_true c38
                  clear c38
                  by_cases c39 : t103 ≤ (wrap64 (t103 + 4))
                  · rw [if_pos c39] at H
                    have c39b0 := eq_true c39
                    have c39b1 : decide (t103 ≤ (wrap64 (t103 + 4))) = true := decide_eq_true c39
                    by_cases c40 : (wrap64 (t103 + 4)) ≤ (a0.size : Int)
                    · rw [if_pos c40] at H
                      have c40b0 := eq_true c40
                      have c40b1 : decide ((wrap64 (t103 + 4)) ≤ (a0.size : Int)) = true := decide_eq_true c40
                      replace H := Option.bind_eq_some_iff.mp H
                      obtain ⟨t110, A410, H⟩ := H
                      replace H : (some ((wrap64 (t102 / 8)), (wrap64 (Go.bits .and .u64 t102 7)), t110, (⟨#[]⟩ : ByteArray), wrap64 (t103 + 4), 0)) = some (r1, r2, r3, r4, r5, r6) := H
                      have A41 := Aside0.mk A410
                      clear A410
                      simp only [Option.some.injEq, Prod.mk.injEq] at H
                      obtain ⟨rfl, rfl, rfl, rfl, rfl, rfl⟩ := H
                      go_wp2_with (first | ((with_reducible refine gate_callee (f := 50) rfl ?_); refine goesL_ (some 102) rfl rfl Try.func50 (by kernel_rfl) rfl #[.string (a0.extract (t103 : Int).toNat ((wrap64 (t103 + 4)) : Int).toNat)] rfl (by (try simp only [List.map_toArray, List.map_cons, List.map_nil]); first | done | rfl | (simp only [List.length_drop, List.length_take]; rfl)) ?_; (with_reducible refine (wire_fixed_s.calls (a0.extract (t103 : Int).toNat ((wrap64 (t103 + 4)) : Int).toNat) t110 _ A41.out).mono ?_); rintro e w' ⟨rfl, ⟨nd, rfl⟩⟩; refine ⟨_, rfl, ?_⟩; (try (rw [drewN_self wc]; generalize hq_ : World.drewN wc _ = wc; have n0_ : Aside0 (wc.heap[gb101]? = some (.cells #[.int .i64 0, .int .i64 0, .int .u64 0, .string (⟨#[]⟩ : ByteArray)] 47 (0, 0))) := ⟨by rw [← hq_]; exact (by (with_reducible repeat (first | refine blk_drewN ?_ _ | refine blk_drew ?_ | refine blk_alloc ?_ _)); exact BK101.out)⟩; have n1_ : Aside0 (wc.heap[gb106]? = some (.cells #[.int .i64 (wrap64 (t102 / 8)), .int .i64 (wrap64 (Go.bits .and .u64 t102 7)), .int .u64 0, .string (⟨#[]⟩ : ByteArray)] 47 (0, 0))) := ⟨by rw [← hq_]; exact (by (with_reducible repeat (first | refine blk_drewN ?_ _ | refine blk_drew ?_ | refine blk_alloc ?_ _)); exact BK106.out)⟩; have n2_ : Aside0 (Below w.heap.size w wc) := ⟨by rw [← hq_]; exact (by repeat (first | (with_reducible first | exact HB.out | apply below_alloc | apply pw_below_drewN | apply below_drew1 | refine below_set ?_ GE101.out | refine below_set ?_ GE106.out) | exact HB.out))⟩; clear BK101 BK106 HB hq_; have BK101 := n0_; have BK106 := n1_; have HB := n2_; clear n0_ n1_ n2_)); have hnb42 := NB106_101.out; have hnc42 := NB101_106.out; have hcz43_0 : wc.cell? ⟨gb106, 0, none⟩ = some (.int .i64 (wrap64 (t102 / 8))) := (blk_cell BK106.out 0).trans rfl; have hcz43_1 : wc.cell? ⟨gb106, 1, none⟩ = some (.int .i64 (wrap64 (Go.bits .and .u64 t102 7))) := (blk_cell BK106.out 1).trans rfl; have hcz43_2 : wc.cell? ⟨gb106, 2, none⟩ = some (.int .u64 0) := (blk_cell BK106.out 2).trans rfl; have hcz43_3 : wc.cell? ⟨gb106, 3, none⟩ = some (.string (⟨#[]⟩ : ByteArray)) := (blk_cell BK106.out 3).trans rfl; have hfz43_0 := blk_frozen BK106.out 0; have hfz43_1 := blk_frozen BK106.out 1; have hfz43_2 := blk_frozen BK106.out 2; have hfz43_3 := blk_frozen BK106.out 3; have hcz44_0 : wc.cell? ⟨gb101, 0, none⟩ = some (.int .i64 0) := (blk_cell BK101.out 0).trans rfl; have hcz44_1 : wc.cell? ⟨gb101, 1, none⟩ = some (.int .i64 0) := (blk_cell BK101.out 1).trans rfl; have hcz44_2 : wc.cell? ⟨gb101, 2, none⟩ = some (.int .u64 0) := (blk_cell BK101.out 2).trans rfl; have hcz44_3 : wc.cell? ⟨gb101, 3, none⟩ = some (.string (⟨#[]⟩ : ByteArray)) := (blk_cell BK101.out 3).trans rfl; have hfz44_0 := blk_frozen BK101.out 0; have hfz44_1 := blk_frozen BK101.out 1; have hfz44_2 := blk_frozen BK101.out 2; have hfz44_3 := blk_frozen BK101.out 3))
                      refine bodyPost_ret (results_ctt rfl _ _ gb101 47 #[.int .i64 (wrap64 (t102 / 8)), .int .i64 (wrap64 (Go.bits .and .u64 t102 7)), .int .u64 t110, .string (⟨#[]⟩ : ByteArray)] (0, 0) _ rfl (by (with_reducible repeat (first | refine blk_drewN ?_ _ | refine blk_drew ?_ | refine blk_alloc ?_ _)); refine blk_put (cs := #[.int .i64 (wrap64 (t102 / 8)), .int .i64 (wrap64 (Go.bits .and .u64 t102 7)), .int .u64 t110, .string (⟨#[]⟩ : ByteArray)]) ?_ 3 _ rfl; (with_reducible repeat (first | refine blk_drewN ?_ _ | refine blk_drew ?_ | refine blk_alloc ?_ _)); refine blk_put (cs := #[.int .i64 (wrap64 (t102 / 8)), .int .i64 (wrap64 (Go.bits .and .u64 t102 7)), .int .u64 0, .string (⟨#[]⟩ : ByteArray)]) ?_ 2 _ rfl; (with_reducible repeat (first | refine blk_drewN ?_ _ | refine blk_drew ?_ | refine blk_alloc ?_ _)); refine blk_put (cs := #[.int .i64 (wrap64 (t102 / 8)), .int .i64 0, .int .u64 0, .string (⟨#[]⟩ : ByteArray)]) ?_ 1 _ rfl; (with_reducible repeat (first | refine blk_drewN ?_ _ | refine blk_drew ?_ | refine blk_alloc ?_ _)); refine blk_put (cs := #[.int .i64 0, .int .i64 0, .int .u64 0, .string (⟨#[]⟩ : ByteArray)]) ?_ 0 _ rfl; (with_reducible repeat (first | refine blk_drewN ?_ _ | refine blk_drew ?_ | refine blk_alloc ?_ _)); refine blk_far ?_ NB101_106.out _; (with_reducible repeat (first | refine blk_drewN ?_ _ | refine blk_drew ?_ | refine blk_alloc ?_ _)); exact BK101.out) Try.underlying47 rfl (by kernel_rfl)) rfl ?_
                      exact ⟨by first | rfl | (simp [errW_none, errW_some] <;> rfl) | (simp [*, errW_none, errW_some] <;> rfl), by repeat (first | (with_reducible first | exact HB.out | apply below_alloc | apply pw_below_drewN | apply below_drew1 | refine below_set ?_ GE101.out | refine below_set ?_ GE106.out) | exact HB.out)⟩
                    · rw [if_neg c40] at H
                      exact absurd H (by simp)
                  · rw [if_neg c39] at H
                    exact absurd H (by simp)
                · rw [if_neg c38] at H
                  exact absurd H (by simp)
            · rw [if_neg c34] at H
              have c34b0 : ((wrap64 (Go.bits .and .u64 t102 7)) == 5) = false := beq_eq_false_iff_ne.mpr c34
              have c34b1 : ((wrap64 (Go.bits .and .u64 t102 7)) != 5) = true := bne_iff_ne.mpr c34
              by_cases c45 : (wrap64 ((a0.size : Int) - t103)) < 8
              · rw [if_pos c45] at H
                have c45b0 : decide ((wrap64 ((a0.size : Int) - t103)) < 8) = true := decide_eq_true c45
                clear c45
                simp only [Option.some.injEq, Prod.mk.injEq] at H
                obtain ⟨rfl, rfl, rfl, rfl, rfl, rfl⟩ := H
                have hnb46 := NB101_106.out
                have hnc46 := NB106_101.out
                have hcz47_0 : wc.cell? ⟨gb101, 0, none⟩ = some (.int .i64 0) := (blk_cell BK101.out 0).trans rfl
                have hcz47_1 : wc.cell? ⟨gb101, 1, none⟩ = some (.int .i64 0) := (blk_cell BK101.out 1).trans rfl
                have hcz47_2 : wc.cell? ⟨gb101, 2, none⟩ = some (.int .u64 0) := (blk_cell BK101.out 2).trans rfl
                have hcz47_3 : wc.cell? ⟨gb101, 3, none⟩ = some (.string (⟨#[]⟩ : ByteArray)) := (blk_cell BK101.out 3).trans rfl
                have hfz47_0 := blk_frozen BK101.out 0
                have hfz47_1 := blk_frozen BK101.out 1
                have hfz47_2 := blk_frozen BK101.out 2
                have hfz47_3 := blk_frozen BK101.out 3
                go_wp2
                refine bodyPost_ret (results_ctt rfl _ _ gb101 47 #[.int .i64 0, .int .i64 0, .int .u64 0, .string (⟨#[]⟩ : ByteArray)] (0, 0) _ rfl (by (with_reducible repeat (first | refine blk_drewN ?_ _ | refine blk_drew ?_ | refine blk_alloc ?_ _)); refine blk_put (cs := #[.int .i64 0, .int .i64 0, .int .u64 0, .string (⟨#[]⟩ : ByteArray)]) ?_ 3 _ rfl; (with_reducible repeat (first | refine blk_drewN ?_ _ | refine blk_drew ?_ | refine blk_alloc ?_ _)); refine blk_put (cs := #[.int .i64 0, .int .i64 0, .int .u64 0, .string (⟨#[]⟩ : ByteArray)]) ?_ 2 _ rfl; (with_reducible repeat (first | refine blk_drewN ?_ _ | refine blk_drew ?_ | refine blk_alloc ?_ _)); refine blk_put (cs := #[.int .i64 0, .int .i64 0, .int .u64 0, .string (⟨#[]⟩ : ByteArray)]) ?_ 1 _ rfl; (with_reducible repeat (first | refine blk_drewN ?_ _ | refine blk_drew ?_ | refine blk_alloc ?_ _)); refine blk_put (cs := #[.int .i64 0, .int .i64 0, .int .u64 0, .string (⟨#[]⟩ : ByteArray)]) ?_ 0 _ rfl; (with_reducible repeat (first | refine blk_drewN ?_ _ | refine blk_drew ?_ | refine blk_alloc ?_ _)); exact BK101.out) Try.underlying47 rfl (by kernel_rfl)) rfl ?_
                exact ⟨by first | rfl | (simp [errW_none, errW_some] <;> rfl) | (simp [*, errW_none, errW_some] <;> rfl), by repeat (first | (with_reducible first | exact HB.out | apply below_alloc | apply pw_below_drewN | apply below_drew1 | refine below_set ?_ GE101.out | refine below_set ?_ GE106.out) | exact HB.out)⟩
              · rw [if_neg c45] at H
                have c45b0 : decide ((wrap64 ((a0.size : Int) - t103)) < 8) = false := decide_eq_false c45
                clear c45
                by_cases c48 : 0 ≤ t103
                · rw [if_pos c48] at H
                  have c48b0 := eq_true c48
                  have c48b1 : decide (0 ≤ t103) = true := decide_eq_true c48
                  clear c48
                  by_cases c49 : t103 ≤ (wrap64 (t103 + 8))
                  · rw [if_pos c49] at H
                    have c49b0 := eq_true c49
                    have c49b1 : decide (t103 ≤ (wrap64 (t103 + 8))) = true := decide_eq_true c49
                    by_cases c50 : (wrap64 (t103 + 8)) ≤ (a0.size : Int)
                    · rw [if_pos c50] at H
                      have c50b0 := eq_true c50
                      have c50b1 : decide ((wrap64 (t103 + 8)) ≤ (a0.size : Int)) = true := decide_eq_true c50
                      replace H := Option.bind_eq_some_iff.mp H
                      obtain ⟨t111, A510, H⟩ := H
                      replace H : (some ((wrap64 (t102 / 8)), (wrap64 (Go.bits .and .u64 t102 7)), t111, (⟨#[]⟩ : ByteArray), wrap64 (t103 + 8), 0)) = some (r1, r2, r3, r4, r5, r6) := H
                      have A51 := Aside0.mk A510
                      clear A510
                      simp only [Option.some.injEq, Prod.mk.injEq] at H
                      obtain ⟨rfl, rfl, rfl, rfl, rfl, rfl⟩ := H
                      go_wp2_with (first | ((with_reducible refine gate_callee (f := 50) rfl ?_); refine goesL_ (some 102) rfl rfl Try.func50 (by kernel_rfl) rfl #[.string (a0.extract (t103 : Int).toNat ((wrap64 (t103 + 8)) : Int).toNat)] rfl (by (try simp only [List.map_toArray, List.map_cons, List.map_nil]); first | done | rfl | (simp only [List.length_drop, List.length_take]; rfl)) ?_; (with_reducible refine (wire_fixed_s.calls (a0.extract (t103 : Int).toNat ((wrap64 (t103 + 8)) : Int).toNat) t111 _ A51.out).mono ?_); rintro e w' ⟨rfl, ⟨nd, rfl⟩⟩; refine ⟨_, rfl, ?_⟩; (try (rw [drewN_self wc]; generalize hq_ : World.drewN wc _ = wc; have n0_ : Aside0 (wc.heap[gb101]? = some (.cells #[.int .i64 0, .int .i64 0, .int .u64 0, .string (⟨#[]⟩ : ByteArray)] 47 (0, 0))) := ⟨by rw [← hq_]; exact (by (with_reducible repeat (first | refine blk_drewN ?_ _ | refine blk_drew ?_ | refine blk_alloc ?_ _)); exact BK101.out)⟩; have n1_ : Aside0 (wc.heap[gb106]? = some (.cells #[.int .i64 (wrap64 (t102 / 8)), .int .i64 (wrap64 (Go.bits .and .u64 t102 7)), .int .u64 0, .string (⟨#[]⟩ : ByteArray)] 47 (0, 0))) := ⟨by rw [← hq_]; exact (by (with_reducible repeat (first | refine blk_drewN ?_ _ | refine blk_drew ?_ | refine blk_alloc ?_ _)); exact BK106.out)⟩; have n2_ : Aside0 (Below w.heap.size w wc) := ⟨by rw [← hq_]; exact (by repeat (first | (with_reducible first | exact HB.out | apply below_alloc | apply pw_below_drewN | apply below_drew1 | refine below_set ?_ GE101.out | refine below_set ?_ GE106.out) | exact HB.out))⟩; clear BK101 BK106 HB hq_; have BK101 := n0_; have BK106 := n1_; have HB := n2_; clear n0_ n1_ n2_)); have hnb52 := NB106_101.out; have hnc52 := NB101_106.out; have hcz53_0 : wc.cell? ⟨gb106, 0, none⟩ = some (.int .i64 (wrap64 (t102 / 8))) := (blk_cell BK106.out 0).trans rfl; have hcz53_1 : wc.cell? ⟨gb106, 1, none⟩ = some (.int .i64 (wrap64 (Go.bits .and .u64 t102 7))) := (blk_cell BK106.out 1).trans rfl; have hcz53_2 : wc.cell? ⟨gb106, 2, none⟩ = some (.int .u64 0) := (blk_cell BK106.out 2).trans rfl; have hcz53_3 : wc.cell? ⟨gb106, 3, none⟩ = some (.string (⟨#[]⟩ : ByteArray)) := (blk_cell BK106.out 3).trans rfl; have hfz53_0 := blk_frozen BK106.out 0; have hfz53_1 := blk_frozen BK106.out 1; have hfz53_2 := blk_frozen BK106.out 2; have hfz53_3 := blk_frozen BK106.out 3; have hcz54_0 : wc.cell? ⟨gb101, 0, none⟩ = some (.int .i64 0) := (blk_cell BK101.out 0).trans rfl; have hcz54_1 : wc.cell? ⟨gb101, 1, none⟩ = some (.int .i64 0) := (blk_cell BK101.out 1).trans rfl; have hcz54_2 : wc.cell? ⟨gb101, 2, none⟩ = some (.int .u64 0) := (blk_cell BK101.out 2).trans rfl; have hcz54_3 : wc.cell? ⟨gb101, 3, none⟩ = some (.string (⟨#[]⟩ : ByteArray)) := (blk_cell BK101.out 3).trans rfl; have hfz54_0 := blk_frozen BK101.out 0; have hfz54_1 := blk_frozen BK101.out 1; have hfz54_2 := blk_frozen BK101.out 2; have hfz54_3 := blk_frozen BK101.out 3))
                      refine bodyPost_ret (results_ctt rfl _ _ gb101 47 #[.int .i64 (wrap64 (t102 / 8)), .int .i64 (wrap64 (Go.bits .and .u64 t102 7)), .int .u64 t111, .string (⟨#[]⟩ : ByteArray)] (0, 0) _ rfl (by (with_reducible repeat (first | refine blk_drewN ?_ _ | refine blk_drew ?_ | refine blk_alloc ?_ _)); refine blk_put (cs := #[.int .i64 (wrap64 (t102 / 8)), .int .i64 (wrap64 (Go.bits .and .u64 t102 7)), .int .u64 t111, .string (⟨#[]⟩ : ByteArray)]) ?_ 3 _ rfl; (with_reducible repeat (first | refine blk_drewN ?_ _ | refine blk_drew ?_ | refine blk_alloc ?_ _)); refine blk_put (cs := #[.int .i64 (wrap64 (t102 / 8)), .int .i64 (wrap64 (Go.bits .and .u64 t102 7)), .int .u64 0, .string (⟨#[]⟩ : ByteArray)]) ?_ 2 _ rfl; (with_reducible repeat (first | refine blk_drewN ?_ _ | refine blk_drew ?_ | refine blk_alloc ?_ _)); refine blk_put (cs := #[.int .i64 (wrap64 (t102 / 8)), .int .i64 0, .int .u64 0, .string (⟨#[]⟩ : ByteArray)]) ?_ 1 _ rfl; (with_reducible repeat (first | refine blk_drewN ?_ _ | refine blk_drew ?_ | refine blk_alloc ?_ _)); refine blk_put (cs := #[.int .i64 0, .int .i64 0, .int .u64 0, .string (⟨#[]⟩ : ByteArray)]) ?_ 0 _ rfl; (with_reducible repeat (first | refine blk_drewN ?_ _ | refine blk_drew ?_ | refine blk_alloc ?_ _)); refine blk_far ?_ NB101_106.out _; (with_reducible repeat (first | refine blk_drewN ?_ _ | refine blk_drew ?_ | refine blk_alloc ?_ _)); exact BK101.out) Try.underlying47 rfl (by kernel_rfl)) rfl ?_
                      exact ⟨by first | rfl | (simp [errW_none, errW_some] <;> rfl) | (simp [*, errW_none, errW_some] <;> rfl), by repeat (first | (with_reducible first | exact HB.out | apply below_alloc | apply pw_below_drewN | apply below_drew1 | refine below_set ?_ GE101.out | refine below_set ?_ GE106.out) | exact HB.out)⟩
                    · rw [if_neg c50] at H
                      exact absurd H (by simp)
                  · rw [if_neg c49] at H
                    exact absurd H (by simp)
                · rw [if_neg c48] at H
                  exact absurd H (by simp)
    · replace c5 := Bool.eq_false_iff.mpr c5
      subst c5
      have H1 : (some (0, 0, 0, (⟨#[]⟩ : ByteArray), 0, 3)) = some (r1, r2, r3, r4, r5, r6) := by rw [if_neg (show ¬ (false = true) by decide)] at H; exact H
      clear H
      have H := H1
      clear H1
      simp only [Option.some.injEq, Prod.mk.injEq] at H
      obtain ⟨rfl, rfl, rfl, rfl, rfl, rfl⟩ := H
      go_enter Try.func42, Try.ntmps42
      go_wp2_with (first | ((with_reducible refine gate_dst (N := 2) rfl ?_); refine box_event ?hg (N := 2) ?hd (cs := #[.int .i64 0, .int .i64 0, .int .u64 0, .string (⟨#[]⟩ : ByteArray)]) (t := 47) ?hr ?_; (case hd => rfl); (case hg => rfl); (case hr => first | (go_simp; done) | (go_simp; rfl)); intro gb101 hg w55 hbox hb; have n0_ := Aside0.mk (below_step (by repeat (first | (with_reducible first | exact HB.out | apply below_alloc | apply pw_below_drewN | apply below_drew1) | exact HB.out)) hb); have n1_ := Aside0.mk (hbox); have n2_ := Aside0.mk ((by rw [hg]; exact (below_size (by repeat (first | (with_reducible first | exact HB.out | apply below_alloc | apply pw_below_drewN | apply below_drew1) | exact HB.out))) : w.heap.size ≤ gb101)); have n3_ := Aside0.mk ((by rw [hg]; exact (below_size (by repeat (first | (with_reducible first | exact HB.out | apply below_alloc | apply pw_below_drewN | apply below_drew1) | exact HB.out))) : w.heap.size ≤ gb101)); clear HB; have HB := n0_; have BK101 := n1_; have GW101 := n2_; have GE101 := n3_; clear n0_ n1_ n2_ n3_; clear hb hbox hg) | ((with_reducible refine gate_callee (f := 13) rfl ?_); refine goesL_ (some 15) rfl rfl Try.func13 (by kernel_rfl) rfl #[.string a0] rfl (by (try simp only [List.map_toArray, List.map_cons, List.map_nil]); first | done | rfl | (simp only [List.length_drop, List.length_take]; rfl)) ?_; (with_reducible refine (varint_Read.calls a0 t102 t103 t104 _ A2.out).mono ?_); rintro e w' ⟨rfl, ⟨nd, rfl⟩⟩; refine ⟨_, rfl, ?_⟩; (try (rw [drewN_self w55]; generalize hq_ : World.drewN w55 _ = w55; have n0_ : Aside0 (w55.heap[gb101]? = some (.cells #[.int .i64 0, .int .i64 0, .int .u64 0, .string (⟨#[]⟩ : ByteArray)] 47 (0, 0))) := ⟨by rw [← hq_]; exact (by (with_reducible repeat (first | refine blk_drewN ?_ _ | refine blk_drew ?_ | refine blk_alloc ?_ _)); exact BK101.out)⟩; have n1_ : Aside0 (Below w.heap.size w w55) := ⟨by rw [← hq_]; exact (by repeat (first | (with_reducible first | exact HB.out | apply below_alloc | apply pw_below_drewN | apply below_drew1 | refine below_set ?_ GE101.out) | exact HB.out))⟩; clear BK101 HB hq_; have BK101 := n0_; have HB := n1_; clear n0_ n1_))) | ((with_reducible refine gate_callee (f := 45) rfl ?_); refine goesL_ (some 29) rfl rfl Try.func45 (by kernel_rfl) rfl #[.int .u64 (t102 / 8), .int .u64 (Go.bits .and .u64 t102 7)] rfl (by (try simp only [List.map_toArray, List.map_cons, List.map_nil]); first | done | rfl | (simp only [List.length_drop, List.length_take]; rfl)) ?_; (with_reducible refine (wire_may.calls (t102 / 8) (Go.bits .and .u64 t102 7) false _ A4.out).mono ?_); rintro e w' ⟨rfl, ⟨nd, rfl⟩⟩; refine ⟨_, rfl, ?_⟩; (try (rw [drewN_self w55]; generalize hq_ : World.drewN w55 _ = w55; have n0_ : Aside0 (w55.heap[gb101]? = some (.cells #[.int .i64 0, .int .i64 0, .int .u64 0, .string (⟨#[]⟩ : ByteArray)] 47 (0, 0))) := ⟨by rw [← hq_]; exact (by (with_reducible repeat (first | refine blk_drewN ?_ _ | refine blk_drew ?_ | refine blk_alloc ?_ _)); exact BK101.out)⟩; have n1_ : Aside0 (Below w.heap.size w w55) := ⟨by rw [← hq_]; exact (by repeat (first | (with_reducible first | exact HB.out | apply below_alloc | apply pw_below_drewN | apply below_drew1 | refine below_set ?_ GE101.out) | exact HB.out))⟩; clear BK101 HB hq_; have BK101 := n0_; have HB := n1_; clear n0_ n1_)); have hcz56_0 : w55.cell? ⟨gb101, 0, none⟩ = some (.int .i64 0) := (blk_cell BK101.out 0).trans rfl; have hcz56_1 : w55.cell? ⟨gb101, 1, none⟩ = some (.int .i64 0) := (blk_cell BK101.out 1).trans rfl; have hcz56_2 : w55.cell? ⟨gb101, 2, none⟩ = some (.int .u64 0) := (blk_cell BK101.out 2).trans rfl; have hcz56_3 : w55.cell? ⟨gb101, 3, none⟩ = some (.string (⟨#[]⟩ : ByteArray)) := (blk_cell BK101.out 3).trans rfl; have hfz56_0 := blk_frozen BK101.out 0; have hfz56_1 := blk_frozen BK101.out 1; have hfz56_2 := blk_frozen BK101.out 2; have hfz56_3 := blk_frozen BK101.out 3))
      refine bodyPost_ret (results_ctt rfl _ _ gb101 47 #[.int .i64 0, .int .i64 0, .int .u64 0, .string (⟨#[]⟩ : ByteArray)] (0, 0) _ rfl (by (with_reducible repeat (first | refine blk_drewN ?_ _ | refine blk_drew ?_ | refine blk_alloc ?_ _)); refine blk_put (cs := #[.int .i64 0, .int .i64 0, .int .u64 0, .string (⟨#[]⟩ : ByteArray)]) ?_ 3 _ rfl; (with_reducible repeat (first | refine blk_drewN ?_ _ | refine blk_drew ?_ | refine blk_alloc ?_ _)); refine blk_put (cs := #[.int .i64 0, .int .i64 0, .int .u64 0, .string (⟨#[]⟩ : ByteArray)]) ?_ 2 _ rfl; (with_reducible repeat (first | refine blk_drewN ?_ _ | refine blk_drew ?_ | refine blk_alloc ?_ _)); refine blk_put (cs := #[.int .i64 0, .int .i64 0, .int .u64 0, .string (⟨#[]⟩ : ByteArray)]) ?_ 1 _ rfl; (with_reducible repeat (first | refine blk_drewN ?_ _ | refine blk_drew ?_ | refine blk_alloc ?_ _)); refine blk_put (cs := #[.int .i64 0, .int .i64 0, .int .u64 0, .string (⟨#[]⟩ : ByteArray)]) ?_ 0 _ rfl; (with_reducible repeat (first | refine blk_drewN ?_ _ | refine blk_drew ?_ | refine blk_alloc ?_ _)); exact BK101.out) Try.underlying47 rfl (by kernel_rfl)) rfl ?_
      exact ⟨by first | rfl | (simp [errW_none, errW_some] <;> rfl) | (simp [*, errW_none, errW_some] <;> rfl), by repeat (first | (with_reducible first | exact HB.out | apply below_alloc | apply pw_below_drewN | apply below_drew1 | refine below_set ?_ GE101.out) | exact HB.out)⟩
  · rw [if_neg c3] at H
    have c3b0 : (t104 == 0) = false := beq_eq_false_iff_ne.mpr c3
    have c3b1 : (t104 != 0) = true := bne_iff_ne.mpr c3
    simp only [Option.some.injEq, Prod.mk.injEq] at H
    obtain ⟨rfl, rfl, rfl, rfl, rfl, rfl⟩ := H
    go_enter Try.func42, Try.ntmps42
    go_wp2_with (first | ((with_reducible refine gate_dst (N := 2) rfl ?_); refine box_event ?hg (N := 2) ?hd (cs := #[.int .i64 0, .int .i64 0, .int .u64 0, .string (⟨#[]⟩ : ByteArray)]) (t := 47) ?hr ?_; (case hd => rfl); (case hg => rfl); (case hr => first | (go_simp; done) | (go_simp; rfl)); intro gb101 hg w57 hbox hb; have n0_ := Aside0.mk (below_step (by repeat (first | (with_reducible first | exact HB.out | apply below_alloc | apply pw_below_drewN | apply below_drew1) | exact HB.out)) hb); have n1_ := Aside0.mk (hbox); have n2_ := Aside0.mk ((by rw [hg]; exact (below_size (by repeat (first | (with_reducible first | exact HB.out | apply below_alloc | apply pw_below_drewN | apply below_drew1) | exact HB.out))) : w.heap.size ≤ gb101)); have n3_ := Aside0.mk ((by rw [hg]; exact (below_size (by repeat (first | (with_reducible first | exact HB.out | apply below_alloc | apply pw_below_drewN | apply below_drew1) | exact HB.out))) : w.heap.size ≤ gb101)); clear HB; have HB := n0_; have BK101 := n1_; have GW101 := n2_; have GE101 := n3_; clear n0_ n1_ n2_ n3_; clear hb hbox hg) | ((with_reducible refine gate_callee (f := 13) rfl ?_); refine goesL_ (some 15) rfl rfl Try.func13 (by kernel_rfl) rfl #[.string a0] rfl (by (try simp only [List.map_toArray, List.map_cons, List.map_nil]); first | done | rfl | (simp only [List.length_drop, List.length_take]; rfl)) ?_; (with_reducible refine (varint_Read.calls a0 t102 t103 t104 _ A2.out).mono ?_); rintro e w' ⟨rfl, ⟨nd, rfl⟩⟩; refine ⟨_, rfl, ?_⟩; (try (rw [drewN_self w57]; generalize hq_ : World.drewN w57 _ = w57; have n0_ : Aside0 (w57.heap[gb101]? = some (.cells #[.int .i64 0, .int .i64 0, .int .u64 0, .string (⟨#[]⟩ : ByteArray)] 47 (0, 0))) := ⟨by rw [← hq_]; exact (by (with_reducible repeat (first | refine blk_drewN ?_ _ | refine blk_drew ?_ | refine blk_alloc ?_ _)); exact BK101.out)⟩; have n1_ : Aside0 (Below w.heap.size w w57) := ⟨by rw [← hq_]; exact (by repeat (first | (with_reducible first | exact HB.out | apply below_alloc | apply pw_below_drewN | apply below_drew1 | refine below_set ?_ GE101.out) | exact HB.out))⟩; clear BK101 HB hq_; have BK101 := n0_; have HB := n1_; clear n0_ n1_)); have hcz58_0 : w57.cell? ⟨gb101, 0, none⟩ = some (.int .i64 0) := (blk_cell BK101.out 0).trans rfl; have hcz58_1 : w57.cell? ⟨gb101, 1, none⟩ = some (.int .i64 0) := (blk_cell BK101.out 1).trans rfl; have hcz58_2 : w57.cell? ⟨gb101, 2, none⟩ = some (.int .u64 0) := (blk_cell BK101.out 2).trans rfl; have hcz58_3 : w57.cell? ⟨gb101, 3, none⟩ = some (.string (⟨#[]⟩ : ByteArray)) := (blk_cell BK101.out 3).trans rfl; have hfz58_0 := blk_frozen BK101.out 0; have hfz58_1 := blk_frozen BK101.out 1; have hfz58_2 := blk_frozen BK101.out 2; have hfz58_3 := blk_frozen BK101.out 3))
    refine bodyPost_ret (results_ctt rfl _ _ gb101 47 #[.int .i64 0, .int .i64 0, .int .u64 0, .string (⟨#[]⟩ : ByteArray)] (0, 0) _ rfl (by (with_reducible repeat (first | refine blk_drewN ?_ _ | refine blk_drew ?_ | refine blk_alloc ?_ _)); refine blk_put (cs := #[.int .i64 0, .int .i64 0, .int .u64 0, .string (⟨#[]⟩ : ByteArray)]) ?_ 3 _ rfl; (with_reducible repeat (first | refine blk_drewN ?_ _ | refine blk_drew ?_ | refine blk_alloc ?_ _)); refine blk_put (cs := #[.int .i64 0, .int .i64 0, .int .u64 0, .string (⟨#[]⟩ : ByteArray)]) ?_ 2 _ rfl; (with_reducible repeat (first | refine blk_drewN ?_ _ | refine blk_drew ?_ | refine blk_alloc ?_ _)); refine blk_put (cs := #[.int .i64 0, .int .i64 0, .int .u64 0, .string (⟨#[]⟩ : ByteArray)]) ?_ 1 _ rfl; (with_reducible repeat (first | refine blk_drewN ?_ _ | refine blk_drew ?_ | refine blk_alloc ?_ _)); refine blk_put (cs := #[.int .i64 0, .int .i64 0, .int .u64 0, .string (⟨#[]⟩ : ByteArray)]) ?_ 0 _ rfl; (with_reducible repeat (first | refine blk_drewN ?_ _ | refine blk_drew ?_ | refine blk_alloc ?_ _)); exact BK101.out) Try.underlying47 rfl (by kernel_rfl)) rfl ?_
    exact ⟨by first | rfl | (simp [errW_none, errW_some] <;> rfl) | (simp [*, errW_none, errW_some] <;> rfl), by repeat (first | (with_reducible first | exact HB.out | apply below_alloc | apply pw_below_drewN | apply below_drew1 | refine below_set ?_ GE101.out) | exact HB.out)⟩

end Go.Proofs.Ytohddbiedabmhaa.X
