import Derived.Test.YthidedmnmdlfkaaGreatMPbnodeWritesUpto2
import Derived.Test.YthidedmnmdlfkaaGreatMPbnodeWritesUpto10
import Derived.Test.YthidedmnmdlfkaaGreatMPbnodeWritesUpto4
import Derived.Test.YthidedmnmdlfkaaGreatMPbnodeWritesUpto3
import Derived.Test.YthidedmnmdlfkaaGreatMPbnodeWritesUpto5
import Derived.Shelf.Strings.Builder1
import Derived.ScopeJumps
import Derived.WalkMore
namespace Go.Proofs.YthidedmnmdlfkaaGreat.X
open Go.RowKit Go.Proofs.YthidedmnmdlfkaaGreatW.PrintWords Go.Proofs.YthidedmnmdlfkaaGreatW.PrintLast Go.Proofs.YthidedmnmdlfkaaGreatW.PrintMore
attribute [local go_sem] max2_int min2_int max_two min_two max_three min_three max_four min_four
set_option linter.unusedVariables false
set_option linter.unusedSimpArgs false
def wire_Field_Bytes_s.f (a0 a1 a2 : Int) (a3 : ByteArray) : Option ByteArray :=
  if -9223372036854775808 ≤ a0 ∧ a0 < 9223372036854775808 ∧ -9223372036854775808 ≤ a1 ∧ a1 < 9223372036854775808 ∧ 0 ≤ a2 ∧ a2 < 18446744073709551616 ∧ a3.size ≤ 140737488351232 then some (bytesS a0 a1 a2 a3) else none
theorem tag_or (num ty : Int) (h0 : 1 ≤ num) (h1 : num ≤ 536870911) (h2 : 0 ≤ ty) (h3 : ty < 8) :
    Go.bits .or .u64 (IntKind.u64.wrap (IntKind.u64.wrap num * 8)) (IntKind.u64.wrap ty) = 8 * num + ty := by
  obtain ⟨n, rfl⟩ := Int.eq_ofNat_of_zero_le (show 0 ≤ num by omega)
  obtain ⟨t, rfl⟩ := Int.eq_ofNat_of_zero_le h2
  rw [u64_id (x := (n : Int)) (by omega) (by omega), u64_id (x := (t : Int)) (by omega) (by omega), u64_id (by omega) (by omega)]
  have e : ((n : Int) * 8) = ((2 ^ 3 * n : Nat) : Int) := by omega
  rw [e, u64_or_nat _ _ (by omega) (by omega), ← Nat.two_pow_add_eq_or_of_lt (by omega)]
  omega
theorem wire_may_eval (a b : Int) (h0 : 0 ≤ a) (h1 : 0 ≤ b) : wire_may.f a b = some (decide (1 ≤ a ∧ a ≤ 536870911 ∧ (b = 0 ∨ b = 1 ∨ b = 2 ∨ b = 5))) := by
  unfold wire_may.f
  by_cases g1 : a ≥ 1
  · by_cases g2 : a ≤ 536870911
    · rw [if_pos g1, if_pos g2]
      by_cases g3 : b = 0
      · simp [g1, g2, g3]
      · by_cases g4 : b = 1
        · simp [g1, g2, g4]
        · by_cases g5 : b = 2
          · simp [g1, g2, g5]
          · simp [g1, g2, g3, g4, g5]
            rw [Bool.eq_iff_iff]; simp
    · rw [if_pos g1, if_neg g2]; simp [g2]
  · rw [if_neg g1]; simp; omega
theorem wire_Field_Bytes_s.ev (a0 a1 a2 : Int) (a3 : ByteArray) (r) (h : wire_Field_Bytes_s.f a0 a1 a2 a3 = some r) : ∃ k, wire_Field_Bytes.f k a0 a1 a2 a3 = some r := by
  unfold wire_Field_Bytes_s.f at h
  split at h
  · rename_i hr
    obtain ⟨p0, p1, p2, p3, p4, p5, p6⟩ := hr
    rw [← h]
    refine ⟨1, ?_⟩
    unfold wire_Field_Bytes.f bytesS
    by_cases hm : 1 ≤ a0 ∧ a0 ≤ 536870911 ∧ (a1 = 0 ∨ a1 = 1 ∨ a1 = 2 ∨ a1 = 5)
    · have hm1 := hm
      obtain ⟨m0, m1, m2⟩ := hm1
      rw [if_neg (by omega), if_neg (by omega), u64_id (x := a0) (by omega) (by omega), u64_id (x := a1) (by omega) (by omega), wire_may_eval _ _ (by omega) (by omega), decide_eq_true hm, Option.bind_some, if_pos hm]
      simp only [wire_Field_Bytes.j0]
      have ep : ∀ x : Int, 0 ≤ x → x < 18446744073709551616 → varint_Put.f x = some (vStr x.toNat) := fun x g0 g1 => if_pos ⟨g0, g1⟩
      have hs : ∀ x : Int, 0 ≤ x → x < 18446744073709551616 → (vStr x.toNat).size ≤ 10 := fun x g0 g1 => by rw [vStr_size]; exact vSize_10 _ (by omega)
      have hs1 := hs (8 * a0 + a1) (by omega) (by omega)
      rw [if_neg (by decide), tag_or a0 a1 m0 m1 (by omega) (by omega), ep _ (by omega) (by omega), Option.bind_some]
      rcases m2 with rfl | rfl | rfl | rfl
      · have hs2 := hs a2 p4 p5
        rw [if_pos rfl, if_pos rfl, ep _ p4 p5, Option.bind_some, if_pos (by omega)]
      · rw [if_neg (by decide), if_neg (by decide), if_pos rfl, if_neg (by decide), if_neg (by decide), if_pos rfl]
        have el : wire_laid_s.f a2 8 = some (laidStr a2.toNat 8) := if_pos ⟨p4, p5, by decide, by decide⟩
        rw [el, Option.bind_some, if_pos (by rw [laidStr_size]; omega)]
      · have hs2 := hs (a3.size : Int) (by omega) (by omega)
        rw [Int.toNat_natCast] at hs2
        rw [if_neg (by decide), if_pos rfl, if_neg (by decide), if_pos rfl, u64_id (by omega) (by omega), ep _ (by omega) (by omega), Option.bind_some, Int.toNat_natCast, if_pos (by omega), if_pos (by rw [ByteArray.size_append]; omega)]
      · rw [if_neg (show ¬ (5 : Int) = 0 by decide), if_neg (show ¬ (5 : Int) = 2 by decide), if_neg (show ¬ (5 : Int) = 1 by decide), if_neg (show ¬ (5 : Int) = 0 by decide), if_neg (show ¬ (5 : Int) = 2 by decide), if_neg (show ¬ (5 : Int) = 1 by decide)]
        by_cases hg : a2 > 4294967295
        · rw [if_pos hg, if_pos hg]
        · rw [if_neg hg, if_neg hg]
          have el : wire_laid_s.f a2 4 = some (laidStr a2.toNat 4) := if_pos ⟨p4, p5, by decide, by decide⟩
          rw [el, Option.bind_some, if_pos (by rw [laidStr_size]; omega)]
    · rw [if_neg hm]
      by_cases n0 : a0 < 0
      · rw [if_pos n0]; rfl
      · by_cases n1 : a1 < 0
        · rw [if_neg n0, if_pos n1]; rfl
        · rw [if_neg n0, if_neg n1, u64_id (x := a0) (by omega) (by omega), u64_id (x := a1) (by omega) (by omega), wire_may_eval _ _ (by omega) (by omega), decide_eq_false hm]; rfl
  · cases h
set_option maxHeartbeats 1000000 in
theorem wire_Field_Bytes_s.calls (a0_0 : Int) (a0_1 : Int) (a0_2 : Int) (a0_3 : ByteArray) (r : ByteArray) (w : World) (h : wire_Field_Bytes_s.f a0_0 a0_1 a0_2 a0_3 = some r) :
    Calls Tryz.prog 44 #[.agg #[.int .i64 a0_0, .int .i64 a0_1, .int .u64 a0_2, .string a0_3]] w fun e w' => e = .returned (.string r) ∧ Below w.heap.size w w' := by
  obtain ⟨k, hk⟩ := wire_Field_Bytes_s.ev a0_0 a0_1 a0_2 a0_3 _ h
  exact wire_Field_Bytes.calls k a0_0 a0_1 a0_2 a0_3 r w hk
def wire_Text.f (a0 : Int) (a1 : ByteArray) : Option (ByteArray) := (wire_Field_Bytes_s.f a0 2 0 a1).bind fun t101 => (some t101)
set_option maxHeartbeats 8000000 in
set_option maxRecDepth 100000 in
theorem wire_Text.calls (a0 : Int) (a1 : ByteArray) (r : ByteArray) (w : World) (h : wire_Text.f a0 a1 = some r) :
    Calls Tryz.prog 21 #[.int .i64 a0, .string a1] w fun e w' => e = .returned (.string r) ∧ Below w.heap.size w w' := by
  have hu75 := Tryz.underlying75; have HB := mk0 (Below.refl w.heap.size w); have H : ((wire_Field_Bytes_s.f a0 2 0 a1).bind fun t101 => (some t101)) = some r := h; clear h; replace H := bnd H; obtain ⟨t101, A3, H⟩ := H; obtain rfl := Option.some.inj H
  go_enter Tryz.func21, Tryz.ntmps21
  go_wp2_with (first | ((with_reducible refine gate_callee (f := 44) rfl ?_); refine glE (some 8) rfl rfl Tryz.func44 (by kernel_rfl) rfl #[.agg #[.int .i64 a0, .int .i64 2, .int .u64 0, .string a1]] rfl ?_; (with_reducible refine (wire_Field_Bytes_s.calls a0 2 0 a1 t101 _ A3.out).mono ?_); rintro e w4 ⟨rfl, hb⟩; refine ⟨_, rfl, ?_⟩; replace HB := mk0 (below_step (hbA HB) hb); (try clear hb)))
  go_ret
  exact ⟨cl3, hbA HB⟩
def wire_Text_s.f (a0 : Int) (a1 : ByteArray) : Option ByteArray := wire_Field_Bytes_s.f a0 2 0 a1
theorem wire_Text_s.ev (a0 : Int) (a1 : ByteArray) (r) (h : wire_Text_s.f a0 a1 = some r) : ∃ k : Nat, wire_Text.f a0 a1 = some r := by
  unfold wire_Text_s.f at h
  exact ⟨0, by unfold wire_Text.f; rw [h]; rfl⟩
set_option maxHeartbeats 1000000 in
theorem wire_Text_s.calls (a0 : Int) (a1 : ByteArray) (r : ByteArray) (w : World) (h : wire_Text_s.f a0 a1 = some r) :
    Calls Tryz.prog 21 #[.int .i64 a0, .string a1] w fun e w' => e = .returned (.string r) ∧ Below w.heap.size w w' := by
  obtain ⟨k, hk⟩ := wire_Text_s.ev a0 a1 _ h
  exact wire_Text.calls a0 a1 r w hk
def pack_Put.f (a0 : Int) (l1 : List Int) : Option ByteArray := if -9223372036854775808 ≤ a0 ∧ a0 < 9223372036854775808 ∧ l1.length ≤ 1000000000 then some (putS a0 l1) else none
theorem pack_Put_text (a0 : Int) (l1 : List Int) (h : -9223372036854775808 ≤ a0 ∧ a0 < 9223372036854775808 ∧ l1.length ≤ 1000000000) : wire_Text_s.f a0 (catS l1) = some (bytesS a0 2 0 (catS l1)) := by
  have hs := catS_size l1
  exact if_pos ⟨h.1, h.2.1, by decide, by decide, by decide, by decide, by omega⟩
set_option maxHeartbeats 8000000 in
set_option maxRecDepth 100000 in
theorem pack_Put.calls (a0 : Int) (A1 : Option Addr) (c1 : Nat) (l1 : List Int) (r : ByteArray) (w : World) (hr1 : Kd.C (Kd.int .i64) w A1 l1.length l1) (hc1 : l1.length ≤ c1) (h : pack_Put.f a0 l1 = some r) :
    Calls Tryz.prog 45 #[.int .i64 a0, .slice A1 l1.length c1] w fun e w' => e = .returned (.string r) ∧ Below w.heap.size w w' := by
  unfold pack_Put.f at h
  by_cases hb : -9223372036854775808 ≤ a0 ∧ a0 < 9223372036854775808 ∧ l1.length ≤ 1000000000
  · rw [if_pos hb] at h
    have Hput := Aside0.mk (Option.some.inj h)
    have Htext := Aside0.mk (pack_Put_text a0 l1 hb)
    have HL := Aside0.mk hb.2.2
    have HR1 := Aside0.mk hr1
    have HC1 := Aside0.mk hc1
    clear h hb hr1 hc1
    by_cases h0 : l1.length = 0
    · have hz : ((l1.length : Int) == 0) = true := by simp [h0]
      have Hn : Aside0 (l1 = []) := ⟨List.eq_nil_of_length_eq_zero h0⟩
      clear h0
      go_enter Tryz.func45, Tryz.ntmps45
      go_wp2
      go_ret
      exact ⟨by rw [← Hput.out, Hn.out]; rfl, Below.refl _ _⟩
    · have hz : ((l1.length : Int) == 0) = false := by simp; intro hh; exact h0 (by rw [hh]; rfl)
      have Hne : Aside0 (¬ l1 = []) := ⟨fun hh => h0 (by rw [hh]; rfl)⟩
      clear h0
      go_enter Tryz.func45, Tryz.ntmps45
      go_wp2
      have HB0 : Aside0 (Below w.heap.size w (w.alloc (Obj.cells #[Value.pointer none, Value.slice none 0 0] 123))) := ⟨below_alloc (Below.refl _ _) _⟩
      have HI0 : Aside0 (Lib.IsBuilder 123 5 w.heap.size w.heap.size (Lib.byteCells (catS (l1.take 0)).data.toList) (w.alloc (Obj.cells #[Value.pointer none, Value.slice none 0 0] 123))) := ⟨Lib.fresh_isBuilder _ _ w⟩
      go_loopg [13] l1.length (fun kq v13 w' => ∃ i : Nat, v13 = .int .i64 i ∧ Aside0 (i + kq = l1.length) ∧ i ≤ l1.length ∧ Aside0 (Lib.IsBuilder 123 5 w.heap.size w.heap.size (Lib.byteCells (catS (l1.take i)).data.toList) w') ∧ Aside0 (Below w.heap.size w w'))
      case atStart => exact ⟨0, rfl, ⟨by omega⟩, Nat.zero_le _, HI0, HB0⟩
      case round =>
        obtain ⟨i, rfl, HK, hi, HI, HB⟩ := hrel
        clear HB0 HI0
        by_cases hlt : i < l1.length
        · have hlt' : decide ((i : Int) < (l1.length : Int)) = true := by simpa using hlt
          obtain ⟨k1, rfl⟩ : ∃ m, gk = m + 1 := ⟨gk - 1, by have := HK.out; omega⟩
          have Hv : Aside0 (varint_Put.f (IntKind.u64.wrap (rd l1 i)) = some (vStr (IntKind.u64.wrap (rd l1 i)).toNat)) := ⟨if_pos (u64_range _)⟩
          have Hcat : Aside0 (Lib.byteCells (catS (l1.take i)).data.toList ++ Lib.strCells (vStr (IntKind.u64.wrap (rd l1 i)).toNat) = Lib.byteCells (catS (l1.take (i + 1))).data.toList) := ⟨by
            rw [byteCells_append, List.take_succ_eq_append_getElem hlt, catS_append]
            simp [catS, rd, List.getD_eq_getElem?_getD, hlt]⟩
          have Hlen : Aside0 ((Lib.byteCells (catS (l1.take i)).data.toList).length + (vStr (IntKind.u64.wrap (rd l1 i)).toNat).size ≤ 140737488355328) := ⟨by
            have h1 := catS_size (l1.take i)
            have h2 := vSize_10 (IntKind.u64.wrap (rd l1 i)).toNat (by have := u64_range (rd l1 i); omega)
            have h3 : (Lib.byteCells (catS (l1.take i)).data.toList).length = (catS (l1.take i)).size := by simp [Lib.byteCells]
            have h4 := HL.out
            rw [List.length_take] at h1
            rw [vStr_size, h3]
            omega⟩
          have Hw : Aside0 (wrap64 ((i : Int) + 1) = (i : Int) + 1) := ⟨by have := HL.out; exact wrap64_id (by omega) (by omega)⟩
          have p101 : 0 ≤ (i : Int) := Int.natCast_nonneg i
          have q101 : (i : Int) < (l1.length : Int) := by omega
          obtain ⟨ad101, e101, hx101_0⟩ := Kd.at_int HR1.out i p101 q101
          cases e101
          replace hx101_0 := (HB.out.cell (World.block_lt_of_cell? w _ hx101_0)).trans hx101_0
          rw [Int.toNat_natCast] at hx101_0
          replace p101 := eq_true p101
          replace q101 := eq_true q101
          go_wp2_with (first | (fail))
          refine (varint_Put.calls (IntKind.u64.wrap (rd l1 i)) _ _ Hv.out).mono ?_
          rintro e w8 ⟨rfl, hb⟩
          have n0_ := Aside0.mk (below_step HB.out hb)
          have n1_ := Aside0.mk (isBuilder_below HI.out hb)
          clear HB
          clear HI
          have HB := n0_
          have HI := n1_
          clear n0_ n1_
          clear hb
          go_wp2_with (first | (fail))
          refine (Sh.WriteString w.heap.size w.heap.size _ (vStr (IntKind.u64.wrap (rd l1 i)).toNat) _ HI.out Hlen.out (below_size HB.out)).mono ?_
          rintro e w9 ⟨rfl, hi8, hb⟩
          have n0_ := Aside0.mk (HB.out.trans hb)
          have n1_ := Aside0.mk (show Lib.IsBuilder 123 5 w.heap.size w.heap.size _ w9 from .inr hi8)
          clear HB
          clear HI
          have HB := n0_
          have HI := n1_
          clear n0_ n1_
          clear hb
          clear hi8
          go_wp2_with (first | (fail))
          go_roundg k1
          case measure => have := HK.out; omega
          case rel => exact ⟨i + 1, by rw [Hw.out]; rfl, ⟨by have := HK.out; omega⟩, by omega, ⟨by rw [← Hcat.out]; exact HI.out⟩, HB⟩
        · have hlt' : decide ((i : Int) < (l1.length : Int)) = false := by simpa using hlt
          have Hi : Aside0 (l1.take i = l1) := ⟨List.take_of_length_le (by omega)⟩
          have HI2 : Aside0 (Lib.IsBuilder 123 5 w.heap.size w.heap.size (Lib.byteCells (catS l1).data.toList) wr) := ⟨by have := HI.out; rw [Hi.out] at this; exact this⟩
          go_wp2_with (first | (fail))
          refine (Sh.String w.heap.size w.heap.size _ _ HI2.out (below_size HB.out)).mono ?_
          rintro e w8 ⟨rfl, hb⟩
          have n0_ := Aside0.mk (HB.out.trans hb)
          clear HB
          have HB := n0_
          clear n0_ hb
          go_wp2_with (first | (fail))
          refine (wire_Text_s.calls a0 (catS l1) _ _ Htext.out).mono ?_
          rintro e w9 ⟨rfl, hb⟩
          have n0_ := Aside0.mk (below_step HB.out hb)
          clear HB
          have HB := n0_
          clear n0_ hb
          go_wp2_with (first | (fail))
          go_ret
          exact ⟨by rw [← Hput.out, putS, if_neg Hne.out]; rfl, HB.out⟩
  · rw [if_neg hb] at h; cases h
def wire_Number.f (a0 : Int) (a1 : Int) : Option (ByteArray) := (wire_Field_Bytes_s.f a0 0 a1 (⟨#[]⟩ : ByteArray)).bind fun t101 => (some t101)
set_option maxHeartbeats 8000000 in
set_option maxRecDepth 100000 in
theorem wire_Number.calls (a0 : Int) (a1 : Int) (r : ByteArray) (w : World) (h : wire_Number.f a0 a1 = some r) :
    Calls Tryz.prog 23 #[.int .i64 a0, .int .u64 a1] w fun e w' => e = .returned (.string r) ∧ Below w.heap.size w w' := by
  have hu75 := Tryz.underlying75; have HB := mk0 (Below.refl w.heap.size w); have H : ((wire_Field_Bytes_s.f a0 0 a1 (⟨#[]⟩ : ByteArray)).bind fun t101 => (some t101)) = some r := h; clear h; replace H := bnd H; obtain ⟨t101, A3, H⟩ := H; obtain rfl := Option.some.inj H
  go_enter Tryz.func23, Tryz.ntmps23
  go_wp2_with (first | ((with_reducible refine gate_callee (f := 44) rfl ?_); refine glE (some 8) rfl rfl Tryz.func44 (by kernel_rfl) rfl #[.agg #[.int .i64 a0, .int .i64 0, .int .u64 a1, .string (⟨#[]⟩ : ByteArray)]] rfl ?_; (with_reducible refine (wire_Field_Bytes_s.calls a0 0 a1 (⟨#[]⟩ : ByteArray) t101 _ A3.out).mono ?_); rintro e w4 ⟨rfl, hb⟩; refine ⟨_, rfl, ?_⟩; replace HB := mk0 (below_step (hbA HB) hb); (try clear hb)))
  go_ret
  exact ⟨cl3, hbA HB⟩
def wire_Number_s.f (a0 a1 : Int) : Option ByteArray := wire_Field_Bytes_s.f a0 0 a1 ⟨#[]⟩
theorem wire_Number_s.ev (a0 a1 : Int) (r) (h : wire_Number_s.f a0 a1 = some r) : ∃ k : Nat, wire_Number.f a0 a1 = some r := by
  unfold wire_Number_s.f at h
  exact ⟨0, by unfold wire_Number.f; rw [h]; rfl⟩
set_option maxHeartbeats 1000000 in
theorem wire_Number_s.calls (a0 : Int) (a1 : Int) (r : ByteArray) (w : World) (h : wire_Number_s.f a0 a1 = some r) :
    Calls Tryz.prog 23 #[.int .i64 a0, .int .u64 a1] w fun e w' => e = .returned (.string r) ∧ Below w.heap.size w w' := by
  obtain ⟨k, hk⟩ := wire_Number_s.ev a0 a1 _ h
  exact wire_Number.calls a0 a1 r w hk
def pbnode_putAttr.f (a0_0 : ByteArray) (a0_1 : Bool) (a0_2 : Int) (l0_3 : List Int) : Option (ByteArray) := if a0_1 = true then ((wire_Text_s.f 1 a0_0).bind fun t102 => ((wire_Number_s.f 3 (IntKind.u64.wrap (a0_2))).bind fun t103 => (if t102.size + t103.size ≤ 9223372036854775807 then ((wire_Number_s.f 20 2).bind fun t104 => (if (t102 ++ t103).size + t104.size ≤ 9223372036854775807 then (some ((t102 ++ t103) ++ t104)) else (none))) else (none)))) else ((wire_Text_s.f 1 a0_0).bind fun t105 => ((pack_Put.f 8 l0_3).bind fun t106 => (if t105.size + t106.size ≤ 9223372036854775807 then ((wire_Number_s.f 20 7).bind fun t107 => (if (t105 ++ t106).size + t107.size ≤ 9223372036854775807 then (some ((t105 ++ t106) ++ t107)) else (none))) else (none))))
def pbnode_putAttr.T2 : Bool × List (List Nat × List Nat) := (true, [([], []), ([0], [0]), ([1], [1]), ([], []), ([3], [3]), ([4], [4]), ([5, 2], [5]), ([2, 6], [2, 6]), ([6], []), ([7, 8], [7, 8]), ([9, 8, 0, 1, 2, 3, 4, 5, 6, 7, 8, 9], [9])])
def pbnode_putAttr.B2 : List Nat := [0, 1, 3, 0, 8, 24, 63, 127, 127, 511, 1023]
theorem pbnode_putAttr.tab2 : rtab .any (opsOf Tryz.f22 2) = pbnode_putAttr.T2 := by kernel_rfl
theorem pbnode_putAttr.bits2 : waitsOk pbnode_putAttr.T2.2 pbnode_putAttr.B2 = true := by kernel_rfl
def pbnode_putAttr.T3 : Bool × List (List Nat × List Nat) := (true, [([], []), ([0], [0]), ([1], [1]), ([], []), ([3], [3]), ([4, 2], [4]), ([2, 5], [2, 5]), ([5], []), ([6, 7], [6, 7]), ([8, 7, 0, 1, 2, 3, 4, 5, 6, 7, 8], [8])])
def pbnode_putAttr.B3 : List Nat := [0, 1, 3, 0, 8, 31, 63, 63, 255, 511]
theorem pbnode_putAttr.tab3 : rtab .any (opsOf Tryz.f22 3) = pbnode_putAttr.T3 := by kernel_rfl
theorem pbnode_putAttr.bits3 : waitsOk pbnode_putAttr.T3.2 pbnode_putAttr.B3 = true := by kernel_rfl
set_option maxHeartbeats 8000000 in
set_option maxRecDepth 100000 in
theorem pbnode_putAttr.calls (a0_0 : ByteArray) (a0_1 : Bool) (a0_2 : Int) (A0_3 : Option Addr) (c0_3 : Nat) (l0_3 : List Int) (r : ByteArray) (w : World) (hr0_3 : Kd.C (Kd.int .i64) w A0_3 l0_3.length l0_3) (hc0_3 : l0_3.length ≤ c0_3) (h : pbnode_putAttr.f a0_0 a0_1 a0_2 l0_3 = some r) :
  Calls Tryz.prog 22 #[.agg #[.string a0_0, .bool a0_1, .int .i64 a0_2, .slice A0_3 l0_3.length c0_3]] w fun e w' => e = .returned (.string r) ∧ Below w.heap.size w w' := by
 have hu65 := Tryz.underlying65; have HR0_3 := mk0 hr0_3; have HC0_3 := mk0 hc0_3; clear hr0_3 hc0_3; have HB := mk0 (Below.refl w.heap.size w); have H : (if a0_1 = true then ((wire_Text_s.f 1 a0_0).bind fun t102 => ((wire_Number_s.f 3 (IntKind.u64.wrap (a0_2))).bind fun t103 => (if t102.size + t103.size ≤ 9223372036854775807 then ((wire_Number_s.f 20 2).bind fun t104 => (if (t102 ++ t103).size + t104.size ≤ 9223372036854775807 then (some ((t102 ++ t103) ++ t104)) else (none))) else (none)))) else ((wire_Text_s.f 1 a0_0).bind fun t105 => ((pack_Put.f 8 l0_3).bind fun t106 => (if t105.size + t106.size ≤ 9223372036854775807 then ((wire_Number_s.f 20 7).bind fun t107 => (if (t105 ++ t106).size + t107.size ≤ 9223372036854775807 then (some ((t105 ++ t106) ++ t107)) else (none))) else (none))))) = some r := h; clear h
 by_cases c2 : a0_1 = true
 ·
  subst c2; have H1 : ((wire_Text_s.f 1 a0_0).bind fun t102 => ((wire_Number_s.f 3 (IntKind.u64.wrap (a0_2))).bind fun t103 => (if t102.size + t103.size ≤ 9223372036854775807 then ((wire_Number_s.f 20 2).bind fun t104 => (if (t102 ++ t103).size + t104.size ≤ 9223372036854775807 then (some ((t102 ++ t103) ++ t104)) else (none))) else (none)))) = some r := by rw [if_pos rfl] at H; exact H
  clear H; have H := H1; clear H1; replace H := bnd H; obtain ⟨t102, A3, H⟩ := H; replace H := bnd H; obtain ⟨t103, A4, H⟩ := H; replace H := ifS H; obtain ⟨c5, H⟩ := H; have c5b0 := eq_true c5; have c5b1 := decide_eq_true c5; try have c5b2 := eq_false (Nat.not_lt.2 c5)
  try have c5b3 := c5b2
  try simp only [ByteArray.size_append] at c5b3
  replace H := bnd H; obtain ⟨t104, A6, H⟩ := H; replace H := ifS H; obtain ⟨c7, H⟩ := H; have c7b0 := eq_true c7; have c7b1 := decide_eq_true c7; try have c7b2 := eq_false (Nat.not_lt.2 c7)
  try have c7b3 := c7b2
  try simp only [ByteArray.size_append] at c7b3
  obtain rfl := Option.some.inj H
  go_enter Tryz.func22, Tryz.ntmps22
  try go_wp2_with (first | ((with_reducible refine gate_dst (N := 1) rfl ?_); refine boxE (N := 1) (cs := #[.string a0_0, .bool true, .int .i64 a0_2, .slice A0_3 l0_3.length c0_3]) (t := 65) ?_; intro gb101 hg w8 hbox hb; have BK101 := mk0 hbox; have GW101 := gwS HB hg; have GE101 := gwS HB hg; replace HB := hbS HB hb; clear hb hbox hg; obtain ⟨hcz9_0, hcz9_1, hcz9_2, hcz9_3⟩ := cz4 BK101; have hfz9_3 := blk_frozen BK101.out 3)); replace BK101 := mk0 (blk_drew BK101.out); replace HB := mk0 (below_drew1 HB.out)
  refine start_ (n := 11) (S := fun w' => w'.cell? ⟨gb101, 0, none⟩ = some (.string a0_0) ∧ w'.cell? ⟨gb101, 1, none⟩ = some (.bool true) ∧ w'.cell? ⟨gb101, 2, none⟩ = some (.int .i64 a0_2) ∧ w'.cell? ⟨gb101, 3, none⟩ = some (.slice A0_3 l0_3.length c0_3)) (ds := []) (bA 11 0) (by kernel_rfl) rfl rfl ⟨bcA BK101 0, bcA BK101 1, bcA BK101 2, bcA BK101 3⟩ (fun hHeld => ?_); refine with_tabW pbnode_putAttr.tab2 pbnode_putAttr.bits2 (fun HT_ HW_ => ?_)
  generalize w8.drew = w10 at BK101 HB hHeld ⊢
  refine puE (i := 0) (N := some 5) (bA 11 1) HT_ ?_
  refine puE (i := 3) (N := some 8) (bA 11 9) HT_ ?_
  refine taE (i := 1) (N := some 6) (bA 11 11) HT_ HW_ hHeld ?_
  refine taE (i := 4) (N := some 9) (bA 11 27) HT_ HW_ hHeld ?_
  refine puE (i := 5) (N := some 10) (bA 11 59) HT_ ?_
  refine one_ (i := 2) (N := some 7) (bA 11 63) rfl rfl (one_of HT_.out (by kernel_rfl)) (by decide) (fun K hK => ?_)
  refine goE Tryz.func21 (by kernel_rfl) rfl #[.int .i64 1, .string a0_0] (by rfl) rfl rfl ?_
  with_reducible refine (wire_Text_s.calls 1 a0_0 t102 _ A3.out).mono ?_
  rintro e w11 ⟨rfl, hb⟩
  refine ⟨_, rfl, ?_⟩
  replace BK101 := bkS BK101 hb; replace HB := hbS HB hb; try clear hb
  refine hK.out _ _ ⟨bcA BK101 0, bcA BK101 1, bcA BK101 2, bcA BK101 3⟩ (fun hHeld => ?_)
  clear hK K
  refine noE 7 ?_
  refine one_ (i := 6) (N := some 11) (bA 11 127) rfl rfl (one_of HT_.out (by kernel_rfl)) (by decide) (fun K hK => ?_)
  refine goE Tryz.func23 (by kernel_rfl) rfl #[.int .i64 3, .int .u64 (IntKind.u64.wrap (a0_2))] (by rfl) rfl rfl ?_
  with_reducible refine (wire_Number_s.calls 3 (IntKind.u64.wrap (a0_2)) t103 _ A4.out).mono ?_
  rintro e w12 ⟨rfl, hb⟩
  refine ⟨_, rfl, ?_⟩
  replace BK101 := bkS BK101 hb; replace HB := hbS HB hb; try clear hb
  refine hK.out _ _ ⟨bcA BK101 0, bcA BK101 1, bcA BK101 2, bcA BK101 3⟩ (fun hHeld => ?_)
  clear hK K
  refine noE 11 ?_
  refine puE (i := 7) (N := some 12) (bA 11 255) HT_ ?_
  refine one_ (i := 8) (N := some 13) (bA 11 511) rfl rfl (one_of HT_.out (by kernel_rfl)) (by decide) (fun K hK => ?_)
  refine goE Tryz.func23 (by kernel_rfl) rfl #[.int .i64 20, .int .u64 2] (by rfl) rfl rfl ?_
  with_reducible refine (wire_Number_s.calls 20 2 t104 _ A6.out).mono ?_
  rintro e w13 ⟨rfl, hb⟩
  refine ⟨_, rfl, ?_⟩
  replace BK101 := bkS BK101 hb; replace HB := hbS HB hb; try clear hb
  refine hK.out _ _ ⟨bcA BK101 0, bcA BK101 1, bcA BK101 2, bcA BK101 3⟩ (fun hHeld => ?_)
  clear hK K
  refine noE 13 ?_
  refine puE (i := 9) (N := some 14) (bA 11 1023) HT_ ?_
  refine puE (i := 10) (N := some 2) (bA 11 2047) HT_ ?_
  refine done_ (done_of HT_.out (by kernel_rfl)) ?_
  try go_wp2
  go_ret
  exact ⟨cl3, hbA HB⟩
 ·
  replace c2 := Bool.eq_false_iff.mpr c2; subst c2; have H1 : ((wire_Text_s.f 1 a0_0).bind fun t105 => ((pack_Put.f 8 l0_3).bind fun t106 => (if t105.size + t106.size ≤ 9223372036854775807 then ((wire_Number_s.f 20 7).bind fun t107 => (if (t105 ++ t106).size + t107.size ≤ 9223372036854775807 then (some ((t105 ++ t106) ++ t107)) else (none))) else (none)))) = some r := by rw [if_neg (show ¬ (false = true) by decide)] at H; exact H
  clear H; have H := H1; clear H1; replace H := bnd H; obtain ⟨t105, A14, H⟩ := H; replace H := bnd H; obtain ⟨t106, A15, H⟩ := H; replace H := ifS H; obtain ⟨c16, H⟩ := H; have c16b0 := eq_true c16; have c16b1 := decide_eq_true c16; try have c16b2 := eq_false (Nat.not_lt.2 c16)
  try have c16b3 := c16b2
  try simp only [ByteArray.size_append] at c16b3
  replace H := bnd H; obtain ⟨t107, A17, H⟩ := H; replace H := ifS H; obtain ⟨c18, H⟩ := H; have c18b0 := eq_true c18; have c18b1 := decide_eq_true c18; try have c18b2 := eq_false (Nat.not_lt.2 c18)
  try have c18b3 := c18b2
  try simp only [ByteArray.size_append] at c18b3
  obtain rfl := Option.some.inj H
  go_enter Tryz.func22, Tryz.ntmps22
  try go_wp2_with (first | ((with_reducible refine gate_dst (N := 1) rfl ?_); refine boxE (N := 1) (cs := #[.string a0_0, .bool false, .int .i64 a0_2, .slice A0_3 l0_3.length c0_3]) (t := 65) ?_; intro gb101 hg w19 hbox hb; have BK101 := mk0 hbox; have GW101 := gwS HB hg; have GE101 := gwS HB hg; replace HB := hbS HB hb; clear hb hbox hg; obtain ⟨hcz20_0, hcz20_1, hcz20_2, hcz20_3⟩ := cz4 BK101; have hfz20_3 := blk_frozen BK101.out 3)); replace BK101 := mk0 (blk_drew BK101.out); replace HB := mk0 (below_drew1 HB.out)
  refine start_ (n := 10) (S := fun w' => w'.cell? ⟨gb101, 0, none⟩ = some (.string a0_0) ∧ w'.cell? ⟨gb101, 1, none⟩ = some (.bool false) ∧ w'.cell? ⟨gb101, 2, none⟩ = some (.int .i64 a0_2) ∧ w'.cell? ⟨gb101, 3, none⟩ = some (.slice A0_3 l0_3.length c0_3)) (ds := []) (bA 10 0) (by kernel_rfl) rfl rfl ⟨bcA BK101 0, bcA BK101 1, bcA BK101 2, bcA BK101 3⟩ (fun hHeld => ?_); refine with_tabW pbnode_putAttr.tab3 pbnode_putAttr.bits3 (fun HT_ HW_ => ?_)
  generalize w19.drew = w21 at BK101 HB hHeld ⊢
  refine puE (i := 0) (N := some 15) (bA 10 1) HT_ ?_
  refine puE (i := 3) (N := some 18) (bA 10 9) HT_ ?_
  refine taE (i := 1) (N := some 16) (bA 10 11) HT_ HW_ hHeld ?_
  refine taE (i := 4) (N := some 19) (bA 10 27) HT_ HW_ hHeld ?_
  refine one_ (i := 2) (N := some 17) (bA 10 31) rfl rfl (one_of HT_.out (by kernel_rfl)) (by decide) (fun K hK => ?_)
  refine goE Tryz.func21 (by kernel_rfl) rfl #[.int .i64 1, .string a0_0] (by rfl) rfl rfl ?_
  with_reducible refine (wire_Text_s.calls 1 a0_0 t105 _ A14.out).mono ?_
  rintro e w22 ⟨rfl, hb⟩
  refine ⟨_, rfl, ?_⟩
  replace BK101 := bkS BK101 hb; replace HB := hbS HB hb; try clear hb
  refine hK.out _ _ ⟨bcA BK101 0, bcA BK101 1, bcA BK101 2, bcA BK101 3⟩ (fun hHeld => ?_)
  clear hK K
  refine noE 17 ?_
  refine one_ (i := 5) (N := some 20) (bA 10 63) rfl rfl (one_of HT_.out (by kernel_rfl)) (by decide) (fun K hK => ?_)
  refine goE Tryz.func45 (by kernel_rfl) rfl #[.int .i64 8, .slice A0_3 l0_3.length c0_3] (by rfl) rfl rfl ?_
  with_reducible refine (pack_Put.calls 8 _ _ l0_3 t106 _ ?side1 ?side2 A15.out).mono ?_
  (case side1 => repeat (first | exact (Kd.C_below HR0_3.out HB.out) | (with_reducible refine Kd.C_alloc ?_ _) | (with_reducible refine Kd.C_drewN ?_ _) | (with_reducible refine Kd.C_drew ?_)))
  (case side2 => exact HC0_3.out)
  rintro e w23 ⟨rfl, hb⟩
  refine ⟨_, rfl, ?_⟩
  replace BK101 := bkS BK101 hb; replace HB := hbS HB hb; try clear hb
  refine hK.out _ _ ⟨bcA BK101 0, bcA BK101 1, bcA BK101 2, bcA BK101 3⟩ (fun hHeld => ?_)
  clear hK K
  refine noE 20 ?_
  refine puE (i := 6) (N := some 21) (bA 10 127) HT_ ?_
  refine one_ (i := 7) (N := some 22) (bA 10 255) rfl rfl (one_of HT_.out (by kernel_rfl)) (by decide) (fun K hK => ?_)
  refine goE Tryz.func23 (by kernel_rfl) rfl #[.int .i64 20, .int .u64 7] (by rfl) rfl rfl ?_
  with_reducible refine (wire_Number_s.calls 20 7 t107 _ A17.out).mono ?_
  rintro e w24 ⟨rfl, hb⟩
  refine ⟨_, rfl, ?_⟩
  replace BK101 := bkS BK101 hb; replace HB := hbS HB hb; try clear hb
  refine hK.out _ _ ⟨bcA BK101 0, bcA BK101 1, bcA BK101 2, bcA BK101 3⟩ (fun hHeld => ?_)
  clear hK K
  refine noE 22 ?_
  refine puE (i := 8) (N := some 23) (bA 10 511) HT_ ?_
  refine puE (i := 9) (N := some 2) (bA 10 1023) HT_ ?_
  refine done_ (done_of HT_.out (by kernel_rfl)) ?_
  try go_wp2
  go_ret
  exact ⟨cl3, hbA HB⟩
end Go.Proofs.YthidedmnmdlfkaaGreat.X
namespace Go.Proofs.YthidedmnmdlfkaaGreat.X
open Go.RowKit Go.Proofs.YthidedmnmdlfkaaGreatW.PrintWords Go.Proofs.YthidedmnmdlfkaaGreatW.PrintLast Go.Proofs.YthidedmnmdlfkaaGreatW.PrintMore
attribute [local go_sem] max2_int min2_int max_two min_two max_three min_three max_four min_four
set_option linter.unusedVariables false
set_option linter.unusedSimpArgs false
mutual
def pbnode_PutNode.l0 : Nat → ByteArray → List ByteArray → Int → Int → ByteArray → List ByteArray → ByteArray → List (S65) → Option (ByteArray)
 | 0, _, _, _, _, _, _, _, _ => none
 | k + 1, x3, x9, x10, x11, x102000, x102001, x102002, x102003 => if x11 < x10 then (if 0 ≤ x11 then (if x11 < (x9.length : Int) then ((wire_Text_s.f 1 (rdOf ByteArray.empty x9 x11)).bind fun t103 => (if x3.size + t103.size ≤ 9223372036854775807 then (pbnode_PutNode.l0 k (x3 ++ t103) x9 x10 (wrap64 (x11 + 1)) x102000 x102001 x102002 x102003) else (none))) else (none)) else (none)) else ((wire_Text_s.f 2 x102002).bind fun t104 => ((wire_Text_s.f 4 x102000).bind fun t105 => (if t104.size + t105.size ≤ 9223372036854775807 then (if x3.size + (t104 ++ t105).size ≤ 9223372036854775807 then (pbnode_PutNode.l1 k (x3 ++ (t104 ++ t105)) x102003 (x102003.length : Int) 0) else (none)) else (none))))
def pbnode_PutNode.l1 : Nat → ByteArray → List (S65) → Int → Int → Option (ByteArray)
 | 0, _, _, _, _ => none
 | k + 1, x3, x30, x31, x32 => if x32 < x31 then (if 0 ≤ x32 then (if x32 < (x30.length : Int) then ((pbnode_putAttr.f ((rd_T65 x30 x32).f0) ((rd_T65 x30 x32).f1) ((rd_T65 x30 x32).f2) ((rd_T65 x30 x32).f3)).bind fun t108 => ((wire_Text_s.f 5 t108).bind fun t109 => (if x3.size + t109.size ≤ 9223372036854775807 then (pbnode_PutNode.l1 k (x3 ++ t109) x30 x31 (wrap64 (x32 + 1))) else (none)))) else (none)) else (none)) else (some x3)
end
def pbnode_PutNode.f (k : Nat) (a0_0 : ByteArray) (l0_1 : List ByteArray) (a0_2 : ByteArray) (l0_3 : List (S65)) : Option (ByteArray) := pbnode_PutNode.l0 k (⟨#[]⟩ : ByteArray) l0_1 (l0_1.length : Int) 0 a0_0 l0_1 a0_2 l0_3
def pbnode_PutNode.T7 : Bool × List (List Nat × List Nat) := (true, [([], []), ([], []), ([1], [1]), ([2], [2]), ([], []), ([4], [4]), ([5, 3], [5]), ([3, 6], [3, 6]), ([0, 7], [0, 7]), ([8, 6, 0, 1, 2, 3, 4, 5, 6, 7, 8], [0, 8])])
def pbnode_PutNode.B7 : List Nat := [0, 0, 2, 6, 0, 16, 62, 126, 255, 511]
theorem pbnode_PutNode.tab7 : rtab .any (opsOf Tryz.f8 7) = pbnode_PutNode.T7 := by kernel_rfl
theorem pbnode_PutNode.bits7 : waitsOk pbnode_PutNode.T7.2 pbnode_PutNode.B7 = true := by kernel_rfl
set_option maxHeartbeats 8000000 in
set_option maxRecDepth 100000 in
theorem pbnode_PutNode.calls (k : Nat) (a0_0 : ByteArray) (A0_1 : Option Addr) (c0_1 : Nat) (l0_1 : List ByteArray) (a0_2 : ByteArray) (A0_3 : Option Addr) (c0_3 : Nat) (l0_3 : List (S65)) (r : ByteArray) (w : World) (hr0_1 : Kd.C Kd.string w A0_1 l0_1.length l0_1) (hc0_1 : l0_1.length ≤ c0_1) (hr0_3 : Kd.C k65 w A0_3 l0_3.length l0_3) (hc0_3 : l0_3.length ≤ c0_3) (h : pbnode_PutNode.f k a0_0 l0_1 a0_2 l0_3 = some r) :
  Calls Tryz.prog 8 #[.agg #[.string a0_0, .slice A0_1 l0_1.length c0_1, .string a0_2, .slice A0_3 l0_3.length c0_3]] w fun e w' => e = .returned (.string r) ∧ Below w.heap.size w w' := by
 have hu25 := Tryz.underlying25; have hu65 := Tryz.underlying65; have HR0_1 := mk0 hr0_1; have HC0_1 := mk0 hc0_1; clear hr0_1 hc0_1; have HR0_3 := mk0 hr0_3; have HC0_3 := mk0 hc0_3; clear hr0_3 hc0_3; have HB := mk0 (Below.refl w.heap.size w); have H : (pbnode_PutNode.l0 k (⟨#[]⟩ : ByteArray) l0_1 (l0_1.length : Int) 0 a0_0 l0_1 a0_2 l0_3) = some r := h; clear h; have H' := mk0 H; clear H
 go_enter Tryz.func8, Tryz.ntmps8
 go_wp2_with (first | ((with_reducible refine gate_dst (N := 1) rfl ?_); refine boxE (N := 1) (cs := #[.string a0_0, .slice A0_1 l0_1.length c0_1, .string a0_2, .slice A0_3 l0_3.length c0_3]) (t := 25) ?_; intro gb101 hg w2 hbox hb; have BK101 := mk0 hbox; have GW101 := gwS HB hg; have GE101 := gwS HB hg; replace HB := hbS HB hb; clear hb hbox hg; obtain ⟨hcz3_0, hcz3_1, hcz3_2, hcz3_3⟩ := cz4 BK101; have hfz3_0 := fz BK101 0; have hfz3_1 := fz BK101 1; have hfz3_2 := fz BK101 2; have hfz3_3 := blk_frozen BK101.out 3))
 go_loopg [3, 11] k (fun kq v3 v11 w' => ∃ (x3_1 : ByteArray) (x11_1 : Int), v3 = .string x3_1 ∧ v11 = .int .i64 x11_1 ∧ Aside0 (pbnode_PutNode.l0 kq x3_1 l0_1 (l0_1.length : Int) x11_1 a0_0 l0_1 a0_2 l0_3 = some r) ∧ Aside0 (kq ≤ k) ∧ Aside0 (w'.heap[gb101]? = some (.cells #[.string a0_0, (.slice A0_1 l0_1.length c0_1), .string a0_2, (.slice A0_3 l0_3.length c0_3)] 25 (0, 0))) ∧ Aside0 (Below w.heap.size w w'))
 case atStart => exact ⟨((⟨#[]⟩ : ByteArray)), (0), cl0, cl0, H', ⟨Nat.le_refl _⟩, ⟨bkA BK101⟩, ⟨hbA HB⟩⟩
 case round =>
  clear H'; try clear hcz3_0; try clear hcz3_1; try clear hcz3_2; try clear hcz3_3; try clear hfz3_0; try clear hfz3_1; try clear hfz3_2; try clear hfz3_3
  obtain ⟨x3_1, x11_1, rfl, rfl, HA, HK1, BK101, HB⟩ := hrel
  cases gk with
  | zero => exact absurd HA.out (by simp [pbnode_PutNode.l0])
  | succ k1 =>
   have H := HA.out; clear HA
   simp only [pbnode_PutNode.l0] at H
   by_cases c4 : x11_1 < (l0_1.length : Int)
   ·
    rw [if_pos c4] at H; have c4b0 := decide_eq_true c4; clear c4; replace H := ifS H; obtain ⟨c5, H⟩ := H; have c5b0 := decide_eq_true c5; clear c5
    by_cases c6 : x11_1 < (l0_1.length : Int)
    ·
     rw [if_pos c6] at H; have c6b0 := decide_eq_true c6; clear c6; replace H := bnd H; obtain ⟨t103, A7, H⟩ := H; replace H := ifS H; obtain ⟨c8, H⟩ := H; have c8b0 := eq_true c8; have c8b1 := decide_eq_true c8; try have c8b2 := eq_false (Nat.not_lt.2 c8)
     try have c8b3 := c8b2
     try simp only [ByteArray.size_append] at c8b3
     have H' := mk0 H; clear H; have p102 : 0 ≤ (x11_1 : Int) := ofd; have q102 : x11_1 < (l0_1.length : Int) := ofd; obtain ⟨ad102, e102, hx102_0⟩ := Kd.at_string HR0_1.out x11_1 p102 q102; cases e102; replace hx102_0 := hbc HB hx102_0; replace p102 := eq_true p102; replace q102 := eq_true q102
     go_wp2_with (first | ((with_reducible refine gate_callee (f := 21) rfl ?_); refine glE (some 17) rfl rfl Tryz.func21 (by kernel_rfl) rfl #[.int .i64 1, .string (rdOf ByteArray.empty l0_1 x11_1)] rfl ?_; (with_reducible refine (wire_Text_s.calls 1 (rdOf ByteArray.empty l0_1 x11_1) t103 _ A7.out).mono ?_); rintro e w9 ⟨rfl, hb⟩; refine ⟨_, rfl, ?_⟩; replace BK101 := bkS BK101 hb; replace HB := hbS HB hb; (try clear hb)))
     go_roundg k1
     case measure => have := HK1.out; omega
     case rel => exact ⟨(x3_1 ++ t103), (wrap64 (x11_1 + 1)), cl0, cl0, H', cl2 HK1, ⟨bkA BK101⟩, ⟨hbA HB⟩⟩
    ·
     exact absurd (of_decide_eq_true c4b0) c6
   ·
    rw [if_neg c4] at H; have c4b0 := decide_eq_false c4; clear c4; replace H := bnd H; obtain ⟨t104, A10, H⟩ := H; replace H := bnd H; obtain ⟨t105, A11, H⟩ := H; replace H := ifS H; obtain ⟨c12, H⟩ := H; have c12b0 := eq_true c12; have c12b1 := decide_eq_true c12; try have c12b2 := eq_false (Nat.not_lt.2 c12)
    try have c12b3 := c12b2
    try simp only [ByteArray.size_append] at c12b3
    replace H := ifS H; obtain ⟨c13, H⟩ := H; have c13b0 := eq_true c13; have c13b1 := decide_eq_true c13; try have c13b2 := eq_false (Nat.not_lt.2 c13)
    try have c13b3 := c13b2
    try simp only [ByteArray.size_append] at c13b3
    have H' := mk0 H; clear H
    try go_wp2
    replace BK101 := mk0 (blk_drew BK101.out); replace HB := mk0 (below_drew1 HB.out)
    refine start_ (n := 10) (S := fun w' => w'.cell? ⟨gb101, 0, none⟩ = some (.string a0_0) ∧ w'.cell? ⟨gb101, 1, none⟩ = some (.slice A0_1 l0_1.length c0_1) ∧ w'.cell? ⟨gb101, 2, none⟩ = some (.string a0_2) ∧ w'.cell? ⟨gb101, 3, none⟩ = some (.slice A0_3 l0_3.length c0_3)) (ds := []) (bA 10 0) (by kernel_rfl) rfl rfl ⟨bcA BK101 0, bcA BK101 1, bcA BK101 2, bcA BK101 3⟩ (fun hHeld => ?_); refine with_tabW pbnode_PutNode.tab7 pbnode_PutNode.bits7 (fun HT_ HW_ => ?_)
    generalize wr.drew = w14 at BK101 HB hHeld ⊢
    refine puE (i := 0) (N := some 20) (bA 10 1) HT_ ?_
    refine puE (i := 1) (N := some 21) (bA 10 3) HT_ ?_
    refine puE (i := 4) (N := some 24) (bA 10 19) HT_ ?_
    refine taE (i := 2) (N := some 22) (bA 10 23) HT_ HW_ hHeld ?_
    refine taE (i := 5) (N := some 25) (bA 10 55) HT_ HW_ hHeld ?_
    refine one_ (i := 3) (N := some 23) (bA 10 63) rfl rfl (one_of HT_.out (by kernel_rfl)) (by decide) (fun K hK => ?_)
    refine goE Tryz.func21 (by kernel_rfl) rfl #[.int .i64 2, .string a0_2] (by rfl) rfl rfl ?_
    with_reducible refine (wire_Text_s.calls 2 a0_2 t104 _ A10.out).mono ?_
    rintro e w15 ⟨rfl, hb⟩
    refine ⟨_, rfl, ?_⟩
    replace BK101 := bkS BK101 hb; replace HB := hbS HB hb; try clear hb
    refine hK.out _ _ ⟨bcA BK101 0, bcA BK101 1, bcA BK101 2, bcA BK101 3⟩ (fun hHeld => ?_)
    clear hK K
    refine noE 23 ?_
    refine one_ (i := 6) (N := some 26) (bA 10 127) rfl rfl (one_of HT_.out (by kernel_rfl)) (by decide) (fun K hK => ?_)
    refine goE Tryz.func21 (by kernel_rfl) rfl #[.int .i64 4, .string a0_0] (by rfl) rfl rfl ?_
    with_reducible refine (wire_Text_s.calls 4 a0_0 t105 _ A11.out).mono ?_
    rintro e w16 ⟨rfl, hb⟩
    refine ⟨_, rfl, ?_⟩
    replace BK101 := bkS BK101 hb; replace HB := hbS HB hb; try clear hb
    refine hK.out _ _ ⟨bcA BK101 0, bcA BK101 1, bcA BK101 2, bcA BK101 3⟩ (fun hHeld => ?_)
    clear hK K
    refine noE 26 ?_
    refine puE (i := 7) (N := some 27) (bA 10 255) HT_ ?_
    refine puE (i := 8) (N := some 28) (bA 10 511) HT_ ?_
    refine puE (i := 9) (N := some 3) (bA 10 1023) HT_ ?_
    refine done_ (done_of HT_.out (by kernel_rfl)) ?_
    obtain ⟨hcz17_0, hcz17_1, hcz17_2, hcz17_3⟩ := cz4 BK101; have hfz17_0 := fz BK101 0; have hfz17_1 := fz BK101 1; have hfz17_2 := fz BK101 2; have hfz17_3 := fz BK101 3
    try go_wp2
    go_loopg [3, 32] k1 (fun kq v3 v32 w' => ∃ (x3_2 : ByteArray) (x32_2 : Int), v3 = .string x3_2 ∧ v32 = .int .i64 x32_2 ∧ Aside0 (pbnode_PutNode.l1 kq x3_2 l0_3 (l0_3.length : Int) x32_2 = some r) ∧ Aside0 (kq ≤ k1) ∧ Aside0 (w'.heap[gb101]? = some (.cells #[.string a0_0, (.slice A0_1 l0_1.length c0_1), .string a0_2, (.slice A0_3 l0_3.length c0_3)] 25 (0, 0))) ∧ Aside0 (Below w.heap.size w w'))
    case atStart => exact ⟨(x3_1 ++ (t104 ++ t105)), (0), cl0, cl0, H', ⟨Nat.le_refl _⟩, ⟨bkA BK101⟩, ⟨hbA HB⟩⟩
    case round =>
     clear H'; obtain ⟨x3_2, x32_2, rfl, rfl, HA, HK2, BK101, HB⟩ := hrel
     cases gk with
     | zero => exact absurd HA.out (by simp [pbnode_PutNode.l1])
     | succ k2 =>
      have H := HA.out; clear HA
      simp only [pbnode_PutNode.l1] at H
      by_cases c18 : x32_2 < (l0_3.length : Int)
      ·
       rw [if_pos c18] at H; have c18b0 := decide_eq_true c18; clear c18; replace H := ifS H; obtain ⟨c19, H⟩ := H; have c19b0 := decide_eq_true c19; clear c19
       by_cases c20 : x32_2 < (l0_3.length : Int)
       ·
        rw [if_pos c20] at H; have c20b0 := decide_eq_true c20; clear c20; replace H := bnd H; obtain ⟨t108, A21, H⟩ := H; replace H := bnd H; obtain ⟨t109, A22, H⟩ := H; replace H := ifS H; obtain ⟨c23, H⟩ := H; have c23b0 := eq_true c23; have c23b1 := decide_eq_true c23; try have c23b2 := eq_false (Nat.not_lt.2 c23)
        try have c23b3 := c23b2
        try simp only [ByteArray.size_append] at c23b3
        have H' := mk0 H; clear H; have p106 : 0 ≤ (x32_2 : Int) := ofd; have q106 : x32_2 < (l0_3.length : Int) := ofd; obtain ⟨ad106, A106_3, c106_3, e106, hx106_0, hx106_1, hx106_2, hx106_3, hl106_3, hi106_3⟩ := at_T65 HR0_3.out x32_2 p106 q106; cases e106; replace hx106_0 := hbc HB hx106_0; replace hx106_1 := hbc HB hx106_1; replace hx106_2 := hbc HB hx106_2; replace hx106_3 := hbc HB hx106_3; have HR106_3 := mk0 hi106_3; have HC106_3 := mk0 hl106_3; clear hi106_3 hl106_3; replace p106 := eq_true p106; replace q106 := eq_true q106
        go_wp2_with (first | ((with_reducible refine gate_dst (N := 7) rfl ?_); refine boxE (N := 7) (cs := #[.string (⟨#[]⟩ : ByteArray), .bool false, .int .i64 0, .slice none 0 0]) (t := 65) ?_; intro gb107 hg w24 hbox hb; have BK107 := mk0 hbox; have GW107 := gwS HB hg; have GE107 := gwS HB hg; replace HB := hbS HB hb; have NB101_107 := neS BK101 hg; have NB107_101 := neT BK101 hg; replace BK101 := bkS BK101 hb; clear hb hbox hg; have hnb25 := NB107_101.out; have hnc25 := NB101_107.out; obtain ⟨hcz26_0, hcz26_1, hcz26_2, hcz26_3⟩ := cz4 BK107; have hfz26_0 := fz BK107 0; have hfz26_1 := fz BK107 1; have hfz26_2 := fz BK107 2; have hfz26_3 := fz BK107 3) | ((with_reducible refine gate_callee (f := 22) rfl ?_); refine glE (some 38) rfl rfl Tryz.func22 (by kernel_rfl) rfl #[.agg #[.string ((rd_T65 l0_3 x32_2).f0), .bool ((rd_T65 l0_3 x32_2).f1), .int .i64 ((rd_T65 l0_3 x32_2).f2), .slice A106_3 ((rd_T65 l0_3 x32_2).f3).length c106_3]] rfl ?_; (with_reducible refine (pbnode_putAttr.calls ((rd_T65 l0_3 x32_2).f0) ((rd_T65 l0_3 x32_2).f1) ((rd_T65 l0_3 x32_2).f2) _ _ ((rd_T65 l0_3 x32_2).f3) t108 _ ?side1 ?side2 A21.out).mono ?_); (case side1 => exact Kd.C_below HR106_3.out (hbA HB)); (case side2 => exact HC106_3.out); rintro e w27 ⟨rfl, hb⟩; refine ⟨_, rfl, ?_⟩; replace BK101 := mk0 (blk_below (g := gb101) (o := .cells #[.string a0_0, .slice A0_1 l0_1.length c0_1, .string a0_2, .slice (some ad106) l0_3.length c0_3] 25 (0, 0)) (bkW BK101) hb); replace BK107 := mk0 (blk_below (g := gb107) (o := .cells #[.string ((rd_T65 l0_3 x32_2).f0), .bool ((rd_T65 l0_3 x32_2).f1), .int .i64 ((rd_T65 l0_3 x32_2).f2), .slice A106_3 ((rd_T65 l0_3 x32_2).f3).length c106_3] 65 (0, 0)) (bkW BK107) hb); replace HB := hbS HB hb; (try clear hb)) | ((with_reducible refine gate_callee (f := 21) rfl ?_); refine glE (some 39) rfl rfl Tryz.func21 (by kernel_rfl) rfl #[.int .i64 5, .string t108] rfl ?_; (with_reducible refine (wire_Text_s.calls 5 t108 t109 _ A22.out).mono ?_); rintro e w28 ⟨rfl, hb⟩; refine ⟨_, rfl, ?_⟩; replace BK101 := bkS BK101 hb; replace BK107 := bkS BK107 hb; replace HB := hbS HB hb; (try clear hb)))
        go_roundg k2
        case measure => have := HK1.out; have := HK2.out; omega
        case rel => exact ⟨(x3_2 ++ t109), (wrap64 (x32_2 + 1)), cl0, cl0, H', ⟨by have := HK1.out; have := HK2.out; omega⟩, ⟨bkA BK101⟩, ⟨hbA HB⟩⟩
       ·
        exact absurd (of_decide_eq_true c18b0) c20
      ·
       rw [if_neg c18] at H; have c18b0 := decide_eq_false c18; clear c18; obtain rfl := Option.some.inj H
       go_wp2
       go_ret
       exact ⟨cl3, hbA HB⟩
end Go.Proofs.YthidedmnmdlfkaaGreat.X
namespace Go.Proofs.YthidedmnmdlfkaaGreat.X
open Go.RowKit Go.Proofs.YthidedmnmdlfkaaGreatW.PrintWords Go.Proofs.YthidedmnmdlfkaaGreatW.PrintLast Go.Proofs.YthidedmnmdlfkaaGreatW.PrintMore
attribute [local go_sem] max2_int min2_int max_two min_two max_three min_three max_four min_four
set_option linter.unusedVariables false
set_option linter.unusedSimpArgs false
def varint_Read.f (a0 : ByteArray) : Option (Int × Int × Int) := some ((vRead a0).1, (vRead a0).2.1, (vRead a0).2.2)
structure varint_Read.J (s : ByteArray) (r : Nat × Nat × Nat) (w : World) (n v : Nat) (w' : World) : Prop where
  n9 : n ≤ 9
  nle : n ≤ s.size
  vlt : v < 128 ^ n
  eq : readS ((ns s).drop n) n v = r
  dr : Drawn0 w w'
def varint_Read.Rel (s : ByteArray) (w : World) (a' : Act) (w' : World) : Prop := ∃ (n v : Nat) (u7 u8 u9 u10 u11 u12 u13 u14 u15 u16 u17 u18 u19 u20 u21 u22 u23 u24 u25 u26 u27 u28 u29 u30 u31 u32 u33 u34 : Value),
    a' = { tmps := #[.string s, undef, .int .u64 0, .int .i64 0, .int .i64 0, .int .u64 v, .int .i64 n, u7, u8, u9, u10, u11, u12, u13, u14, u15, u16, u17, u18, u19, u20, u21, u22, u23, u24, u25, u26, u27, u28, u29, u30, u31, u32, u33, u34], defers := [] } ∧ varint_Read.J s (vRead s) w n v w'
set_option maxHeartbeats 8000000 in
set_option maxRecDepth 100000 in
theorem varint_Read.calls (a0 : ByteArray) (r1 r2 r3 : Int) (w : World) (h : varint_Read.f a0 = some (r1, r2, r3)) :
    Calls Tryz.prog 71 #[.string a0] w fun e w' => e = .returned (.tuple #[.int .u64 r1, .int .i64 r2, .int .i64 r3]) ∧ Drawn0 w w' := by
  have HE : Aside0 (((vRead a0).1 : Int) = r1 ∧ ((vRead a0).2.1 : Int) = r2 ∧ ((vRead a0).2.2 : Int) = r3) := by
    unfold varint_Read.f at h
    simp only [Option.some.injEq, Prod.mk.injEq] at h
    exact ⟨h⟩
  clear h
  go_enter Tryz.func71, Tryz.ntmps71
  go_wp2
  refine wp_scope_pre 0 (varint_Read.Rel a0 w) (fun a' _ => match a'.tmps.getD 6 undef with | .int _ q => 10 - q.toNat | _ => 0) rfl ?_ ?_
  · intro K hK
    have HK := Aside0.mk hK
    clear hK
    go_wp2
    refine HK.out _ _ ⟨0, 0, _, _, _, _, _, _, _, _, _, _, _, _, _, _, _, _, _, _, _, _, _, _, _, _, _, _, _, _, rfl, ⟨by omega, by omega, by decide, rfl, Drawn0.refl _⟩⟩
  rintro a' w' ⟨n, v, u7, u8, u9, u10, u11, u12, u13, u14, u15, u16, u17, u18, u19, u20, u21, u22, u23, u24, u25, u26, u27, u28, u29, u30, u31, u32, u33, u34, rfl, hJ⟩
  have hn9 := hJ.n9
  have hdr := hJ.dr
  have HJ : Aside0 (varint_Read.J a0 (vRead a0) w n v w') := ⟨hJ⟩
  have HV : Aside0 (v < 128 ^ n ∧ readS ((ns a0).drop n) n v = vRead a0) := ⟨hJ.vlt, hJ.eq⟩
  have hnle := hJ.nle
  clear hJ
  rcases Nat.lt_or_ge n a0.size with hlt | hge
  · have hb0 : ((n : Int) == (a0.size : Int)) = false := by simp; omega
    have h7 : 0 ≤ 7 * (n : Int) := by omega
    have hw7 : wrap64 (7 * (n : Int)) = 7 * (n : Int) := by unfold wrap64; omega
    have HR : Aside0 (readS ((ns a0).drop n) n v = vRead a0) := ⟨HV.out.2⟩
    have hcons := ns_drop a0 n hlt
    have HR : Aside0 (readS (a0[n].toNat :: (ns a0).drop (n + 1)) n v = vRead a0) := ⟨hcons ▸ HV.out.2⟩
    clear hcons
    by_cases h9 : n = 9 ∧ 1 < a0[n].toNat
    · obtain ⟨h9, hc⟩ := h9
      have hb9 : ((n : Int) == 9) = true := by simp; omega
      have HQ : Aside0 (vRead a0 = (0, 0, 2)) := ⟨by rw [← HR.out, readS, if_pos ⟨h9, hc⟩]⟩
      have hc' : decide ((1 : Int) < (a0[n].toNat : Int)) = true := by simp; omega
      clear h9 hc
      go_wp2
      simp only [Exit.jump]
      go_ret3
      obtain ⟨e1, e2, e3⟩ := HE.out
      rw [HQ.out] at e1 e2 e3
      subst e1 e2 e3
      exact ⟨rfl, hdr⟩
    · have HO := Aside0.mk (or_step v a0[n].toNat n HV.out.1 hn9 (by omega))
      have HS : Aside0 ((if a0[n].toNat < 128 then (v + a0[n].toNat * 128 ^ n, n + 1, 0) else readS ((ns a0).drop (n + 1)) (n + 1) (v + (a0[n].toNat % 128) * 128 ^ n)) = vRead a0) := ⟨by rw [← readS_cons (by omega)]; exact HR.out⟩
      have hc9 : ((n : Int) == 9) = true → decide ((1 : Int) < (a0[n].toNat : Int)) = false := by simp; omega
      have HVB : Aside0 (a0[n].toNat ≥ 128 → n < 9 ∧ v + a0[n].toNat % 128 * 128 ^ n < 128 ^ (n + 1)) := ⟨fun hge => by
        have := HV.out.1
        refine ⟨by omega, ?_⟩
        have h1 : a0[n].toNat % 128 * 128 ^ n ≤ 127 * 128 ^ n := Nat.mul_le_mul_right _ (by omega)
        rw [Nat.pow_succ]; omega⟩
      have Hc9 := Aside0.mk hc9
      clear h9 hc9
      by_cases hcl : a0[n].toNat < 128
      · have hcl' : decide ((128 : Int) ≤ (a0[n].toNat : Int)) = false := by simp; omega
        have HQ : Aside0 (vRead a0 = (v + a0[n].toNat * 128 ^ n, n + 1, 0)) := ⟨by rw [← HS.out, if_pos hcl]⟩
        have HM : Aside0 (a0[n].toNat % 128 = a0[n].toNat) := ⟨Nat.mod_eq_of_lt hcl⟩
        clear hcl
        cases hb9 : ((n : Int) == 9)
        · go_wp2
          simp only [Exit.jump]
          go_ret3
          refine ⟨?_, hdr⟩
          obtain ⟨e1, e2, e3⟩ := HE.out
          rw [HQ.out] at e1 e2 e3
          subst e1 e2 e3
          have := HO.out
          rw [HM.out] at this
          rw [this]
          rfl
        · have hc9 := Hc9.out hb9
          go_wp2
          simp only [Exit.jump]
          go_ret3
          refine ⟨?_, hdr⟩
          obtain ⟨e1, e2, e3⟩ := HE.out
          rw [HQ.out] at e1 e2 e3
          subst e1 e2 e3
          have := HO.out
          rw [HM.out] at this
          rw [this]
          rfl
      · have hcl' : decide ((128 : Int) ≤ (a0[n].toNat : Int)) = true := by simp; omega
        have hb9 : ((n : Int) == 9) = false := by have := (HVB.out (by omega)).1; simp; omega
        have HN : Aside0 (n < 9 ∧ v + a0[n].toNat % 128 * 128 ^ n < 128 ^ (n + 1)) := ⟨HVB.out (by omega)⟩
        have HT : Aside0 (readS ((ns a0).drop (n + 1)) (n + 1) (v + (a0[n].toNat % 128) * 128 ^ n) = vRead a0) := ⟨by rw [← HS.out, if_neg hcl]⟩
        clear hcl
        go_wp2
        go_step3
        rw [HO.out]
        refine ⟨rfl, ⟨n + 1, _, _, _, _, _, _, _, _, _, _, _, _, _, _, _, _, _, _, _, _, _, _, _, _, _, _, _, _, _, by rfl, ⟨by have := HN.out.1; omega, by omega, HN.out.2, HT.out, hdr⟩⟩, ?_⟩
        have := HN.out.1
        simp
        omega
  · have hb0 : ((n : Int) == (a0.size : Int)) = true := by simp; omega
    have HQ : Aside0 (vRead a0 = (0, 0, 1)) := ⟨by rw [← HV.out.2, ns_drop_end _ _ hge, readS]⟩
    go_wp2
    simp only [Exit.jump]
    go_ret3
    obtain ⟨e1, e2, e3⟩ := HE.out
    rw [HQ.out] at e1 e2 e3
    subst e1 e2 e3
    exact ⟨rfl, hdr⟩
end Go.Proofs.YthidedmnmdlfkaaGreat.X
