import Derived.Test.YtohddbiedabmhaaMPackBack0
import Derived.Test.YtohddbiedabmhaaMPackBack2
import Derived.Test.YtohddbiedabmhaaMPackBack1
import Derived.Shelf.Strings.Builder1
-- by xprint.py, a program of this session, over the kit's print.py
namespace Go.Proofs.Ytohddbiedabmhaa.X
open Go.RowKit Go.Proofs.YtohddbiedabmhaaW.PrintWords Go.Proofs.YtohddbiedabmhaaW.PrintLast Go.Proofs.YtohddbiedabmhaaW.PrintMore
attribute [local go_sem] max2_int min2_int max_two min_two max_three min_three max_four min_four   -- for this text's walks alone
set_option linter.unusedVariables false
set_option linter.unusedSimpArgs false

def wire_Field_Bytes_s.f (a0 a1 a2 : Int) (a3 : ByteArray) : Option ByteArray :=
  if -9223372036854775808 ≤ a0 ∧ a0 < 9223372036854775808 ∧ -9223372036854775808 ≤ a1 ∧ a1 < 9223372036854775808 ∧ 0 ≤ a2 ∧ a2 < 18446744073709551616 ∧ a3.size ≤ 140737488351232 then some (bytesS a0 a1 a2 a3) else none
theorem tag_or (num ty : Int) (h0 : 1 ≤ num) (h1 : num ≤ 536870911) (h2 : 0 ≤ ty) (h3 : ty < 8) :
    Go.bits .or .u64 (IntKind.u64.wrap (IntKind.u64.wrap num * 8)) (IntKind.u64.wrap ty) = 8 * num + ty := by
  obtain ⟨n, rfl⟩ := Int.eq_ofNat_of_zero_le (show 0 ≤ num by omega)
  obtain ⟨t, rfl⟩ := Int.eq_ofNat_of_zero_le h2
  rw [u64_id (x := (n : Int)) (by omega) (by omega), u64_id (x := (t : Int)) (by omega) (by omega), u64_id (by omega) (by omega)]
  have e : ((n : Int) * 8) = ((2 ^ 3 * n : Nat) : Int) := by omega
  rw [e, u64_or_nat _ _ (by omega) (by omega), ← Nat.two_pow_add_eq_or_of_lt (by omega)]
  omega
theorem wire_may_eval (a b : Int) (h0 : 0 ≤ a) (h1 : 0 ≤ b) : wire_may.f a b = some (decide (1 ≤ a ∧ a ≤ 536870911 ∧ (b = 0 ∨ b = 1 ∨ b = 2 ∨ b = 5))) := by
  unfold wire_may.f
  by_cases g1 : a ≥ 1
  · by_cases g2 : a ≤ 536870911
    · rw [if_pos g1, if_pos g2]
      by_cases g3 : b = 0
      · simp [g1, g2, g3]
      · by_cases g4 : b = 1
        · simp [g1, g2, g4]
        · by_cases g5 : b = 2
          · simp [g1, g2, g5]
          · simp [g1, g2, g3, g4, g5]
            rw [Bool.eq_iff_iff]; simp
    · rw [if_pos g1, if_neg g2]; simp [g2]
  · rw [if_neg g1]; simp; omega
theorem wire_Field_Bytes_s.ev (a0 a1 a2 : Int) (a3 : ByteArray) (r) (h : wire_Field_Bytes_s.f a0 a1 a2 a3 = some r) : ∃ k, wire_Field_Bytes.f k a0 a1 a2 a3 = some r := by
  unfold wire_Field_Bytes_s.f at h
  split at h
  · rename_i hr
    obtain ⟨p0, p1, p2, p3, p4, p5, p6⟩ := hr
    rw [← h]
    refine ⟨1, ?_⟩
    unfold wire_Field_Bytes.f bytesS
    by_cases hm : 1 ≤ a0 ∧ a0 ≤ 536870911 ∧ (a1 = 0 ∨ a1 = 1 ∨ a1 = 2 ∨ a1 = 5)
    · have hm1 := hm
      obtain ⟨m0, m1, m2⟩ := hm1
      rw [if_neg (by omega), if_neg (by omega), u64_id (x := a0) (by omega) (by omega), u64_id (x := a1) (by omega) (by omega), wire_may_eval _ _ (by omega) (by omega), decide_eq_true hm, Option.bind_some, if_pos hm]
      simp only [wire_Field_Bytes.j0]
      have ep : ∀ x : Int, 0 ≤ x → x < 18446744073709551616 → varint_Put.f x = some (vStr x.toNat) := fun x g0 g1 => if_pos ⟨g0, g1⟩
      have hs : ∀ x : Int, 0 ≤ x → x < 18446744073709551616 → (vStr x.toNat).size ≤ 10 := fun x g0 g1 => by rw [vStr_size]; exact vSize_10 _ (by omega)
      have hs1 := hs (8 * a0 + a1) (by omega) (by omega)
      rw [if_neg (by decide), tag_or a0 a1 m0 m1 (by omega) (by omega), ep _ (by omega) (by omega), Option.bind_some]
      rcases m2 with rfl | rfl | rfl | rfl
      · have hs2 := hs a2 p4 p5
        rw [if_pos rfl, if_pos rfl, ep _ p4 p5, Option.bind_some, if_pos (by omega)]
      · rw [if_neg (by decide), if_neg (by decide), if_pos rfl, if_neg (by decide), if_neg (by decide), if_pos rfl]
        have el : wire_laid_s.f a2 8 = some (laidStr a2.toNat 8) := if_pos ⟨p4, p5, by decide, by decide⟩
        rw [el, Option.bind_some, if_pos (by rw [laidStr_size]; omega)]
      · have hs2 := hs (a3.size : Int) (by omega) (by omega)
        rw [Int.toNat_natCast] at hs2
        rw [if_neg (by decide), if_pos rfl, if_neg (by decide), if_pos rfl, u64_id (by omega) (by omega), ep _ (by omega) (by omega), Option.bind_some, Int.toNat_natCast, if_pos (by omega), if_pos (by rw [ByteArray.size_append]; omega)]
      · rw [if_neg (show ¬ (5 : Int) = 0 by decide), if_neg (show ¬ (5 : Int) = 2 by decide), if_neg (show ¬ (5 : Int) = 1 by decide), if_neg (show ¬ (5 : Int) = 0 by decide), if_neg (show ¬ (5 : Int) = 2 by decide), if_neg (show ¬ (5 : Int) = 1 by decide)]
        by_cases hg : a2 > 4294967295
        · rw [if_pos hg, if_pos hg]
        · rw [if_neg hg, if_neg hg]
          have el : wire_laid_s.f a2 4 = some (laidStr a2.toNat 4) := if_pos ⟨p4, p5, by decide, by decide⟩
          rw [el, Option.bind_some, if_pos (by rw [laidStr_size]; omega)]
    · rw [if_neg hm]
      by_cases n0 : a0 < 0
      · rw [if_pos n0]; rfl
      · by_cases n1 : a1 < 0
        · rw [if_neg n0, if_pos n1]; rfl
        · rw [if_neg n0, if_neg n1, u64_id (x := a0) (by omega) (by omega), u64_id (x := a1) (by omega) (by omega), wire_may_eval _ _ (by omega) (by omega), decide_eq_false hm]; rfl
  · cases h

set_option maxHeartbeats 1000000 in
theorem wire_Field_Bytes_s.calls (a0_0 : Int) (a0_1 : Int) (a0_2 : Int) (a0_3 : ByteArray) (r : ByteArray) (w : World) (h : wire_Field_Bytes_s.f a0_0 a0_1 a0_2 a0_3 = some r) :
    Calls Try.prog 29 #[.agg #[.int .i64 a0_0, .int .i64 a0_1, .int .u64 a0_2, .string a0_3]] w fun e w' => e = .returned (.string r) ∧ Below w.heap.size w w' := by
  obtain ⟨k, hk⟩ := wire_Field_Bytes_s.ev a0_0 a0_1 a0_2 a0_3 _ h
  exact wire_Field_Bytes.calls k a0_0 a0_1 a0_2 a0_3 r w hk

end Go.Proofs.Ytohddbiedabmhaa.X
-- by xprint.py, a program of this session, over the kit's print.py
namespace Go.Proofs.Ytohddbiedabmhaa.X
open Go.RowKit Go.Proofs.YtohddbiedabmhaaW.PrintWords Go.Proofs.YtohddbiedabmhaaW.PrintLast Go.Proofs.YtohddbiedabmhaaW.PrintMore
attribute [local go_sem] max2_int min2_int max_two min_two max_three min_three max_four min_four   -- for this text's walks alone
set_option linter.unusedVariables false
set_option linter.unusedSimpArgs false

/-! ### wire_Text: function 27 -/
def wire_Text.f (a0 : Int) (a1 : ByteArray) : Option (ByteArray) := (wire_Field_Bytes_s.f a0 2 0 a1).bind fun t101 => (some t101)
set_option maxHeartbeats 8000000 in
set_option maxRecDepth 100000 in
theorem wire_Text.calls (a0 : Int) (a1 : ByteArray) (r : ByteArray) (w : World) (h : wire_Text.f a0 a1 = some r) :
    Calls Try.prog 27 #[.int .i64 a0, .string a1] w fun e w' => e = .returned (.string r) ∧ Below w.heap.size w w' := by
  have hu47 := Try.underlying47
  have HB := Aside0.mk (Below.refl w.heap.size w)
  have H : ((wire_Field_Bytes_s.f a0 2 0 a1).bind fun t101 => (some t101)) = some r := h
  clear h
  replace H := Option.bind_eq_some_iff.mp H
  obtain ⟨t101, A30, H⟩ := H
  replace H : (some t101) = some r := H
  have A3 := Aside0.mk A30
  clear A30
  obtain rfl := Option.some.inj H
  go_enter Try.func27, Try.ntmps27
  go_wp2_with (first | ((with_reducible refine gate_callee (f := 29) rfl ?_); refine goesL_ (some 8) rfl rfl Try.func29 (by kernel_rfl) rfl #[.agg #[.int .i64 a0, .int .i64 2, .int .u64 0, .string a1]] rfl (by (try simp only [List.map_toArray, List.map_cons, List.map_nil]); first | done | rfl | (simp only [List.length_drop, List.length_take]; rfl)) ?_; (with_reducible refine (wire_Field_Bytes_s.calls a0 2 0 a1 t101 _ A3.out).mono ?_); rintro e w4 ⟨rfl, hb⟩; refine ⟨_, rfl, ?_⟩; have n0_ := Aside0.mk (below_step (by repeat (first | (with_reducible first | exact HB.out | apply below_alloc | apply pw_below_drewN | apply below_drew1) | exact HB.out)) hb); clear HB; have HB := n0_; clear n0_; (try clear hb); (try clear hb2); (try clear hk); (try clear hi)))
  go_ret
  exact ⟨by first | rfl | (simp [errW_none, errW_some] <;> rfl) | (simp [*, errW_none, errW_some] <;> rfl), by repeat (first | (with_reducible first | exact HB.out | apply below_alloc | apply pw_below_drewN | apply below_drew1) | exact HB.out)⟩

end Go.Proofs.Ytohddbiedabmhaa.X
-- by xprint.py, a program of this session, over the kit's print.py
namespace Go.Proofs.Ytohddbiedabmhaa.X
open Go.RowKit Go.Proofs.YtohddbiedabmhaaW.PrintWords Go.Proofs.YtohddbiedabmhaaW.PrintLast Go.Proofs.YtohddbiedabmhaaW.PrintMore
attribute [local go_sem] max2_int min2_int max_two min_two max_three min_three max_four min_four   -- for this text's walks alone
set_option linter.unusedVariables false
set_option linter.unusedSimpArgs false

def wire_Text_s.f (a0 : Int) (a1 : ByteArray) : Option ByteArray := wire_Field_Bytes_s.f a0 2 0 a1
theorem wire_Text_s.ev (a0 : Int) (a1 : ByteArray) (r) (h : wire_Text_s.f a0 a1 = some r) : ∃ k : Nat, wire_Text.f a0 a1 = some r := by
  unfold wire_Text_s.f at h
  exact ⟨0, by unfold wire_Text.f; rw [h]; rfl⟩

set_option maxHeartbeats 1000000 in
theorem wire_Text_s.calls (a0 : Int) (a1 : ByteArray) (r : ByteArray) (w : World) (h : wire_Text_s.f a0 a1 = some r) :
    Calls Try.prog 27 #[.int .i64 a0, .string a1] w fun e w' => e = .returned (.string r) ∧ Below w.heap.size w w' := by
  obtain ⟨k, hk⟩ := wire_Text_s.ev a0 a1 _ h
  exact wire_Text.calls a0 a1 r w hk

end Go.Proofs.Ytohddbiedabmhaa.X
-- by xprint.py, a program of this session, over the kit's print.py
namespace Go.Proofs.Ytohddbiedabmhaa.X
open Go.RowKit Go.Proofs.YtohddbiedabmhaaW.PrintWords Go.Proofs.YtohddbiedabmhaaW.PrintLast Go.Proofs.YtohddbiedabmhaaW.PrintMore
attribute [local go_sem] max2_int min2_int max_two min_two max_three min_three max_four min_four   -- for this text's walks alone
set_option linter.unusedVariables false
set_option linter.unusedSimpArgs false

/-! Rows of numbers in fields: plain Lean -/
def packedF : Nat → List Int → ByteArray → List Int × Nat
  | 0, out, _ => (out, 0)
  | k + 1, out, b => if b.size = 0 then (out, 0) else if (vRead b).2.2 ≠ 0 then ([], (vRead b).2.2) else if 65536 ≤ out.length then ([], 7)
    else packedF k (out ++ [wrap64 (vRead b).1]) (b.extract (vRead b).2.1 b.size)
def intsL : List Fl → List Int → List Int × Nat
  | [], out => (out, 0)
  | f :: l, out => if f.2.1 = 0 then (if 65536 ≤ out.length then ([], 7) else intsL l (out ++ [wrap64 f.2.2.1]))
    else if f.2.1 = 2 then (if (packedF f.2.2.2.size out f.2.2.2).2 ≠ 0 then ([], (packedF f.2.2.2.size out f.2.2.2).2) else intsL l (packedF f.2.2.2.size out f.2.2.2).1)
    else ([], 3)
def textsL : List Fl → List ByteArray → List ByteArray × Nat
  | [], out => (out, 0)
  | f :: l, out => if f.2.1 = 2 then textsL l (out ++ [f.2.2.2]) else ([], 3)
def catS : List Int → ByteArray
  | [] => ⟨#[]⟩
  | n :: l => vStr (IntKind.u64.wrap n).toNat ++ catS l
def putS (num : Int) (l : List Int) : ByteArray := if l = [] then ⟨#[]⟩ else bytesS num 2 0 (catS l)
theorem packedF_len (k : Nat) : ∀ (out : List Int) (b : ByteArray), out.length ≤ 65536 → (packedF k out b).1.length ≤ 65536 := by
  induction k with
  | zero => intro out b h; exact h
  | succ k ih =>
    intro out b h
    rw [packedF]
    split
    · exact h
    · split
      · simp
      · split
        · simp
        · exact ih _ _ (by simp; omega)
theorem u64_range (n : Int) : 0 ≤ IntKind.u64.wrap n ∧ IntKind.u64.wrap n < 18446744073709551616 := by rw [u64_wrap]; omega
theorem catS_size (l : List Int) : (catS l).size ≤ 10 * l.length := by
  induction l with
  | nil => exact Nat.le_refl _
  | cons n l ih =>
    have h := u64_range n
    have := vSize_10 (IntKind.u64.wrap n).toNat (by omega)
    rw [catS, ByteArray.size_append, vStr_size, List.length_cons]
    omega
theorem catS_append (a b : List Int) : catS (a ++ b) = catS a ++ catS b := by
  induction a with
  | nil => apply ns_inj; simp [catS, ns_append, ns]
  | cons n a ih => rw [List.cons_append, catS, ih, catS, ByteArray.append_assoc]
theorem filter_eq_map {α β : Type} (f : α → β) (p : β → Bool) (l : List α) : (l.map f).filter p = (l.filter (fun x => p (f x))).map f := by rw [List.filter_map]; rfl

end Go.Proofs.Ytohddbiedabmhaa.X
-- by xprint.py, a program of this session, over the kit's print.py
namespace Go.Proofs.Ytohddbiedabmhaa.X
open Go.RowKit Go.Proofs.YtohddbiedabmhaaW.PrintWords Go.Proofs.YtohddbiedabmhaaW.PrintLast Go.Proofs.YtohddbiedabmhaaW.PrintMore
attribute [local go_sem] max2_int min2_int max_two min_two max_three min_three max_four min_four   -- for this text's walks alone
set_option linter.unusedVariables false
set_option linter.unusedSimpArgs false

def Sh.lays166_ren : Go.Shelf.Ren := ⟨fun | 166 => 48 | 240 => 51 | 276 => 52 | n => n, fun | 0 => 0 | 3 => 3 | 4 => 4 | 5 => 5 | 9 => 9 | 20 => 20 | 37 => 24 | 70 => 82 | 72 => 84 | 75 => 86 | 80 => 55 | 164 => 90 | n => n, fun | n => n⟩
theorem Sh.lays166 : Go.Proofs.Lays.n166 Try.prog Sh.lays166_ren := {
  mixed := by kernel_rfl
  f166 := Try.func48.trans (congrArg some (by kernel_rfl))
  f240 := Try.func51.trans (congrArg some (by kernel_rfl))
  f276 := Try.func52.trans (congrArg some (by kernel_rfl))
  t0 := Try.underlying0
  a0 := Try.isAgg0
  z0 := Try.sizeOf0
  v0 := Try.zeroValue0
  t3 := Try.underlying3
  a3 := Try.isAgg3
  z3 := Try.sizeOf3
  v3 := Try.zeroValue3
  t4 := Try.underlying4
  a4 := Try.isAgg4
  z4 := Try.sizeOf4
  v4 := Try.zeroValue4
  t9 := Try.underlying9
  a9 := Try.isAgg9
  z9 := Try.sizeOf9
  v9 := Try.zeroValue9
  t20 := Try.underlying20
  a20 := Try.isAgg20
  z20 := Try.sizeOf20
  v20 := Try.zeroValue20
  t37 := Try.underlying24
  a37 := Try.isAgg24
  z37 := Try.sizeOf24
  v37 := Try.zeroValue24
  t70 := Try.underlying82
  a70 := Try.isAgg82
  z70 := Try.sizeOf82
  v70 := Try.zeroValue82
  t72 := Try.underlying84
  a72 := Try.isAgg84
  z72 := Try.sizeOf84
  v72 := Try.zeroValue84
  t75 := Try.underlying86
  a75 := Try.isAgg86
  z75 := Try.sizeOf86
  v75 := Try.zeroValue86
  t164 := Try.underlying90
  a164 := Try.isAgg90
  z164 := Try.sizeOf90
  v164 := Try.zeroValue90 }
theorem Sh.Builder_Extra_166 : Go.Proofs.Builder.Extra Try.prog Sh.lays166_ren := {
  sizeBuilder := by kernel_rfl
  liesBuilder := by kernel_rfl
  t5 := Try.underlying5
  a5 := Try.isAgg5
  z5 := Try.sizeOf5
  v5 := Try.zeroValue5
  infoByte := by kernel_rfl
  cellsByte := by kernel_rfl
  sizeByte := by kernel_rfl
  neB5 := by decide }
def Sh.lays169_ren : Go.Shelf.Ren := ⟨fun | 169 => 49 | n => n, fun | 0 => 0 | 3 => 3 | 5 => 5 | 9 => 9 | 37 => 24 | 70 => 82 | 72 => 84 | 127 => 89 | n => n, fun | n => n⟩
theorem Sh.lays169 : Go.Proofs.Lays.n169 Try.prog Sh.lays169_ren := {
  mixed := by kernel_rfl
  f169 := Try.func49.trans (congrArg some (by kernel_rfl))
  t0 := Try.underlying0
  a0 := Try.isAgg0
  z0 := Try.sizeOf0
  v0 := Try.zeroValue0
  t3 := Try.underlying3
  a3 := Try.isAgg3
  z3 := Try.sizeOf3
  v3 := Try.zeroValue3
  t9 := Try.underlying9
  a9 := Try.isAgg9
  z9 := Try.sizeOf9
  v9 := Try.zeroValue9
  t37 := Try.underlying24
  a37 := Try.isAgg24
  z37 := Try.sizeOf24
  v37 := Try.zeroValue24
  t70 := Try.underlying82
  a70 := Try.isAgg82
  z70 := Try.sizeOf82
  v70 := Try.zeroValue82
  t72 := Try.underlying84
  a72 := Try.isAgg84
  z72 := Try.sizeOf84
  v72 := Try.zeroValue84
  t127 := Try.underlying89
  a127 := Try.isAgg89
  z127 := Try.sizeOf89
  v127 := Try.zeroValue89 }
theorem Sh.Builder_Extra_169 : Go.Proofs.Builder.Extra Try.prog Sh.lays169_ren := {
  sizeBuilder := by kernel_rfl
  liesBuilder := by kernel_rfl
  t5 := Try.underlying5
  a5 := Try.isAgg5
  z5 := Try.sizeOf5
  v5 := Try.zeroValue5
  infoByte := by kernel_rfl
  cellsByte := by kernel_rfl
  sizeByte := by kernel_rfl
  neB5 := by decide }
theorem Sh.WriteString (B b : Nat) (bs : List Value) (s : ByteArray) (w : World) (h : Lib.IsBuilder 84 5 B b bs w) (hlen : bs.length + s.size ≤ 140737488355328) (hBw : B ≤ w.heap.size) :
    Calls Try.prog 48 #[.pointer (some ⟨b, 0, none⟩), .string s] w fun e w' => e = .returned (.tuple #[.int .i64 s.size, .nilIface]) ∧ (Lib.BuilderAt 84 5 B b (.pointer (some ⟨b, 0, none⟩)) (bs ++ Lib.strCells s) w' ∧ Below B w w') :=
  Go.Proofs.Any.Builder_WriteString Sh.lays166 Sh.Builder_Extra_166 B b bs s w h hlen hBw
theorem Sh.String (B b : Nat) (l : List UInt8) (w : World) (h : Lib.IsBuilder 84 5 B b (Lib.byteCells l) w) (hBw : B ≤ w.heap.size) :
    Calls Try.prog 49 #[.pointer (some ⟨b, 0, none⟩)] w fun e w' => e = .returned (.string ⟨l.toArray⟩) ∧ Below B w w' :=
  Go.Proofs.Any.Builder_String_any Sh.lays169 Sh.Builder_Extra_169 B b l w h hBw
theorem builderAt_below {T e : TypeId} {B b : Nat} {p : Value} {bs : List Value} {w w1 : World} (h : Lib.BuilderAt T e B b p bs w) (hb : Below w.heap.size w w1) : Lib.BuilderAt T e B b p bs w1 := by
  have hlt := h.lt
  obtain ⟨hB, v, hbk, hown, hne⟩ := h
  exact ⟨hB, v, (hb.block b hlt).trans hbk, own_move hown (fun k hk => hb.block k (own_lt hown k hk)), hne⟩
theorem isBuilder_below {T e : TypeId} {B b : Nat} {bs : List Value} {w w1 : World} (h : Lib.IsBuilder T e B b bs w) (hb : Below w.heap.size w w1) : Lib.IsBuilder T e B b bs w1 := by
  rcases h with h | h
  · exact .inl (builderAt_below h hb)
  · exact .inr (builderAt_below h hb)
theorem byteCells_append (a b : ByteArray) : Lib.byteCells a.data.toList ++ Lib.strCells b = Lib.byteCells (a ++ b).data.toList := by
  simp [Lib.byteCells, Lib.strCells, ByteArray.data_append]

end Go.Proofs.Ytohddbiedabmhaa.X
-- by xprint.py, a program of this session, over the kit's print.py
namespace Go.Proofs.Ytohddbiedabmhaa.X
open Go.RowKit Go.Proofs.YtohddbiedabmhaaW.PrintWords Go.Proofs.YtohddbiedabmhaaW.PrintLast Go.Proofs.YtohddbiedabmhaaW.PrintMore
attribute [local go_sem] max2_int min2_int max_two min_two max_three min_three max_four min_four   -- for this text's walks alone
set_option linter.unusedVariables false
set_option linter.unusedSimpArgs false

def pack_Put.f (a0 : Int) (l1 : List Int) : Option ByteArray := if -9223372036854775808 ≤ a0 ∧ a0 < 9223372036854775808 ∧ l1.length ≤ 1000000000 then some (putS a0 l1) else none
theorem pack_Put_text (a0 : Int) (l1 : List Int) (h : -9223372036854775808 ≤ a0 ∧ a0 < 9223372036854775808 ∧ l1.length ≤ 1000000000) : wire_Text_s.f a0 (catS l1) = some (bytesS a0 2 0 (catS l1)) := by
  have hs := catS_size l1
  exact if_pos ⟨h.1, h.2.1, by decide, by decide, by decide, by decide, by omega⟩
set_option maxHeartbeats 8000000 in
set_option maxRecDepth 100000 in
theorem pack_Put.calls (a0 : Int) (A1 : Option Addr) (c1 : Nat) (l1 : List Int) (r : ByteArray) (w : World) (hr1 : Kd.C (Kd.int .i64) w A1 l1.length l1) (hc1 : l1.length ≤ c1) (h : pack_Put.f a0 l1 = some r) :
    Calls Try.prog 35 #[.int .i64 a0, .slice A1 l1.length c1] w fun e w' => e = .returned (.string r) ∧ Below w.heap.size w w' := by
  unfold pack_Put.f at h
  by_cases hb : -9223372036854775808 ≤ a0 ∧ a0 < 9223372036854775808 ∧ l1.length ≤ 1000000000
  · rw [if_pos hb] at h
    have Hput := Aside0.mk (Option.some.inj h)
    have Htext := Aside0.mk (pack_Put_text a0 l1 hb)
    have HL := Aside0.mk hb.2.2
    have HR1 := Aside0.mk hr1
    have HC1 := Aside0.mk hc1
    clear h hb hr1 hc1
    by_cases h0 : l1.length = 0
    · have hz : ((l1.length : Int) == 0) = true := by simp [h0]
      have Hn : Aside0 (l1 = []) := ⟨List.eq_nil_of_length_eq_zero h0⟩
      clear h0
      go_enter Try.func35, Try.ntmps35
      go_wp2
      go_ret
      exact ⟨by rw [← Hput.out, Hn.out]; rfl, Below.refl _ _⟩
    · have hz : ((l1.length : Int) == 0) = false := by simp; intro hh; exact h0 (by rw [hh]; rfl)
      have Hne : Aside0 (¬ l1 = []) := ⟨fun hh => h0 (by rw [hh]; rfl)⟩
      clear h0
      go_enter Try.func35, Try.ntmps35
      go_wp2
      have HB0 : Aside0 (Below w.heap.size w (w.alloc (Obj.cells #[Value.pointer none, Value.slice none 0 0] 84))) := ⟨below_alloc (Below.refl _ _) _⟩
      have HI0 : Aside0 (Lib.IsBuilder 84 5 w.heap.size w.heap.size (Lib.byteCells (catS (l1.take 0)).data.toList) (w.alloc (Obj.cells #[Value.pointer none, Value.slice none 0 0] 84))) := ⟨Lib.fresh_isBuilder _ _ w⟩
      go_loopg [13] l1.length (fun kq v13 w' => ∃ i : Nat, v13 = .int .i64 i ∧ Aside0 (i + kq = l1.length) ∧ i ≤ l1.length ∧ Aside0 (Lib.IsBuilder 84 5 w.heap.size w.heap.size (Lib.byteCells (catS (l1.take i)).data.toList) w') ∧ Aside0 (Below w.heap.size w w'))
      case atStart => exact ⟨0, rfl, ⟨by omega⟩, Nat.zero_le _, HI0, HB0⟩
      case round =>
        obtain ⟨i, rfl, HK, hi, HI, HB⟩ := hrel
        clear HB0 HI0
        by_cases hlt : i < l1.length
        · have hlt' : decide ((i : Int) < (l1.length : Int)) = true := by simpa using hlt
          obtain ⟨k1, rfl⟩ : ∃ m, gk = m + 1 := ⟨gk - 1, by have := HK.out; omega⟩
          have Hv : Aside0 (varint_Put.f (IntKind.u64.wrap (rd l1 i)) = some (vStr (IntKind.u64.wrap (rd l1 i)).toNat)) := ⟨if_pos (u64_range _)⟩
          have Hcat : Aside0 (Lib.byteCells (catS (l1.take i)).data.toList ++ Lib.strCells (vStr (IntKind.u64.wrap (rd l1 i)).toNat) = Lib.byteCells (catS (l1.take (i + 1))).data.toList) := ⟨by
            rw [byteCells_append, List.take_succ_eq_append_getElem hlt, catS_append]
            simp [catS, rd, List.getD_eq_getElem?_getD, hlt]⟩
          have Hlen : Aside0 ((Lib.byteCells (catS (l1.take i)).data.toList).length + (vStr (IntKind.u64.wrap (rd l1 i)).toNat).size ≤ 140737488355328) := ⟨by
            have h1 := catS_size (l1.take i)
            have h2 := vSize_10 (IntKind.u64.wrap (rd l1 i)).toNat (by have := u64_range (rd l1 i); omega)
            have h3 : (Lib.byteCells (catS (l1.take i)).data.toList).length = (catS (l1.take i)).size := by simp [Lib.byteCells]
            have h4 := HL.out
            rw [List.length_take] at h1
            rw [vStr_size, h3]
            omega⟩
          have Hw : Aside0 (wrap64 ((i : Int) + 1) = (i : Int) + 1) := ⟨by have := HL.out; exact wrap64_id (by omega) (by omega)⟩
          have p101 : 0 ≤ (i : Int) := Int.natCast_nonneg i
          have q101 : (i : Int) < (l1.length : Int) := by omega
          obtain ⟨ad101, e101, hx101_0⟩ := Kd.at_int HR1.out i p101 q101
          cases e101
          replace hx101_0 := (HB.out.cell (World.block_lt_of_cell? w _ hx101_0)).trans hx101_0
          rw [Int.toNat_natCast] at hx101_0
          replace p101 := eq_true p101
          replace q101 := eq_true q101
          go_wp2_with (first | (fail))
          refine (varint_Put.calls (IntKind.u64.wrap (rd l1 i)) _ _ Hv.out).mono ?_
          rintro e w8 ⟨rfl, hb⟩
          have n0_ := Aside0.mk (below_step HB.out hb)
          have n1_ := Aside0.mk (isBuilder_below HI.out hb)
          clear HB
          clear HI
          have HB := n0_
          have HI := n1_
          clear n0_ n1_
          clear hb
          go_wp2_with (first | (fail))
          refine (Sh.WriteString w.heap.size w.heap.size _ (vStr (IntKind.u64.wrap (rd l1 i)).toNat) _ HI.out Hlen.out (below_size HB.out)).mono ?_
          rintro e w9 ⟨rfl, hi8, hb⟩
          have n0_ := Aside0.mk (HB.out.trans hb)
          have n1_ := Aside0.mk (show Lib.IsBuilder 84 5 w.heap.size w.heap.size _ w9 from .inr hi8)
          clear HB
          clear HI
          have HB := n0_
          have HI := n1_
          clear n0_ n1_
          clear hb
          clear hi8
          go_wp2_with (first | (fail))
          go_roundg k1
          case measure => have := HK.out; omega
          case rel => exact ⟨i + 1, by rw [Hw.out]; rfl, ⟨by have := HK.out; omega⟩, by omega, ⟨by rw [← Hcat.out]; exact HI.out⟩, HB⟩
        · have hlt' : decide ((i : Int) < (l1.length : Int)) = false := by simpa using hlt
          have Hi : Aside0 (l1.take i = l1) := ⟨List.take_of_length_le (by omega)⟩
          have HI2 : Aside0 (Lib.IsBuilder 84 5 w.heap.size w.heap.size (Lib.byteCells (catS l1).data.toList) wr) := ⟨by have := HI.out; rw [Hi.out] at this; exact this⟩
          go_wp2_with (first | (fail))
          refine (Sh.String w.heap.size w.heap.size _ _ HI2.out (below_size HB.out)).mono ?_
          rintro e w8 ⟨rfl, hb⟩
          have n0_ := Aside0.mk (HB.out.trans hb)
          clear HB
          have HB := n0_
          clear n0_ hb
          go_wp2_with (first | (fail))
          refine (wire_Text_s.calls a0 (catS l1) _ _ Htext.out).mono ?_
          rintro e w9 ⟨rfl, hb⟩
          have n0_ := Aside0.mk (below_step HB.out hb)
          clear HB
          have HB := n0_
          clear n0_ hb
          go_wp2_with (first | (fail))
          go_ret
          exact ⟨by rw [← Hput.out, putS, if_neg Hne.out]; rfl, HB.out⟩
  · rw [if_neg hb] at h; cases h

end Go.Proofs.Ytohddbiedabmhaa.X
