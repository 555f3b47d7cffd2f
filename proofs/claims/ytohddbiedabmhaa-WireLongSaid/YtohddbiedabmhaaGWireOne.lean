-- by xprint.py, a program of this session, over the kit's print.py
import Derived.Test.YtohddbiedabmhaaT0
import Derived.Test.YtohddbiedabmhaaFVarintRead
import Derived.Test.YtohddbiedabmhaaFWireOne
import Derived.Test.YtohddbiedabmhaaGWireFieldBytes
import Derived.Test.YtohddbiedabmhaaGWireFixed
import Derived.Test.YtohddbiedabmhaaLVarint
import Derived.Test.YtohddbiedabmhaaLWire
namespace Go.Proofs.Ytohddbiedabmhaa.X
open Go.RowKit Go.Proofs.YtohddbiedabmhaaW.PrintWords Go.Proofs.YtohddbiedabmhaaW.PrintLast Go.Proofs.YtohddbiedabmhaaW.PrintMore
attribute [local go_sem] max2_int min2_int max_two min_two max_three min_three max_four min_four   -- for this text's walks alone
set_option linter.unusedVariables false
set_option linter.unusedSimpArgs false

def oneT (r : Fl × Nat × Nat) : Int × Int × Int × ByteArray × Int × Int := (r.1.1, r.1.2.1, r.1.2.2.1, r.1.2.2.2, r.2.1, r.2.2)
def wire_one_s.f (a0 : ByteArray) : Option (Int × Int × Int × ByteArray × Int × Int) := if a0.size ≤ 140737488351232 then some (oneT (oneS a0)) else none
theorem and_seven (t : Nat) (h : t < 18446744073709551616) : Go.bits .and .u64 (t : Int) 7 = ((t % 8 : Nat) : Int) := by
  have := u64_and_nat t 7 h (by decide)
  rw [show ((7 : Nat) : Int) = 7 from rfl] at this
  rw [this, show (7 : Nat) = 2 ^ 3 - 1 from rfl, Nat.and_two_pow_sub_one_eq_mod]
theorem wire_one_text (k : Nat) (a0 : ByteArray) (n num : Nat) (ty : Nat) (hs : a0.size ≤ 140737488351232) (hn : n ≤ a0.size) (hn10 : n ≤ 10) (hty : ty = 0 ∨ ty = 2) :
    wire_one.j0 (k + 1) a0 n 8 ty true num ty 0 ⟨#[]⟩ = some (oneT (
      if (vRead (a0.extract n a0.size)).2.2 ≠ 0 then ((0, 0, 0, ⟨#[]⟩), 0, (vRead (a0.extract n a0.size)).2.2)
      else if ty = 0 then ((num, 0, (vRead (a0.extract n a0.size)).1, ⟨#[]⟩), n + (vRead (a0.extract n a0.size)).2.1, 0)
      else if a0.size - (n + (vRead (a0.extract n a0.size)).2.1) < (vRead (a0.extract n a0.size)).1 then ((0, 0, 0, ⟨#[]⟩), 0, 1)
      else ((num, 2, 0, a0.extract (n + (vRead (a0.extract n a0.size)).2.1) (n + (vRead (a0.extract n a0.size)).2.1 + (vRead (a0.extract n a0.size)).1)), n + (vRead (a0.extract n a0.size)).2.1 + (vRead (a0.extract n a0.size)).1, 0))) := by
  have hsz := extract_size' a0 n hn
  obtain ⟨⟨y, m, e⟩, hr⟩ : ∃ x, vRead (a0.extract n a0.size) = x := ⟨_, rfl⟩
  simp only [wire_one.j0, varint_Read.f, Option.bind_some, Int.toNat_natCast]
  rw [if_pos trivial, if_pos (by omega), if_pos (by omega)]
  simp only [hr]
  by_cases he : e = 0
  · subst he
    have g := vRead_pos (a0.extract n a0.size) (by rw [hr])
    rw [hr, hsz] at g
    simp only at g
    have ew : wrap64 ((n : Int) + m) = ((n + m : Nat) : Int) := by rw [wrap64_id (by omega) (by omega)]; omega
    rw [show ∀ x y : Fl × Nat × Nat, (if (0 : Nat) ≠ 0 then x else y) = y from fun _ _ => if_neg (by simp), if_pos (by rfl), ew]
    rcases hty with rfl | rfl
    · rw [if_pos (by rfl), if_pos (by rfl)]; rfl
    · rw [if_neg (by decide), wrap64_id (x := (a0.size : Int) - ((n + m : Nat) : Int)) (by omega) (by omega), u64_id (x := (a0.size : Int) - ((n + m : Nat) : Int)) (by omega) (by omega),
        show ∀ x y : Fl × Nat × Nat, (if (2 : Nat) = 0 then x else y) = y from fun _ _ => if_neg (by decide)]
      by_cases hy : a0.size - (n + m) < y
      · rw [if_pos (by omega), if_pos hy]; rfl
      · have ew2 : wrap64 (((n + m : Nat) : Int) + wrap64 (y : Int)) = ((n + m + y : Nat) : Int) := by
          rw [wrap64_id (x := (y : Int)) (by omega) (by omega), wrap64_id (by omega) (by omega)]; omega
        rw [if_neg (by omega), if_neg hy, if_pos (by omega), ew2, if_pos (by omega), if_pos (by omega)]; rfl
  · rw [if_neg (by omega), if_pos he]; rfl
theorem wire_one_fix (k : Nat) (a0 : ByteArray) (n num : Nat) (ty : Nat) (hs : a0.size ≤ 140737488351232) (hn : n ≤ a0.size) (hty : ty = 1 ∨ ty = 5) :
    wire_one.j0 (k + 1) a0 n 8 ty false num ty 0 ⟨#[]⟩ = some (oneT (
      if a0.size - n < (if ty = 5 then 4 else 8) then ((0, 0, 0, ⟨#[]⟩), 0, 1)
      else ((num, (ty : Nat), (lowS (ns (a0.extract n (n + (if ty = 5 then 4 else 8)))) : Nat), ⟨#[]⟩), n + (if ty = 5 then 4 else 8), 0))) := by
  have ew : wrap64 ((a0.size : Int) - n) = ((a0.size - n : Nat) : Int) := by rw [wrap64_id (by omega) (by omega)]; omega
  simp only [wire_one.j0]
  rw [if_neg (by decide), ew]
  rcases hty with rfl | rfl
  · have ew2 : wrap64 ((n : Int) + 8) = ((n + 8 : Nat) : Int) := by rw [wrap64_id (by omega) (by omega)]; omega
    rw [if_neg (by decide), if_neg (show ¬ (1 = 5) by decide), ew2]
    by_cases h : a0.size - n < 8
    · rw [if_pos (by omega), if_pos h]; rfl
    · have ef : wire_fixed_s.f (a0.extract n (n + 8)) = some ((lowS (ns (a0.extract n (n + 8))) : Nat) : Int) := if_pos (by rw [ByteArray.size_extract]; omega)
      rw [if_neg (by omega), if_neg h, if_pos (by omega), if_pos (by omega), if_pos (by omega), Int.toNat_natCast, Int.toNat_natCast, ef]; rfl
  · have ew2 : wrap64 ((n : Int) + 4) = ((n + 4 : Nat) : Int) := by rw [wrap64_id (by omega) (by omega)]; omega
    rw [if_pos (by decide), if_pos (show (5 = 5) by decide), ew2]
    by_cases h : a0.size - n < 4
    · rw [if_pos (by omega), if_pos h]; rfl
    · have ef : wire_fixed_s.f (a0.extract n (n + 4)) = some ((lowS (ns (a0.extract n (n + 4))) : Nat) : Int) := if_pos (by rw [ByteArray.size_extract]; omega)
      rw [if_neg (by omega), if_neg h, if_pos (by omega), if_pos (by omega), if_pos (by omega), Int.toNat_natCast, Int.toNat_natCast, ef]; rfl
theorem wire_one_s.ev (a0 : ByteArray) (r) (h : wire_one_s.f a0 = some r) : ∃ k, wire_one.f k a0 = some r := by
  unfold wire_one_s.f at h
  split at h
  · rename_i hs
    rw [← h]
    refine ⟨1, ?_⟩
    unfold wire_one.f oneS
    obtain ⟨⟨t, n, e⟩, hr⟩ : ∃ x, vRead a0 = x := ⟨_, rfl⟩
    simp only [varint_Read.f, Option.bind_some, hr]
    by_cases he : e = 0
    · subst he
      have g := vRead_pos a0 (by rw [hr])
      rw [hr] at g
      simp only at g
      rw [if_pos (by rfl), and_seven t g.2.2.2, show ((t : Int) / 8) = ((t / 8 : Nat) : Int) by omega, wire_may_eval _ _ (by omega) (by omega), Option.bind_some, if_neg (show ¬ ((0 : Nat) ≠ 0) by simp),
        wrap64_id (x := ((t % 8 : Nat) : Int)) (by omega) (by omega), wrap64_id (x := ((t / 8 : Nat) : Int)) (by omega) (by omega)]
      by_cases hm : 1 ≤ t / 8 ∧ t / 8 ≤ 536870911 ∧ (t % 8 = 0 ∨ t % 8 = 1 ∨ t % 8 = 2 ∨ t % 8 = 5)
      · rw [if_pos (decide_eq_true (by omega))]
        have hnn : ¬ ¬ (1 ≤ t / 8 ∧ t / 8 ≤ 536870911 ∧ (t % 8 = 0 ∨ t % 8 = 1 ∨ t % 8 = 2 ∨ t % 8 = 5)) := fun h => h hm
        rw [show ∀ x y : Fl × Nat × Nat, (if ¬ (1 ≤ t / 8 ∧ t / 8 ≤ 536870911 ∧ (t % 8 = 0 ∨ t % 8 = 1 ∨ t % 8 = 2 ∨ t % 8 = 5)) then x else y) = y from fun _ _ => if_neg hnn]
        by_cases h2 : t % 8 = 0 ∨ t % 8 = 2
        · have key := wire_one_text 0 a0 n (t / 8) (t % 8) hs (by omega) (by omega) h2
          rw [show ∀ x y : Fl × Nat × Nat, (if t % 8 = 0 ∨ t % 8 = 2 then x else y) = x from fun _ _ => if_pos h2]
          rcases h2 with h2 | h2
          · rw [if_pos (by omega), show (((t % 8 : Nat) : Int) == 0) = true from beq_iff_eq.2 (by omega)]
            exact key
          · rw [if_neg (by omega), show (((t % 8 : Nat) : Int) == 2) = true from beq_iff_eq.2 (by omega)]
            exact key
        · have key := wire_one_fix 0 a0 n (t / 8) (t % 8) hs (by omega) (by omega)
          rw [show ∀ x y : Fl × Nat × Nat, (if t % 8 = 0 ∨ t % 8 = 2 then x else y) = y from fun _ _ => if_neg h2]
          rw [if_neg (by omega), show (((t % 8 : Nat) : Int) == 2) = false from beq_eq_false_iff_ne.2 (by omega)]
          exact key
      · rw [if_neg (by rw [decide_eq_true_iff]; omega), if_pos hm]; rfl
    · rw [if_neg (by omega), if_pos he]; rfl
  · cases h

set_option maxHeartbeats 1000000 in
theorem wire_one_s.calls (a0 : ByteArray) (r1 : Int) (r2 : Int) (r3 : Int) (r4 : ByteArray) (r5 : Int) (r6 : Int) (w : World) (h : wire_one_s.f a0 = some (r1, r2, r3, r4, r5, r6)) :
    Calls Try.prog 42 #[.string a0] w fun e w' => e = .returned (.tuple #[.agg #[.int .i64 r1, .int .i64 r2, .int .u64 r3, .string r4], .int .i64 r5, .int .i64 r6]) ∧ Below w.heap.size w w' := by
  obtain ⟨k, hk⟩ := wire_one_s.ev a0 _ h
  exact wire_one.calls k a0 r1 r2 r3 r4 r5 r6 w hk

end Go.Proofs.Ytohddbiedabmhaa.X
