-- by xprint.py, a program of this session, over the kit's print.py
import Derived.Test.YtohddbiedabmhaaT0
import Derived.Test.YtohddbiedabmhaaFWireFields
import Derived.Test.YtohddbiedabmhaaGWireOne
import Derived.Test.YtohddbiedabmhaaLWire
namespace Go.Proofs.Ytohddbiedabmhaa.X
open Go.RowKit Go.Proofs.YtohddbiedabmhaaW.PrintWords Go.Proofs.YtohddbiedabmhaaW.PrintLast Go.Proofs.YtohddbiedabmhaaW.PrintMore
attribute [local go_sem] max2_int min2_int max_two min_two max_three min_three max_four min_four   -- for this text's walks alone
set_option linter.unusedVariables false
set_option linter.unusedSimpArgs false

def wire_Fields_s.f (a0 : ByteArray) : Option (List (S47) × Int) := if a0.size ≤ 140737488351232 then some ((fieldsS a0).1.map toP, ((fieldsS a0).2 : Int)) else none
theorem wire_Fields_eval (d : Nat) : ∀ (k : Nat) (b : ByteArray) (acc : List (S47)), b.size ≤ d → d ≤ 1048576 → acc.length + d ≤ 1048576 → d < k →
    wire_Fields.l0 k b acc = some (if (fieldsF d b).2 ≠ 0 then ([], ((fieldsF d b).2 : Int)) else (acc ++ (fieldsF d b).1.map toP, 0)) := by
  induction d with
  | zero =>
    intro k b acc hb hd hl hk
    obtain ⟨k, rfl⟩ : ∃ m, k = m + 1 := ⟨k - 1, by omega⟩
    simp only [wire_Fields.l0]
    rw [if_pos (toList_nil.2 (by omega))]
    simp [fieldsF]
  | succ d ih =>
    intro k b acc hb hd hl hk
    obtain ⟨k, rfl⟩ : ∃ m, k = m + 1 := ⟨k - 1, by omega⟩
    simp only [wire_Fields.l0]
    by_cases h0 : b.size = 0
    · rw [if_pos (toList_nil.2 h0)]
      simp [fieldsF, h0]
    · rw [if_neg (fun h => h0 (toList_nil.1 h))]
      have e1 : wire_one_s.f b = some (oneT (oneS b)) := if_pos (by omega)
      simp only [e1, Option.bind_some, oneT]
      rw [fieldsF, if_neg h0]
      by_cases hc : (oneS b).2.2 = 0
      · have g := oneS_pos b hc
        rw [if_pos (by omega), if_pos (by omega), if_pos (by omega), if_pos (by omega), Int.toNat_natCast]
        rw [ih k _ _ (by rw [extract_size' _ _ g.2]; omega) (by omega) (by simp; omega) (by omega)]
        rw [if_neg (show ¬ ((oneS b).2.2 ≠ 0) by simp [hc])]
        by_cases hq : (fieldsF d (b.extract (oneS b).2.1 b.size)).2 = 0
        · simp [hq, toP]
        · simp [hq]
      · rw [if_neg (by omega), if_pos hc]
        simp [hc]
theorem wire_Fields_s.ev (a0 : ByteArray) (r) (h : wire_Fields_s.f a0 = some r) : ∃ k, wire_Fields.f k a0 = some r := by
  unfold wire_Fields_s.f at h
  split at h
  · rename_i hs
    rw [← h]
    unfold wire_Fields.f fieldsS
    by_cases hg : a0.size > 1048576
    · exact ⟨0, by rw [if_pos (by omega), if_pos hg]; rfl⟩
    · refine ⟨a0.size + 1, ?_⟩
      rw [if_neg (by omega), if_neg hg, wire_Fields_eval a0.size _ a0 [] (by omega) (by omega) (by simp; omega) (by omega)]
      have hnil : (fieldsF a0.size a0).2 ≠ 0 → (fieldsF a0.size a0).1 = [] := fieldsF_nil _ _
      by_cases hq : (fieldsF a0.size a0).2 = 0
      · simp [hq]
      · simp [hq, hnil hq]
  · cases h

set_option maxHeartbeats 1000000 in
theorem wire_Fields_s.calls (a0 : ByteArray) (r1 : List (S47)) (r2 : Int) (w : World) (h : wire_Fields_s.f a0 = some (r1, r2)) :
    Calls Try.prog 21 #[.string a0] w fun e w' => ∃ v0_ : Value, e = .returned (.tuple #[v0_, .int .i64 r2]) ∧ Kd.R k47 47 w' w.heap.size (fun _ => True) v0_ r1 ∧ Below w.heap.size w w' := by
  obtain ⟨k, hk⟩ := wire_Fields_s.ev a0 _ h
  exact wire_Fields.calls k a0 r1 r2 w hk

end Go.Proofs.Ytohddbiedabmhaa.X
