import Derived.Test.YtohddbiedabmhaaMWireReads0
import Derived.Test.YtohddbiedabmhaaMWireReads9
import Derived.Test.YtohddbiedabmhaaMWireReads8
import Derived.Test.YtohddbiedabmhaaMWireReads2
-- by xprint.py, a program of this session, over the kit's print.py
namespace Go.Proofs.Ytohddbiedabmhaa.X
open Go.RowKit Go.Proofs.YtohddbiedabmhaaW.PrintWords Go.Proofs.YtohddbiedabmhaaW.PrintLast Go.Proofs.YtohddbiedabmhaaW.PrintMore
attribute [local go_sem] max2_int min2_int max_two min_two max_three min_three max_four min_four   -- for this text's walks alone
set_option linter.unusedVariables false
set_option linter.unusedSimpArgs false

def agateref02_Fields_s.f (a0 : ByteArray) : Option (List (S50) × Int) := if a0.size ≤ 140737488351232 then some ((fieldsS a0).1.map toR, ((fieldsS a0).2 : Int)) else none
theorem ref_tail (k : Nat) (a0 : ByteArray) (acc : List (S50)) (i size num ty v : Nat) (hs : a0.size ≤ 1048576) (hi : i ≤ a0.size) (hv : size < 18446744073709551616) (hl : acc.length ≤ 1048576)
    (h8 : ty ≠ 0 → ty ≠ 2 → size ≤ 8) (h0 : ty = 0 → size = 0) (h2 : ty ≠ 0 → v = 0) :
    agateref02_Fields.j5 (k + 1) a0 acc i size num ty v ⟨#[]⟩ =
      if a0.size - i < size then some ([], 1) else
        agateref02_Fields.l0 k a0 (acc ++ [toR (num, ty, if ty = 0 then v else if ty = 2 then 0 else (lowS (ns (a0.extract i (i + size))) : Nat), if ty = 2 then a0.extract i (i + size) else ⟨#[]⟩)]) ((i + size : Nat) : Int) := by
  simp only [agateref02_Fields.j5]
  rw [wrap64_id (x := (a0.size : Int) - (i : Int)) (by omega) (by omega), u64_id (x := (a0.size : Int) - (i : Int)) (by omega) (by omega)]
  by_cases hb : a0.size - i < size
  · rw [if_pos (by omega), if_pos hb]
  · have ew : wrap64 ((i : Int) + wrap64 (size : Int)) = ((i + size : Nat) : Int) := by
      rw [wrap64_id (x := (size : Int)) (by omega) (by omega), wrap64_id (by omega) (by omega)]; omega
    rw [if_neg (by omega), if_neg hb, if_pos (by omega), ew, if_pos (by omega), if_pos (by omega), Int.toNat_natCast, Int.toNat_natCast]
    by_cases t2 : ty = 2
    · subst t2
      obtain rfl := h2 (by decide)
      rw [if_pos (by rfl), if_pos (by omega)]
      rfl
    · by_cases t0 : ty = 0
      · subst t0
        rw [if_neg (by decide), if_pos (by rfl), if_pos (by omega)]
        rfl
      · have el : agateref02_low_s.f (a0.extract i (i + size)) = some ((lowS (ns (a0.extract i (i + size))) : Nat) : Int) := if_pos (by rw [ByteArray.size_extract]; have := h8 t0 t2; omega)
        rw [if_neg (by omega), if_neg (by omega), el, Option.bind_some, if_pos (by omega), if_neg t0, if_neg t2, if_neg t2]
        rfl
theorem ref_text (k : Nat) (a0 : ByteArray) (acc : List (S50)) (p num ty : Nat) (t : Int) (hs : a0.size ≤ 1048576) (hp : p ≤ a0.size) (hl : acc.length ≤ 1048576) (hty : ty = 0 ∨ ty = 2)
    (hnum : wrap64 (IntKind.u64.wrap (Int.tdiv t 8)) = (num : Int)) :
    agateref02_Fields.j1 (k + 5) a0 acc p t false 0 ty 0 ⟨#[]⟩ =
      if (vRead (a0.extract p a0.size)).2.2 ≠ 0 then some ([], ((vRead (a0.extract p a0.size)).2.2 : Int))
      else if ty = 0 then agateref02_Fields.l0 k a0 (acc ++ [toR (num, 0, (vRead (a0.extract p a0.size)).1, ⟨#[]⟩)]) ((p + (vRead (a0.extract p a0.size)).2.1 : Nat) : Int)
      else if a0.size - (p + (vRead (a0.extract p a0.size)).2.1) < (vRead (a0.extract p a0.size)).1 then some ([], 1)
      else agateref02_Fields.l0 k a0 (acc ++ [toR (num, 2, 0, a0.extract (p + (vRead (a0.extract p a0.size)).2.1) (p + (vRead (a0.extract p a0.size)).2.1 + (vRead (a0.extract p a0.size)).1))]) ((p + (vRead (a0.extract p a0.size)).2.1 + (vRead (a0.extract p a0.size)).1 : Nat) : Int) := by
  have hsz := extract_size' a0 p hp
  obtain ⟨⟨y, m, f⟩, hq⟩ : ∃ x, vRead (a0.extract p a0.size) = x := ⟨_, rfl⟩
  have e1 : agateref02_Fields.j1 (k + 5) a0 acc p t false 0 ty 0 ⟨#[]⟩ = agateref02_Fields.j4 (k + 2) a0 acc p 0 true num ty 0 ⟨#[]⟩ := by
    rw [agateref02_Fields.j1, hnum, if_neg (by decide)]
    rcases hty with rfl | rfl
    · rw [if_neg (by decide), agateref02_Fields.j2, if_neg (by decide), agateref02_Fields.j3, if_pos (by rfl)]
    · rw [if_neg (by decide), agateref02_Fields.j2, if_neg (by decide), agateref02_Fields.j3, if_neg (by decide)]; rfl
  rw [e1, agateref02_Fields.j4, if_pos rfl, if_pos (by omega), if_pos (by omega)]
  simp only [agateref01_Read_s.f, Option.bind_some, Int.toNat_natCast, hq]
  by_cases hf : f = 0
  · subst hf
    have g2 := vRead_pos (a0.extract p a0.size) (by rw [hq])
    rw [hq, hsz] at g2
    simp only at g2
    have ew2 : wrap64 ((p : Int) + (m : Int)) = ((p + m : Nat) : Int) := by rw [wrap64_id (by omega) (by omega)]; omega
    rw [if_pos (by rfl), ew2]
    rcases hty with rfl | rfl
    · rw [if_pos (by rfl)]
      have key := ref_tail k a0 acc (p + m) 0 num 0 y hs (by omega) (by omega) hl (by omega) (by omega) (by omega)
      rw [if_neg (by omega)] at key
      exact key
    · rw [if_neg (by decide)]
      have key := ref_tail k a0 acc (p + m) y num 2 0 hs (by omega) (by omega) hl (by omega) (by omega) (by omega)
      exact key
  · rw [if_neg (by omega), if_pos hf]
theorem ref_fix (k : Nat) (a0 : ByteArray) (acc : List (S50)) (p num ty : Nat) (t : Int) (hs : a0.size ≤ 1048576) (hp : p ≤ a0.size) (hl : acc.length ≤ 1048576) (hty : ty = 1 ∨ ty = 5)
    (hnum : wrap64 (IntKind.u64.wrap (Int.tdiv t 8)) = (num : Int)) :
    agateref02_Fields.j1 (k + 5) a0 acc p t false 0 ty 0 ⟨#[]⟩ =
      if a0.size - p < (if ty = 5 then 4 else 8) then some ([], 1)
      else agateref02_Fields.l0 k a0 (acc ++ [toR (num, (ty : Nat), (lowS (ns (a0.extract p (p + (if ty = 5 then 4 else 8)))) : Nat), ⟨#[]⟩)]) ((p + (if ty = 5 then 4 else 8) : Nat) : Int) := by
  have e1 : agateref02_Fields.j1 (k + 5) a0 acc p t false 0 ty 0 ⟨#[]⟩ = agateref02_Fields.j5 (k + 1) a0 acc p ((if ty = 5 then 4 else 8 : Nat) : Int) num ty ((0 : Nat) : Int) ⟨#[]⟩ := by
    rw [agateref02_Fields.j1, hnum, if_neg (by decide)]
    rcases hty with rfl | rfl
    · rw [if_pos (by rfl), agateref02_Fields.j2, if_neg (by decide), agateref02_Fields.j3, if_neg (by decide), agateref02_Fields.j4, if_neg (by decide)]; rfl
    · rw [if_neg (by decide), agateref02_Fields.j2, if_pos (by rfl), agateref02_Fields.j3, if_neg (by decide), agateref02_Fields.j4, if_neg (by decide)]; rfl
  rw [e1, ref_tail k a0 acc p (if ty = 5 then 4 else 8) num ty 0 hs hp (by split <;> omega) hl (by intros; split <;> omega) (by omega) (by omega)]
  rw [if_neg (show ¬ ty = 0 by omega), if_neg (show ¬ ty = 2 by omega), if_neg (show ¬ ty = 2 by omega)]
theorem ref_bad (k : Nat) (a0 : ByteArray) (acc : List (S50)) (p t z w : Int) : agateref02_Fields.j1 (k + 5) a0 acc p t true 0 z w ⟨#[]⟩ = some ([], 3) := by
  rw [agateref02_Fields.j1]; rfl
theorem ref_head (k : Nat) (a0 : ByteArray) (acc : List (S50)) (i : Nat) (t n e : Nat) (hs : a0.size ≤ 1048576) (hi : i < a0.size) (hr : vRead (a0.extract i a0.size) = (t, n, e)) :
    agateref02_Fields.l0 (k + 6) a0 acc i =
      if e ≠ 0 then some ([], (e : Int)) else if ¬ (1 ≤ t / 8 ∧ t / 8 ≤ 536870911 ∧ (t % 8 = 0 ∨ t % 8 = 1 ∨ t % 8 = 2 ∨ t % 8 = 5)) then some ([], 3)
      else agateref02_Fields.j1 (k + 5) a0 acc ((i + n : Nat) : Int) t false 0 ((t % 8 : Nat) : Int) 0 ⟨#[]⟩ := by
  have hsz := extract_size' a0 i (by omega)
  rw [agateref02_Fields.l0, if_pos (by omega), if_pos (by omega), if_pos (by omega)]
  simp only [agateref01_Read_s.f, Option.bind_some, Int.toNat_natCast, hr]
  by_cases he : e = 0
  · subst he
    have g := vRead_pos (a0.extract i a0.size) (by rw [hr])
    rw [hr, hsz] at g
    simp only at g
    have et : Int.tdiv (t : Int) 8 = ((t / 8 : Nat) : Int) := by rw [Int.tdiv_eq_ediv_of_nonneg (by omega)]; omega
    have em : Int.tmod (t : Int) 8 = ((t % 8 : Nat) : Int) := by rw [Int.tmod_eq_emod_of_nonneg (by omega)]; omega
    have ew : wrap64 ((i : Int) + (n : Int)) = ((i + n : Nat) : Int) := by rw [wrap64_id (by omega) (by omega)]; omega
    rw [et, em, ew, u64_id (x := ((t / 8 : Nat) : Int)) (by omega) (by omega), wrap64_id (x := ((t % 8 : Nat) : Int)) (by omega) (by omega), if_pos (by rfl)]
    simp only [ref_bad]
    by_cases hm : 1 ≤ t / 8 ∧ t / 8 ≤ 536870911 ∧ (t % 8 = 0 ∨ t % 8 = 1 ∨ t % 8 = 2 ∨ t % 8 = 5)
    · rw [if_neg (by omega), if_neg (by omega), if_neg (by omega), if_neg (by omega), decide_eq_false (by omega)]
      rw [if_neg (by simp), if_neg (fun h => h hm)]
    · rw [show ∀ x y : Option (List (S50) × Int), (if (0 : Nat) ≠ 0 then x else y) = y from fun _ _ => if_neg (by simp)]
      rw [show ∀ x y : Option (List (S50) × Int), (if ¬ (1 ≤ t / 8 ∧ t / 8 ≤ 536870911 ∧ (t % 8 = 0 ∨ t % 8 = 1 ∨ t % 8 = 2 ∨ t % 8 = 5)) then x else y) = x from fun _ _ => if_pos hm]
      by_cases g1 : ((t / 8 : Nat) : Int) = 0
      · rw [if_pos g1]
      · by_cases g2 : ((t / 8 : Nat) : Int) > 536870911
        · rw [if_neg g1, if_pos g2]
        · by_cases g3 : ((t % 8 : Nat) : Int) = 3
          · rw [if_neg g1, if_neg g2, if_pos g3]
          · by_cases g4 : ((t % 8 : Nat) : Int) = 4
            · rw [if_neg g1, if_neg g2, if_neg g3, if_pos g4]
            · rw [if_neg g1, if_neg g2, if_neg g3, if_neg g4, decide_eq_true (by omega), ref_bad]
  · rw [if_neg (by omega), if_pos he]
theorem ref_round (k : Nat) (a0 : ByteArray) (acc : List (S50)) (i : Nat) (hs : a0.size ≤ 1048576) (hi : i < a0.size) (hl : acc.length ≤ 1048576) :
    agateref02_Fields.l0 (k + 6) a0 acc i =
      if (oneS (a0.extract i a0.size)).2.2 ≠ 0 then some ([], ((oneS (a0.extract i a0.size)).2.2 : Int)) else
        agateref02_Fields.l0 k a0 (acc ++ [toR (oneS (a0.extract i a0.size)).1]) ((i + (oneS (a0.extract i a0.size)).2.1 : Nat) : Int) := by
  have hsz := extract_size' a0 i (by omega)
  obtain ⟨⟨t, n, e⟩, hr⟩ : ∃ x, vRead (a0.extract i a0.size) = x := ⟨_, rfl⟩
  rw [ref_head k a0 acc i t n e hs hi hr]
  unfold oneS
  simp only [hr]
  by_cases he : e = 0
  · subst he
    have g := vRead_pos (a0.extract i a0.size) (by rw [hr])
    rw [hr, hsz] at g
    simp only at g
    by_cases hm : 1 ≤ t / 8 ∧ t / 8 ≤ 536870911 ∧ (t % 8 = 0 ∨ t % 8 = 1 ∨ t % 8 = 2 ∨ t % 8 = 5)
    · have hnum : wrap64 (IntKind.u64.wrap (Int.tdiv (t : Int) 8)) = ((t / 8 : Nat) : Int) := by
        rw [Int.tdiv_eq_ediv_of_nonneg (by omega), u64_id (by omega) (by omega), wrap64_id (by omega) (by omega)]; omega
      have ex : (a0.extract i a0.size).extract n (a0.extract i a0.size).size = a0.extract (i + n) a0.size := by
        rw [hsz, extract_extract' _ _ _ _ (by omega), show i + (a0.size - i) = a0.size by omega]
      by_cases h2 : t % 8 = 0 ∨ t % 8 = 2
      · rw [ref_text k a0 acc (i + n) (t / 8) (t % 8) t hs (by omega) hl h2 hnum]
        simp only [ne_eq, not_true_eq_false, if_false, hm, if_pos h2, ex]
        obtain ⟨⟨y, m, f⟩, hq⟩ : ∃ x, vRead (a0.extract (i + n) a0.size) = x := ⟨_, rfl⟩
        simp only [hq, hsz]
        by_cases hf : f = 0
        · subst hf
          have g2 := vRead_pos (a0.extract (i + n) a0.size) (by rw [hq])
          rw [hq, extract_size' a0 (i + n) (by omega)] at g2
          simp only at g2
          simp only [not_true_eq_false, if_false]
          by_cases h3 : t % 8 = 0
          · simp only [h3, if_true]
            simp [Nat.add_assoc]
          · simp only [h3, if_false]
            have ex2 : (a0.extract i a0.size).extract (n + m) (n + m + y) = a0.extract (i + n + m) (i + n + m + y) ∨ a0.size - i - (n + m) < y := by
              by_cases hb : a0.size - i - (n + m) < y
              · exact .inr hb
              · left; rw [extract_extract' _ _ _ _ (by omega)]; congr 1 <;> omega
            have hbe : a0.size - (i + n + m) = a0.size - i - (n + m) := by omega
            rw [hbe]
            by_cases hb : a0.size - i - (n + m) < y
            · simp [hb]
            · rw [ex2.resolve_right hb]
              simp [hb, Nat.add_assoc]
        · simp [hf]
      · rw [ref_fix k a0 acc (i + n) (t / 8) (t % 8) t hs (by omega) hl (by omega) hnum]
        simp only [ne_eq, not_true_eq_false, if_false, hm, if_neg h2, hsz]
        generalize hz : (if t % 8 = 5 then 4 else 8) = z
        have hbe : a0.size - (i + n) = a0.size - i - n := by omega
        rw [hbe]
        by_cases hb : a0.size - i - n < z
        · simp [hb]
        · have ex2 : (a0.extract i a0.size).extract n (n + z) = a0.extract (i + n) (i + n + z) := by
            rw [extract_extract' _ _ _ _ (by omega)]; congr 1 <;> omega
          rw [ex2]
          simp [hb, Nat.add_assoc]
    · simp only [ne_eq, not_true_eq_false, if_false, hm, not_false_eq_true, if_true]
      rfl
  · simp [he]
theorem agateref02_Fields_eval (a0 : ByteArray) (hs : a0.size ≤ 1048576) (d : Nat) : ∀ (k i : Nat) (acc : List (S50)), a0.size - i ≤ d → i ≤ a0.size → acc.length ≤ i → 6 * d < k →
    agateref02_Fields.l0 k a0 acc i = some (if (fieldsF d (a0.extract i a0.size)).2 ≠ 0 then ([], ((fieldsF d (a0.extract i a0.size)).2 : Int)) else (acc ++ (fieldsF d (a0.extract i a0.size)).1.map toR, 0)) := by
  induction d with
  | zero =>
    intro k i acc hb hi hl hk
    obtain ⟨k, rfl⟩ : ∃ m, k = m + 1 := ⟨k - 1, by omega⟩
    simp only [agateref02_Fields.l0]
    rw [if_neg (by omega)]
    simp [fieldsF]
  | succ d ih =>
    intro k i acc hb hi hl hk
    have hsz := extract_size' a0 i hi
    by_cases h0 : i = a0.size
    · obtain ⟨k, rfl⟩ : ∃ m, k = m + 1 := ⟨k - 1, by omega⟩
      simp only [agateref02_Fields.l0]
      rw [if_neg (by omega)]
      have : (a0.extract i a0.size).size = 0 := by omega
      simp [fieldsF, this]
    · obtain ⟨k, rfl⟩ : ∃ m, k = m + 6 := ⟨k - 6, by omega⟩
      rw [ref_round k a0 acc i hs (by omega) (by omega), fieldsF, if_neg (show ¬ (a0.extract i a0.size).size = 0 by omega)]
      by_cases hc : (oneS (a0.extract i a0.size)).2.2 = 0
      · have g := oneS_pos (a0.extract i a0.size) hc
        have ex : (a0.extract i a0.size).extract (oneS (a0.extract i a0.size)).2.1 (a0.extract i a0.size).size = a0.extract (i + (oneS (a0.extract i a0.size)).2.1) a0.size := by
          rw [hsz, extract_extract' _ _ _ _ (by omega), show i + (a0.size - i) = a0.size by omega]
        have hcn : ¬ (oneS (a0.extract i a0.size)).2.2 ≠ 0 := fun h => h hc
        rw [ex, if_neg hcn, ih k _ _ (by omega) (by omega) (by simp; omega) (by omega), if_neg hcn]
        generalize hF : fieldsF d (a0.extract (i + (oneS (a0.extract i a0.size)).2.1) a0.size) = F
        by_cases hq : F.2 = 0
        · simp [hq]
        · simp [hq]
      · rw [if_pos hc, if_pos hc]
        simp [hc]
theorem agateref02_Fields_s.ev (a0 : ByteArray) (r) (h : agateref02_Fields_s.f a0 = some r) : ∃ k, agateref02_Fields.f k a0 = some r := by
  unfold agateref02_Fields_s.f at h
  split at h
  · rename_i hs
    rw [← h]
    unfold agateref02_Fields.f fieldsS
    by_cases hg : a0.size > 1048576
    · exact ⟨0, by rw [if_pos (by omega), if_pos hg]; rfl⟩
    · refine ⟨6 * a0.size + 1, ?_⟩
      have := agateref02_Fields_eval a0 (by omega) a0.size (6 * a0.size + 1) 0 [] (by omega) (by omega) (by simp) (by omega)
      rw [extract_self] at this
      rw [if_neg (by omega), if_neg hg]
      refine this.trans ?_
      by_cases hq : (fieldsF a0.size a0).2 = 0
      · simp [hq]
      · simp [hq, fieldsF_nil _ _ hq]
  · cases h

set_option maxHeartbeats 1000000 in
theorem agateref02_Fields_s.calls (a0 : ByteArray) (r1 : List (S50)) (r2 : Int) (w : World) (h : agateref02_Fields_s.f a0 = some (r1, r2)) :
    Calls Try.prog 22 #[.string a0] w fun e w' => ∃ v0_ : Value, e = .returned (.tuple #[v0_, .int .i64 r2]) ∧ Kd.R k50 50 w' w.heap.size (fun _ => True) v0_ r1 ∧ Below w.heap.size w w' := by
  obtain ⟨k, hk⟩ := agateref02_Fields_s.ev a0 _ h
  exact agateref02_Fields.calls k a0 r1 r2 w hk

end Go.Proofs.Ytohddbiedabmhaa.X
-- by xprint.py, a program of this session, over the kit's print.py
namespace Go.Proofs.Ytohddbiedabmhaa.X
open Go.RowKit Go.Proofs.YtohddbiedabmhaaW.PrintWords Go.Proofs.YtohddbiedabmhaaW.PrintLast Go.Proofs.YtohddbiedabmhaaW.PrintMore
attribute [local go_sem] max2_int min2_int max_two min_two max_three min_three max_four min_four   -- for this text's walks alone
set_option linter.unusedVariables false
set_option linter.unusedSimpArgs false

/-! ### wire_All: function 24 -/
def wire_All.l0 : Nat → Int → List (S47) → List (S47) → Int → Int → Option ((List (S47)))
  | 0, _, _, _, _, _ => none
  | k + 1, x1, x5, x8, x9, x10 => if x10 < x9 then (if 0 ≤ x10 then (if x10 < (x8.length : Int) then (if ((rd_T47 x8 x10).f0) = x1 then (if x5.length < 3518437208883 then (wire_All.l0 k x1 (x5 ++ [(⟨(rd_T47 x8 x10).f0, (rd_T47 x8 x10).f1, (rd_T47 x8 x10).f2, (rd_T47 x8 x10).f3⟩ : S47)]) x8 x9 (wrap64 (x10 + 1))) else (none)) else (wire_All.l0 k x1 x5 x8 x9 (wrap64 (x10 + 1)))) else (none)) else (none)) else (some x5)
def wire_All.f (k : Nat) (l0 : List (S47)) (a1 : Int) : Option ((List (S47))) := wire_All.l0 k a1 ([] : List (S47)) l0 (l0.length : Int) 0
theorem wire_All.mono_l : ∀ k, (∀ y0 y1 y2 y3 y4, LeO (wire_All.l0 k y0 y1 y2 y3 y4) (wire_All.l0 (k + 1) y0 y1 y2 y3 y4))
  | 0 => fun _ _ _ _ _ r h => by simp [wire_All.l0] at h
  | k + 1 => by
    have ih0 := wire_All.mono_l k
    · intro y0 y1 y2 y3 y4
      unfold wire_All.l0
      repeat' first
      | (with_reducible exact ih0 _ _ _ _ _)
      | (with_reducible exact LeO.refl _)
      | (with_reducible exact LeO.none _)
      | (with_reducible refine LeO.ite ?_ ?_)
      | (with_reducible refine LeO.bind ?_ (fun _ => ?_))
      | exact ih0 _ _ _ _ _
      | exact LeO.none _
      | refine LeO.ite ?_ ?_
      | refine LeO.bind ?_ (fun _ => ?_)
theorem wire_All.mono : ∀ a0 a1 k, LeO (wire_All.f k a0 a1) (wire_All.f (k + 1) a0 a1) := by
  intro a0 a1 k
  have ih0 := wire_All.mono_l k
  unfold wire_All.f
  repeat' first
      | (with_reducible exact ih0 _ _ _ _ _)
      | (with_reducible exact LeO.refl _)
      | (with_reducible exact LeO.none _)
      | (with_reducible refine LeO.ite ?_ ?_)
      | (with_reducible refine LeO.bind ?_ (fun _ => ?_))
      | exact ih0 _ _ _ _ _
      | exact LeO.none _
      | refine LeO.ite ?_ ?_
      | refine LeO.bind ?_ (fun _ => ?_)
set_option maxHeartbeats 8000000 in
set_option maxRecDepth 100000 in
theorem wire_All.calls (k : Nat) (A0 : Option Addr) (c0 : Nat) (l0 : List (S47)) (a1 : Int) (r : List (S47)) (w : World) (hr0 : Kd.C k47 w A0 l0.length l0) (hc0 : l0.length ≤ c0) (h : wire_All.f k l0 a1 = some r) :
    Calls Try.prog 24 #[.slice A0 l0.length c0, .int .i64 a1] w fun e w' => ∃ v0_ : Value, e = .returned (v0_) ∧ Kd.R k47 47 w' w.heap.size (fun _ => True) v0_ r ∧ Below w.heap.size w w' := by
  have hu47 := Try.underlying47
  have HR0 := Aside0.mk hr0
  have HC0 := Aside0.mk hc0
  clear hr0 hc0
  have HB := Aside0.mk (Below.refl w.heap.size w)
  have H : (wire_All.l0 k a1 ([] : List (S47)) l0 (l0.length : Int) 0) = some r := h
  clear h
  have H' := Aside0.mk H
  clear H
  go_enter Try.func24, Try.ntmps24
  go_wp2
  go_loopg [5, 10] k (fun kq v5 v10 w' => ∃ (x5_1 : List (S47)) (x10_1 : Int), v10 = .int .i64 x10_1 ∧ Aside0 (wire_All.l0 kq a1 x5_1 l0 (l0.length : Int) x10_1 = some r) ∧ Aside0 (kq ≤ k) ∧ Aside0 (Kd.R k47 47 w' w.heap.size (fun _ => True) v5 x5_1) ∧ Aside0 (Below w.heap.size w w'))
  case atStart => exact ⟨(([] : List (S47))), (0), (by first | rfl | (simp; done) | (simp [*]; done)), H', ⟨Nat.le_refl _⟩, ⟨by first | exact Kd.R_nil _ _ _ _ _ | exact Kd.N_nil _ _ _ _ _ | exact Kd.V_nil _ _ _ _ _ | exact Kd.Q_nil _ _ _ _ _ | exact Kd.S_nil _ _ _ _ _⟩, ⟨by repeat (first | (with_reducible first | exact HB.out | apply below_alloc | apply pw_below_drewN | apply below_drew1) | exact HB.out)⟩⟩
  case round =>
    clear H'
    try clear c2
    try clear p2
    obtain ⟨x5_1, x10_1, rfl, HA, HK1, HO_5, HB⟩ := hrel
    cases gk with
    | zero => exact absurd HA.out (by simp [wire_All.l0])
    | succ k1 =>
      have H := HA.out
      clear HA
      simp only [wire_All.l0] at H
      by_cases c3 : x10_1 < (l0.length : Int)
      · rw [if_pos c3] at H
        have c3b0 : decide (x10_1 < (l0.length : Int)) = true := decide_eq_true c3
        clear c3
        by_cases c4 : 0 ≤ x10_1
        · rw [if_pos c4] at H
          have c4b0 : decide (0 ≤ x10_1) = true := decide_eq_true c4
          clear c4
          by_cases c5 : x10_1 < (l0.length : Int)
          · rw [if_pos c5] at H
            have c5b0 : decide (x10_1 < (l0.length : Int)) = true := decide_eq_true c5
            clear c5
            by_cases c6 : ((rd_T47 l0 x10_1).f0) = a1
            · rw [if_pos c6] at H
              have c6b0 : (((rd_T47 l0 x10_1).f0) == a1) = true := beq_iff_eq.mpr c6
              have c6b1 : (((rd_T47 l0 x10_1).f0) != a1) = false := bne_eq_false_iff_eq.mpr c6
              clear c6
              by_cases c7 : x5_1.length < 3518437208883
              · rw [if_pos c7] at H
                have LMc7 := Aside0.mk c7
                clear c7
                obtain ⟨y103, hy103⟩ : ∃ y_ : List (S47), y_ = (x5_1 ++ [(⟨(rd_T47 l0 x10_1).f0, (rd_T47 l0 x10_1).f1, (rd_T47 l0 x10_1).f2, (rd_T47 l0 x10_1).f3⟩ : S47)]) := ⟨_, rfl⟩
                replace H : (wire_All.l0 k1 a1 y103 l0 (l0.length : Int) (wrap64 (x10_1 + 1))) = some r := by first | (rw [hy103]; with_reducible exact H) | (have H2_ := (Option.bind_some _ _).symm.trans H; rw [hy103]; with_reducible exact H2_) | (have H2_ := (Option.bind_some _ _).symm.trans H; with_reducible exact H2_) | with_reducible exact H | (rw [hy103]; exact H) | exact H
                have Ny103 := Aside0.mk hy103
                clear hy103
                have H' := Aside0.mk H
                clear H
                have p101 : 0 ≤ (x10_1 : Int) := of_decide_eq_true (by first | (with_reducible assumption) | assumption)
                have q101 : x10_1 < (l0.length : Int) := of_decide_eq_true (by first | (with_reducible assumption) | assumption)
                obtain ⟨ad101, e101, hx101_0, hx101_1, hx101_2, hx101_3⟩ := at_T47 HR0.out x10_1 p101 q101
                cases e101
                replace hx101_0 := (HB.out.cell (World.block_lt_of_cell? w _ hx101_0)).trans hx101_0
                replace hx101_1 := (HB.out.cell (World.block_lt_of_cell? w _ hx101_1)).trans hx101_1
                replace hx101_2 := (HB.out.cell (World.block_lt_of_cell? w _ hx101_2)).trans hx101_2
                replace hx101_3 := (HB.out.cell (World.block_lt_of_cell? w _ hx101_3)).trans hx101_3
                replace p101 := eq_true p101
                replace q101 := eq_true q101
                go_wp2_with (first | ((with_reducible refine gate_dst (N := 7) rfl ?_); refine box_event ?hg (N := 7) ?hd (cs := #[.int .i64 0, .int .i64 0, .int .u64 0, .string (⟨#[]⟩ : ByteArray)]) (t := 47) ?hr ?_; (case hd => rfl); (case hg => rfl); (case hr => first | (go_simp; done) | (go_simp; rfl)); intro gb102 hg w8 hbox hb; have n0_ := Aside0.mk (Kd.R_below (Kd.R_elderB (by (with_reducible repeat (first | apply Kd.R_alloc | apply Kd.R_drewN | apply Kd.R_drew)); exact HO_5.out) gb102 (Nat.le_of_eq hg.symm)) hb); have n1_ := Aside0.mk (below_step (by repeat (first | (with_reducible first | exact HB.out | apply below_alloc | apply pw_below_drewN | apply below_drew1) | exact HB.out)) hb); have n2_ := Aside0.mk (hbox); have n3_ := Aside0.mk ((by rw [hg]; exact (below_size (by repeat (first | (with_reducible first | exact HB.out | apply below_alloc | apply pw_below_drewN | apply below_drew1) | exact HB.out))) : w.heap.size ≤ gb102)); have n4_ := Aside0.mk ((by rw [hg]; exact (below_size (by repeat (first | (with_reducible first | exact HB.out | apply below_alloc | apply pw_below_drewN | apply below_drew1) | exact HB.out))) : w.heap.size ≤ gb102)); clear HO_5; clear HB; have HO_5 := n0_; have HB := n1_; have BK102 := n2_; have GW102 := n3_; have GE102 := n4_; clear n0_ n1_ n2_ n3_ n4_; clear hb hbox hg; have hcz9_0 : w8.cell? ⟨gb102, 0, none⟩ = some (.int .i64 0) := (blk_cell BK102.out 0).trans rfl; have hcz9_1 : w8.cell? ⟨gb102, 1, none⟩ = some (.int .i64 0) := (blk_cell BK102.out 1).trans rfl; have hcz9_2 : w8.cell? ⟨gb102, 2, none⟩ = some (.int .u64 0) := (blk_cell BK102.out 2).trans rfl; have hcz9_3 : w8.cell? ⟨gb102, 3, none⟩ = some (.string (⟨#[]⟩ : ByteArray)) := (blk_cell BK102.out 3).trans rfl; have hfz9_0 := blk_frozen BK102.out 0; have hfz9_1 := blk_frozen BK102.out 1; have hfz9_2 := blk_frozen BK102.out 2; have hfz9_3 := blk_frozen BK102.out 3) | ((with_reducible refine gate_builtin (b := .append) (xs := #[.tmp 18, .tmp 20]) rfl ?_); at_builtin; refine Kd.R_append k47 (w0 := w) w.heap.size rfl (.tmp 18) (.tmp 20) 37 47 (.agg #[(.int .i64 0), (.int .i64 0), (.int .u64 0), (.string ⟨#[]⟩)]) 40 rfl Try.underlying37 info47 rfl (by decide) (by omega) u5 x5_1 (⟨(rd_T47 l0 x10_1).f0, (rd_T47 l0 x10_1).f1, (rd_T47 l0 x10_1).f2, (rd_T47 l0 x10_1).f3⟩ : S47) [.int .i64 ((rd_T47 l0 x10_1).f0), .int .i64 ((rd_T47 l0 x10_1).f1), .int .u64 ((rd_T47 l0 x10_1).f2), .string ((rd_T47 l0 x10_1).f3)] (fun k_ => k_ ≠ gb102) (fun _ => False) rfl (by first | (go_simp; done) | (go_simp; rfl)) ?aP (fun _ hk => hk.elim) ?aF ?aO ?aB ?aS ?aL ?_; (case aP => exact k47_mkM _ _ _ (⟨(rd_T47 l0 x10_1).f0, (rd_T47 l0 x10_1).f1, (rd_T47 l0 x10_1).f2, (rd_T47 l0 x10_1).f3⟩ : S47)); (case aB => exact (by repeat (first | (with_reducible first | exact HB.out | apply below_alloc | apply pw_below_drewN | apply below_drew1 | refine below_set ?_ GE102.out) | exact HB.out))); (case aF => exact (fun k_ hk => Kd.freshB (g := gb102) (o := .cells #[.int .i64 ((rd_T47 l0 x10_1).f0), .int .i64 ((rd_T47 l0 x10_1).f1), .int .u64 ((rd_T47 l0 x10_1).f2), .string ((rd_T47 l0 x10_1).f3)] 47 (0, 0)) (by (with_reducible repeat (first | refine blk_drewN ?_ _ | refine blk_drew ?_ | refine blk_alloc ?_ _)); refine blk_put (cs := #[.int .i64 ((rd_T47 l0 x10_1).f0), .int .i64 ((rd_T47 l0 x10_1).f1), .int .u64 ((rd_T47 l0 x10_1).f2), .string (⟨#[]⟩ : ByteArray)]) ?_ 3 _ rfl; (with_reducible repeat (first | refine blk_drewN ?_ _ | refine blk_drew ?_ | refine blk_alloc ?_ _)); refine blk_put (cs := #[.int .i64 ((rd_T47 l0 x10_1).f0), .int .i64 ((rd_T47 l0 x10_1).f1), .int .u64 0, .string (⟨#[]⟩ : ByteArray)]) ?_ 2 _ rfl; (with_reducible repeat (first | refine blk_drewN ?_ _ | refine blk_drew ?_ | refine blk_alloc ?_ _)); refine blk_put (cs := #[.int .i64 ((rd_T47 l0 x10_1).f0), .int .i64 0, .int .u64 0, .string (⟨#[]⟩ : ByteArray)]) ?_ 1 _ rfl; (with_reducible repeat (first | refine blk_drewN ?_ _ | refine blk_drew ?_ | refine blk_alloc ?_ _)); refine blk_put (cs := #[.int .i64 0, .int .i64 0, .int .u64 0, .string (⟨#[]⟩ : ByteArray)]) ?_ 0 _ rfl; (with_reducible repeat (first | refine blk_drewN ?_ _ | refine blk_drew ?_ | refine blk_alloc ?_ _)); exact BK102.out) k_ hk)); (case aO => exact (by (with_reducible repeat (first | apply Kd.R_alloc | apply Kd.R_drewN | apply Kd.R_drew)); exact Kd.R_mono (Kd.R_far (p := ⟨gb102, 3, none⟩) (Kd.R_far (p := ⟨gb102, 2, none⟩) (Kd.R_far (p := ⟨gb102, 1, none⟩) (Kd.R_far (p := ⟨gb102, 0, none⟩) (Kd.R_mono HO_5.out (fun k_ hk => (⟨hk, hk.2⟩ : _ ∧ k_ ≠ gb102))) (fun _ hk => hk.2) (.int .i64 ((rd_T47 l0 x10_1).f0))) (fun _ hk => hk.2) (.int .i64 ((rd_T47 l0 x10_1).f1))) (fun _ hk => hk.2) (.int .u64 ((rd_T47 l0 x10_1).f2))) (fun _ hk => hk.2) (.string ((rd_T47 l0 x10_1).f3))) (fun _ hk => hk.1.2))); (case aS => exact (below_size (by repeat (first | (with_reducible first | exact HB.out | apply below_alloc | apply pw_below_drewN | apply below_drew1 | refine below_set ?_ GE102.out) | exact HB.out)))); (case aL => have := LMc7.out; omega); intro v104 w10 ho hb hg hat; rw [← Ny103.out] at ho; have n0_ := Aside0.mk (blk_grown (g := gb102) (o := .cells #[.int .i64 ((rd_T47 l0 x10_1).f0), .int .i64 ((rd_T47 l0 x10_1).f1), .int .u64 ((rd_T47 l0 x10_1).f2), .string ((rd_T47 l0 x10_1).f3)] 47 (0, 0)) (by (with_reducible repeat (first | refine blk_drewN ?_ _ | refine blk_drew ?_ | refine blk_alloc ?_ _)); refine blk_put (cs := #[.int .i64 ((rd_T47 l0 x10_1).f0), .int .i64 ((rd_T47 l0 x10_1).f1), .int .u64 ((rd_T47 l0 x10_1).f2), .string (⟨#[]⟩ : ByteArray)]) ?_ 3 _ rfl; (with_reducible repeat (first | refine blk_drewN ?_ _ | refine blk_drew ?_ | refine blk_alloc ?_ _)); refine blk_put (cs := #[.int .i64 ((rd_T47 l0 x10_1).f0), .int .i64 ((rd_T47 l0 x10_1).f1), .int .u64 0, .string (⟨#[]⟩ : ByteArray)]) ?_ 2 _ rfl; (with_reducible repeat (first | refine blk_drewN ?_ _ | refine blk_drew ?_ | refine blk_alloc ?_ _)); refine blk_put (cs := #[.int .i64 ((rd_T47 l0 x10_1).f0), .int .i64 0, .int .u64 0, .string (⟨#[]⟩ : ByteArray)]) ?_ 1 _ rfl; (with_reducible repeat (first | refine blk_drewN ?_ _ | refine blk_drew ?_ | refine blk_alloc ?_ _)); refine blk_put (cs := #[.int .i64 0, .int .i64 0, .int .u64 0, .string (⟨#[]⟩ : ByteArray)]) ?_ 0 _ rfl; (with_reducible repeat (first | refine blk_drewN ?_ _ | refine blk_drew ?_ | refine blk_alloc ?_ _)); exact BK102.out) hg (Kd.R_away HO_5.out (fun _ hk => hk.2))); have n1_ := Aside0.mk (hb); have n2_ := Aside0.mk (ho); clear BK102; clear HB; clear HO_5; have BK102 := n0_; have HB := n1_; have HO105 := n2_; clear n0_ n1_ n2_; clear ho hb hg hat))
                go_roundg k1
                case measure => have := HK1.out; omega
                case rel => exact ⟨(y103), (wrap64 (x10_1 + 1)), (by first | rfl | (simp; done) | (simp [*]; done)), H', ⟨by have := HK1.out; omega⟩, ⟨by (with_reducible repeat (first | apply Kd.R_alloc | apply Kd.R_drewN | apply Kd.R_drew)); exact Kd.R_mono HO105.out (fun _ hk => trivial)⟩, ⟨by repeat (first | (with_reducible first | exact HB.out | apply below_alloc | apply pw_below_drewN | apply below_drew1 | refine below_set ?_ GE102.out) | exact HB.out)⟩⟩
              · rw [if_neg c7] at H
                exact absurd H (by simp)
            · rw [if_neg c6] at H
              have c6b0 : (((rd_T47 l0 x10_1).f0) == a1) = false := beq_eq_false_iff_ne.mpr c6
              have c6b1 : (((rd_T47 l0 x10_1).f0) != a1) = true := bne_iff_ne.mpr c6
              have H' := Aside0.mk H
              clear H
              have p101 : 0 ≤ (x10_1 : Int) := of_decide_eq_true (by first | (with_reducible assumption) | assumption)
              have q101 : x10_1 < (l0.length : Int) := of_decide_eq_true (by first | (with_reducible assumption) | assumption)
              obtain ⟨ad101, e101, hx101_0, hx101_1, hx101_2, hx101_3⟩ := at_T47 HR0.out x10_1 p101 q101
              cases e101
              replace hx101_0 := (HB.out.cell (World.block_lt_of_cell? w _ hx101_0)).trans hx101_0
              replace hx101_1 := (HB.out.cell (World.block_lt_of_cell? w _ hx101_1)).trans hx101_1
              replace hx101_2 := (HB.out.cell (World.block_lt_of_cell? w _ hx101_2)).trans hx101_2
              replace hx101_3 := (HB.out.cell (World.block_lt_of_cell? w _ hx101_3)).trans hx101_3
              replace p101 := eq_true p101
              replace q101 := eq_true q101
              go_wp2_with (first | ((with_reducible refine gate_dst (N := 7) rfl ?_); refine box_event ?hg (N := 7) ?hd (cs := #[.int .i64 0, .int .i64 0, .int .u64 0, .string (⟨#[]⟩ : ByteArray)]) (t := 47) ?hr ?_; (case hd => rfl); (case hg => rfl); (case hr => first | (go_simp; done) | (go_simp; rfl)); intro gb102 hg w11 hbox hb; have n0_ := Aside0.mk (Kd.R_below (Kd.R_elderB (by (with_reducible repeat (first | apply Kd.R_alloc | apply Kd.R_drewN | apply Kd.R_drew)); exact HO_5.out) gb102 (Nat.le_of_eq hg.symm)) hb); have n1_ := Aside0.mk (below_step (by repeat (first | (with_reducible first | exact HB.out | apply below_alloc | apply pw_below_drewN | apply below_drew1) | exact HB.out)) hb); have n2_ := Aside0.mk (hbox); have n3_ := Aside0.mk ((by rw [hg]; exact (below_size (by repeat (first | (with_reducible first | exact HB.out | apply below_alloc | apply pw_below_drewN | apply below_drew1) | exact HB.out))) : w.heap.size ≤ gb102)); have n4_ := Aside0.mk ((by rw [hg]; exact (below_size (by repeat (first | (with_reducible first | exact HB.out | apply below_alloc | apply pw_below_drewN | apply below_drew1) | exact HB.out))) : w.heap.size ≤ gb102)); clear HO_5; clear HB; have HO_5 := n0_; have HB := n1_; have BK102 := n2_; have GW102 := n3_; have GE102 := n4_; clear n0_ n1_ n2_ n3_ n4_; clear hb hbox hg; have hcz12_0 : w11.cell? ⟨gb102, 0, none⟩ = some (.int .i64 0) := (blk_cell BK102.out 0).trans rfl; have hcz12_1 : w11.cell? ⟨gb102, 1, none⟩ = some (.int .i64 0) := (blk_cell BK102.out 1).trans rfl; have hcz12_2 : w11.cell? ⟨gb102, 2, none⟩ = some (.int .u64 0) := (blk_cell BK102.out 2).trans rfl; have hcz12_3 : w11.cell? ⟨gb102, 3, none⟩ = some (.string (⟨#[]⟩ : ByteArray)) := (blk_cell BK102.out 3).trans rfl; have hfz12_0 := blk_frozen BK102.out 0; have hfz12_1 := blk_frozen BK102.out 1; have hfz12_2 := blk_frozen BK102.out 2; have hfz12_3 := blk_frozen BK102.out 3))
              go_roundg k1
              case measure => have := HK1.out; omega
              case rel => exact ⟨(x5_1), (wrap64 (x10_1 + 1)), (by first | rfl | (simp; done) | (simp [*]; done)), H', ⟨by have := HK1.out; omega⟩, ⟨by (with_reducible repeat (first | apply Kd.R_alloc | apply Kd.R_drewN | apply Kd.R_drew)); exact Kd.R_mono (Kd.R_far (p := ⟨gb102, 3, none⟩) (Kd.R_far (p := ⟨gb102, 2, none⟩) (Kd.R_far (p := ⟨gb102, 1, none⟩) (Kd.R_far (p := ⟨gb102, 0, none⟩) (Kd.R_mono HO_5.out (fun k_ hk => (⟨hk, hk.2⟩ : _ ∧ k_ ≠ gb102))) (fun _ hk => hk.2) (.int .i64 ((rd_T47 l0 x10_1).f0))) (fun _ hk => hk.2) (.int .i64 ((rd_T47 l0 x10_1).f1))) (fun _ hk => hk.2) (.int .u64 ((rd_T47 l0 x10_1).f2))) (fun _ hk => hk.2) (.string ((rd_T47 l0 x10_1).f3))) (fun _ hk => trivial)⟩, ⟨by repeat (first | (with_reducible first | exact HB.out | apply below_alloc | apply pw_below_drewN | apply below_drew1 | refine below_set ?_ GE102.out) | exact HB.out)⟩⟩
          · rw [if_neg c5] at H
            exact absurd H (by simp)
        · rw [if_neg c4] at H
          exact absurd H (by simp)
      · rw [if_neg c3] at H
        have c3b0 : decide (x10_1 < (l0.length : Int)) = false := decide_eq_false c3
        clear c3
        obtain rfl := Option.some.inj H
        go_wp2
        go_ret
        exact ⟨_, by first | rfl | (simp [errW_none, errW_some] <;> rfl) | (simp [*, errW_none, errW_some] <;> rfl), by (with_reducible repeat (first | apply Kd.R_alloc | apply Kd.R_drewN | apply Kd.R_drew)); exact HO_5.out, by repeat (first | (with_reducible first | exact HB.out | apply below_alloc | apply pw_below_drewN | apply below_drew1) | exact HB.out)⟩

end Go.Proofs.Ytohddbiedabmhaa.X
