import Derived.Test.YtdemgfbolcmcdaaMOpsTell2
import Derived.Test.YtdemgfbolcmcdaaMOpsTell3
import Derived.Test.YtdemgfbolcmcdaaMOpsTell13
import Derived.Test.YtdemgfbolcmcdaaMOpsTell10
import Derived.Test.YtdemgfbolcmcdaaMOpsTell7
import Derived.Test.YtdemgfbolcmcdaaMOpsTell4
import Derived.Test.YtdemgfbolcmcdaaMOpsTell14
import Derived.Test.YtdemgfbolcmcdaaMOpsTell15
import Derived.Test.YtdemgfbolcmcdaaMOpsTell11
import Derived.Test.YtdemgfbolcmcdaaMOpsTell12
import Derived.Test.YtdemgfbolcmcdaaMOpsTell16
import Derived.Test.YtdemgfbolcmcdaaRows
import Derived.WalkKit
import Derived.ProofKit
import Derived.OpenShut
import Derived.ShutString
import Derived.ChangeOld
import Derived.Below
import Derived.SizedLaws
import Derived.Carry
namespace Go.Proofs.Ytdemgfbolcmcdaa.X
open Go.RowKit Go.Proofs.YtdemgfbolcmcdaaW.PrintWords Go.Proofs.YtdemgfbolcmcdaaW.PrintLast Go.Proofs.YtdemgfbolcmcdaaW.PrintMore
attribute [local go_sem] max2_int min2_int max_two min_two max_three min_three max_four min_four
set_option linter.unusedVariables false
set_option linter.unusedSimpArgs false
def agatelaw07_Of.f (a0_0 : ByteArray) (a0_1 : Int) (l0_2 : List Int) (a0_3 : ByteArray) : Option (ByteArray × Int × List Int × ByteArray) := some (a0_0, a0_1, l0_2, a0_3)
end Go.Proofs.Ytdemgfbolcmcdaa.X
namespace Go.Proofs.Ytdemgfbolcmcdaa.X
open Go.RowKit Go.Proofs.YtdemgfbolcmcdaaW.PrintWords Go.Proofs.YtdemgfbolcmcdaaW.PrintLast Go.Proofs.YtdemgfbolcmcdaaW.PrintMore
attribute [local go_sem] max2_int min2_int max_two min_two max_three min_three max_four min_four
set_option linter.unusedVariables false
set_option linter.unusedSimpArgs false
def agatelaw10_Infos.l0 : Nat → List (S130) → List (S79) → Int → Int → Option ((List (S130)))
 | 0, _, _, _, _ => none
 | k + 1, x3, x6, x7, x8 => if x8 < x7 then (if 0 ≤ x8 then (if x8 < (x6.length : Int) then (if x3.length < 2932031007402 then (agatelaw10_Infos.l0 k (x3 ++ [(⟨(rd_T79 x6 x8).f0, (rd_T79 x6 x8).f1, (rd_T79 x6 x8).f2⟩ : S130)]) x6 x7 (wrap64 (x8 + 1))) else (none)) else (none)) else (none)) else (some x3)
end Go.Proofs.Ytdemgfbolcmcdaa.X
namespace Go.Proofs.Ytdemgfbolcmcdaa.X
open Go.RowKit Go.Proofs.YtdemgfbolcmcdaaW.PrintWords Go.Proofs.YtdemgfbolcmcdaaW.PrintLast Go.Proofs.YtdemgfbolcmcdaaW.PrintMore
attribute [local go_sem] max2_int min2_int max_two min_two max_three min_three max_four min_four
set_option linter.unusedVariables false
set_option linter.unusedSimpArgs false
mutual
def agatelaw10_Of.l0 : Nat → List (S51) → Int → Int → Int → List (S79) → List (S79) → List (S51) → List (S33) → Int → List (S130) → List (S130) → List (S63) → Option (Int × (List (S130)) × (List (S130)) × (List (S63)) × (List (S41)))
 | 0, _, _, _, _, _, _, _, _, _, _, _, _ => none
 | k + 1, x18, x19, x20, x102000, x102001, x102002, x102003, x102004, x110000, x110001, x110002, x110003 => if x20 < x19 then (if 0 ≤ x20 then (if x20 < (x18.length : Int) then ((agatelaw07_Of.f ((rd_T51 x18 x20).f0) ((rd_T51 x18 x20).f1) ((rd_T51 x18 x20).f2) ((rd_T51 x18 x20).f3)).bind fun bt112 => (if x110003.length < 2199023255552 then (agatelaw10_Of.l0 k x18 x19 (wrap64 (x20 + 1)) x102000 x102001 x102002 x102003 x102004 x110000 x110001 x110002 (x110003 ++ [(⟨bt112.1, bt112.2.1, bt112.2.2.1, bt112.2.2.2⟩ : S63)])) else (none))) else (none)) else (none)) else (agatelaw10_Of.l1 k x102004 (x102004.length : Int) 0 x110000 x110001 x110002 x110003 ([] : List (S41)))
def agatelaw10_Of.l1 : Nat → List (S33) → Int → Int → Int → List (S130) → List (S130) → List (S63) → List (S41) → Option (Int × (List (S130)) × (List (S130)) × (List (S63)) × (List (S41)))
 | 0, _, _, _, _, _, _, _, _ => none
 | k + 1, x33, x34, x35, x110000, x110001, x110002, x110003, x110004 => if x35 < x34 then (if 0 ≤ x35 then (if x35 < (x33.length : Int) then ((agatelaw10_Node.f k ((rd_T33 x33 x35).f0) ((rd_T33 x33 x35).f1) ((rd_T33 x33 x35).f2) ((rd_T33 x33 x35).f3)).bind fun bt123 => (if x110004.length < 1759218604441 then (agatelaw10_Of.l1 k x33 x34 (wrap64 (x35 + 1)) x110000 x110001 x110002 x110003 (x110004 ++ [(⟨bt123.1, bt123.2.1, bt123.2.2.1, bt123.2.2.2⟩ : S41)])) else (none))) else (none)) else (none)) else (some (x110000, x110001, x110002, x110003, x110004))
end
end Go.Proofs.Ytdemgfbolcmcdaa.X
namespace Go.Proofs.Ytdemgfbolcmcdaa.X
open Go.RowKit Go.Proofs.YtdemgfbolcmcdaaW.PrintWords Go.Proofs.YtdemgfbolcmcdaaW.PrintLast Go.Proofs.YtdemgfbolcmcdaaW.PrintMore
attribute [local go_sem] max2_int min2_int max_two min_two max_three min_three max_four min_four
set_option linter.unusedVariables false
set_option linter.unusedSimpArgs false
def agateref10_Ints.l0 : Nat → List Int → List Int → Int → Option (Bool)
 | 0, _, _, _ => none
 | k + 1, x0, x1, x5 => if x5 < (x0.length : Int) then (if 0 ≤ x5 then (if x5 < (x1.length : Int) then (if (rd x0 x5) = (rd x1 x5) then (agateref10_Ints.l0 k x0 x1 (wrap64 (x5 + 1))) else (some false)) else (none)) else (none)) else (some true)
end Go.Proofs.Ytdemgfbolcmcdaa.X
namespace Go.Proofs.Ytdemgfbolcmcdaa.X
open Go.RowKit Go.Proofs.YtdemgfbolcmcdaaW.PrintWords Go.Proofs.YtdemgfbolcmcdaaW.PrintLast Go.Proofs.YtdemgfbolcmcdaaW.PrintMore
attribute [local go_sem] max2_int min2_int max_two min_two max_three min_three max_four min_four
set_option linter.unusedVariables false
set_option linter.unusedSimpArgs false
end Go.Proofs.Ytdemgfbolcmcdaa.X
namespace Go.Proofs.Ytdemgfbolcmcdaa.X
open Go.RowKit Go.Proofs.YtdemgfbolcmcdaaW.PrintWords Go.Proofs.YtdemgfbolcmcdaaW.PrintLast Go.Proofs.YtdemgfbolcmcdaaW.PrintMore
attribute [local go_sem] max2_int min2_int max_two min_two max_three min_three max_four min_four
set_option linter.unusedVariables false
set_option linter.unusedSimpArgs false
def agateref10_Init.l0 : Nat → List (S63) → ByteArray → Int → Option (Int)
  | 0, _, _, _ => none
  | k + 1, x0, x1, x5 => if x5 < (x0.length : Int) then (if 0 ≤ x5 then (if ((rd_T63 x0 x5).f0).toList = x1.toList then (some x5) else (agateref10_Init.l0 k x0 x1 (wrap64 (x5 + 1)))) else (none)) else (some (-1))
end Go.Proofs.Ytdemgfbolcmcdaa.X
namespace Go.Proofs.Ytdemgfbolcmcdaa.X
open Go.RowKit Go.Proofs.YtdemgfbolcmcdaaW.PrintWords Go.Proofs.YtdemgfbolcmcdaaW.PrintLast Go.Proofs.YtdemgfbolcmcdaaW.PrintMore
attribute [local go_sem] max2_int min2_int max_two min_two max_three min_three max_four min_four
set_option linter.unusedVariables false
set_option linter.unusedSimpArgs false
def toA (x : S35) : S47 := ⟨x.f0, x.f1, x.f2, x.f3⟩
theorem node_l0 (l : List S35) (hl : l.length < 2513169434916) (a : ByteArray) (b : List ByteArray) (c : ByteArray) (d : Nat) : ∀ (k i : Nat), l.length - i = d → i ≤ l.length → d < k →
    agatelaw10_Node.l0 k l (l.length : Int) (i : Int) a b c ((l.take i).map toA) = some (a, b, c, l.map toA) := by
  induction d with
  | zero =>
    intro k i hdd hi hk
    obtain ⟨k, rfl⟩ : ∃ m, k = m + 1 := ⟨k - 1, by omega⟩
    simp only [agatelaw10_Node.l0]
    rw [if_neg (by omega), List.take_of_length_le (by omega)]
  | succ d ih =>
    intro k i hdd hi hk
    obtain ⟨k, rfl⟩ : ∃ m, k = m + 1 := ⟨k - 1, by omega⟩
    have hlt : i < l.length := by omega
    have e0 : rd_T35 l (i : Int) = l[i] := by simp [rd_T35, hlt]
    have ih' := ih k (i + 1) (by omega) (by omega) (by omega)
    simp only [agatelaw10_Node.l0]
    rw [if_pos (by omega), if_pos (by omega), if_pos (by omega), if_pos (by rw [List.length_map, List.length_take]; omega), e0, wrap64_id (by omega) (by omega)]
    rw [List.take_succ_eq_append_getElem hlt, List.map_append] at ih'
    exact ih'
theorem node_f (l : List S35) (hl : l.length < 2513169434916) (a : ByteArray) (b : List ByteArray) (c : ByteArray) (k : Nat) (hk : l.length < k) : agatelaw10_Node.f k a b c l = some (a, b, c, l.map toA) := by
  have h := node_l0 l hl a b c l.length k 0 (by omega) (by omega) hk
  exact h
theorem find_l0 (l : List S47) (hl : l.length < 9223372036854775807) (nm : ByteArray) (d : Nat) : ∀ (k i : Nat), l.length - i = d → i ≤ l.length → d < k →
    agateref10_Find.l0 k l nm (i : Int) = some (idxS ((l.drop i).map (fun x => x.f0)) nm i) := by
  induction d with
  | zero =>
    intro k i hdd hi hk
    obtain ⟨k, rfl⟩ : ∃ m, k = m + 1 := ⟨k - 1, by omega⟩
    simp only [agateref10_Find.l0]
    rw [if_neg (by omega), List.drop_of_length_le (by omega)]; rfl
  | succ d ih =>
    intro k i hdd hi hk
    obtain ⟨k, rfl⟩ : ∃ m, k = m + 1 := ⟨k - 1, by omega⟩
    have hlt : i < l.length := by omega
    have e0 : rd_T47 l (i : Int) = l[i] := by simp [rd_T47, hlt]
    have ih' := ih k (i + 1) (by omega) (by omega) (by omega)
    simp only [agateref10_Find.l0]
    rw [if_pos (by omega), if_pos (by omega), e0, List.drop_eq_getElem_cons hlt, List.map_cons, idxS]
    by_cases hx : l[i].f0 = nm
    · rw [if_pos (by rw [hx]), if_pos hx]
    · rw [if_neg (fun h => hx (toList_inj.1 h)), if_neg hx, wrap64_id (by omega) (by omega)]
      exact ih'
theorem find_f (l : List S47) (hl : l.length < 9223372036854775807) (nm : ByteArray) (k : Nat) (hk : l.length < k) : agateref10_Find.f k l nm = some (idxS (l.map (fun x => x.f0)) nm 0) := by
  have h := find_l0 l hl nm l.length k 0 (by omega) (by omega) hk
  exact h
end Go.Proofs.Ytdemgfbolcmcdaa.X
namespace Go.Proofs.Ytdemgfbolcmcdaa.X
open Go.RowKit Go.Proofs.YtdemgfbolcmcdaaW.PrintWords Go.Proofs.YtdemgfbolcmcdaaW.PrintLast Go.Proofs.YtdemgfbolcmcdaaW.PrintMore
attribute [local go_sem] max2_int min2_int max_two min_two max_three min_three max_four min_four
set_option linter.unusedVariables false
set_option linter.unusedSimpArgs false
def toR (x : S90) : S91 := ⟨x.f0, x.f1, x.f2⟩
def eqR : List S90 → List S91 → Bool
  | [], [] => true
  | x :: s, y :: t => (x.f0.toList == y.f0.toList) && (x.f1 == y.f1) && (x.f2 == y.f2) && eqR s t
  | [], _ :: _ => false
  | _ :: _, [] => false
theorem eqR_map : ∀ s t, eqR s t = true → t = s.map toR
  | [], [], _ => rfl
  | ⟨x0, x1, x2⟩ :: s, ⟨y0, y1, y2⟩ :: t, h => by
    simp only [eqR, Bool.and_eq_true, beq_iff_eq] at h
    obtain ⟨⟨⟨h0, h1⟩, h2⟩, h3⟩ := h
    rw [List.map_cons, ← eqR_map s t h3, ← h1, ← h2, ← toList_inj.1 h0]; rfl
  | [], _ :: _, h => by cases h
  | _ :: _, [], h => by cases h
def distinct : List ByteArray → Bool
  | [] => true
  | x :: t => (t.all fun y => !(x.toList == y.toList)) && distinct t
def agree (op : ByteArray) (o : Int) : Bool :=
  match ops_Find.f 60 op o, agateref13_Find.f 60 op o, ops_Rows.f 60 op o, agateref13_Rows.f 60 op o with
  | some (a, b, rs, ok), some (_, _, _, a', b', rs', ok'), some l, some l' => (a == a') && (b == b') && (ok == ok') && eqR rs rs' && decide (rs.length ≤ 3) && distinct (rs.map (·.f0)) && (l == l') && decide (l.length ≤ 3)
  | _, _, _, _ => false
def Agree (op : ByteArray) (o : Int) : Prop := ∃ (a b : Int) (rs : List S90) (ok : Bool) (o' : ByteArray) (f t : Int) (l : List Int),
  (∀ k, 60 ≤ k → ops_Find.f k op o = some (a, b, rs, ok)) ∧ (∀ k, 60 ≤ k → agateref13_Find.f k op o = some (o', f, t, a, b, rs.map toR, ok)) ∧ rs.length ≤ 3 ∧ distinct (rs.map (·.f0)) = true ∧
  (∀ k, 60 ≤ k → ops_Rows.f k op o = some l) ∧ (∀ k, 60 ≤ k → agateref13_Rows.f k op o = some l) ∧ l.length ≤ 3
theorem agree_Agree (op : ByteArray) (o : Int) (h : agree op o = true) : Agree op o := by
  unfold agree at h
  split at h
  · next a b rs ok o' f t a' b' rs' ok' l l' h1 h2 h3 h4 =>
    simp only [Bool.and_eq_true, beq_iff_eq, decide_eq_true_eq] at h
    obtain ⟨⟨⟨⟨⟨⟨⟨e1, e2⟩, e3⟩, e4⟩, e5⟩, e6⟩, e7⟩, e8⟩ := h
    subst e1; subst e2; subst e3; subst e7
    obtain rfl := eqR_map _ _ e4
    exact ⟨a, b, rs, ok, o', f, t, l, fun k hk => at_rounds (fun k => ops_Find.mono op o k) hk h1, fun k hk => at_rounds (fun k => agateref13_Find.mono op o k) hk h2, e5, e6, fun k hk => at_rounds (fun k => ops_Rows.mono op o k) hk h3, fun k hk => at_rounds (fun k => agateref13_Rows.mono op o k) hk h4, e8⟩
  · cases h
def tab13 : List S72 := agateref13_Table.f.getD []
theorem tab_f : agateref13_Table.f = some tab13 := rfl
theorem tab_ok : (tab13.all fun x => [9, 10, 11, 12, 13].all fun o => agree x.f0 o) = true := by decide +kernel
theorem tab_len : tab13.length = 19 := by decide +kernel
theorem tab_range : (tab13.all fun x => decide (9 ≤ x.f1) && decide (x.f2 ≤ 13)) = true := by decide +kernel
theorem find_none (op : ByteArray) (o : Int) (T : List S72) (hT : T.length < 9223372036854775807) (h : ∀ x ∈ T, ¬ (x.f0 = op ∧ x.f1 ≤ o ∧ o ≤ x.f2)) (d : Nat) : ∀ (k i : Nat), T.length - i = d → i ≤ T.length → d < k →
    agateref13_Find.l0 k op o T (i : Int) = some ((⟨#[]⟩ : ByteArray), 0, 0, 0, 0, [], false) := by
  induction d with
  | zero =>
    intro k i hdd hi hk
    obtain ⟨k, rfl⟩ : ∃ m, k = m + 1 := ⟨k - 1, by omega⟩
    simp only [agateref13_Find.l0]
    rw [if_neg (by omega)]
  | succ d ih =>
    intro k i hdd hi hk
    obtain ⟨k, rfl⟩ : ∃ m, k = m + 1 := ⟨k - 1, by omega⟩
    have hlt : i < T.length := by omega
    have e0 : rd_T72 T (i : Int) = T[i] := by simp [rd_T72, hlt]
    have ih' : agateref13_Find.l0 k op o T (wrap64 ((i : Int) + 1)) = some ((⟨#[]⟩ : ByteArray), 0, 0, 0, 0, [], false) := by rw [wrap64_id (by omega) (by omega)]; exact ih k (i + 1) (by omega) (by omega) (by omega)
    have hx := h T[i] (List.getElem_mem _)
    simp only [agateref13_Find.l0]
    rw [if_pos (by omega), if_pos (by omega), e0]
    by_cases h0 : T[i].f0 = op
    · rw [if_pos (by rw [h0])]
      by_cases h1 : T[i].f1 ≤ o
      · rw [if_pos h1]
        by_cases h2 : o ≤ T[i].f2
        · exact absurd ⟨h0, h1, h2⟩ hx
        · rw [if_neg h2, ih']
      · rw [if_neg h1, ih']
    · rw [if_neg (fun q => h0 (toList_inj.1 q)), ih']
theorem ref_none (op : ByteArray) (o : Int) (h : ∀ x ∈ tab13, ¬ (x.f0 = op ∧ x.f1 ≤ o ∧ o ≤ x.f2)) (k : Nat) (hk : 60 ≤ k) : agateref13_Find.f k op o = some ((⟨#[]⟩ : ByteArray), 0, 0, 0, 0, [], false) := by
  unfold agateref13_Find.f
  rw [tab_f, Option.bind_some]
  have hl := tab_len
  have := find_none op o tab13 (by omega) h 19 k 0 (by omega) (by omega) (by omega)
  exact this
theorem ops_none (op : ByteArray) (o : Int) (hN : ∀ n ∈ tab13.map (·.f0.toList), op.toList ≠ n) (k : Nat) (hk : 60 ≤ k) : ops_Find.f k op o = some (0, 0, [], false) := by
  have h0 : op.toList ≠ ([73, 100, 101, 110, 116, 105, 116, 121] : List UInt8) := hN _ (by decide +kernel)
  have b0 : (op.toList == ([73, 100, 101, 110, 116, 105, 116, 121] : List UInt8)) = false := beq_eq_false_iff_ne.2 h0
  have h1 : op.toList ≠ ([78, 101, 103] : List UInt8) := hN _ (by decide +kernel)
  have b1 : (op.toList == ([78, 101, 103] : List UInt8)) = false := beq_eq_false_iff_ne.2 h1
  have h2 : op.toList ≠ ([78, 111, 116] : List UInt8) := hN _ (by decide +kernel)
  have b2 : (op.toList == ([78, 111, 116] : List UInt8)) = false := beq_eq_false_iff_ne.2 h2
  have h3 : op.toList ≠ ([65, 100, 100] : List UInt8) := hN _ (by decide +kernel)
  have b3 : (op.toList == ([65, 100, 100] : List UInt8)) = false := beq_eq_false_iff_ne.2 h3
  have h4 : op.toList ≠ ([83, 117, 98] : List UInt8) := hN _ (by decide +kernel)
  have b4 : (op.toList == ([83, 117, 98] : List UInt8)) = false := beq_eq_false_iff_ne.2 h4
  have h5 : op.toList ≠ ([77, 117, 108] : List UInt8) := hN _ (by decide +kernel)
  have b5 : (op.toList == ([77, 117, 108] : List UInt8)) = false := beq_eq_false_iff_ne.2 h5
  have h6 : op.toList ≠ ([65, 110, 100] : List UInt8) := hN _ (by decide +kernel)
  have b6 : (op.toList == ([65, 110, 100] : List UInt8)) = false := beq_eq_false_iff_ne.2 h6
  have h7 : op.toList ≠ ([69, 113, 117, 97, 108] : List UInt8) := hN _ (by decide +kernel)
  have b7 : (op.toList == ([69, 113, 117, 97, 108] : List UInt8)) = false := beq_eq_false_iff_ne.2 h7
  have h8 : op.toList ≠ ([82, 101, 115, 104, 97, 112, 101] : List UInt8) := hN _ (by decide +kernel)
  have b8 : (op.toList == ([82, 101, 115, 104, 97, 112, 101] : List UInt8)) = false := beq_eq_false_iff_ne.2 h8
  have h9 : op.toList ≠ ([84, 114, 97, 110, 115, 112, 111, 115, 101] : List UInt8) := hN _ (by decide +kernel)
  have b9 : (op.toList == ([84, 114, 97, 110, 115, 112, 111, 115, 101] : List UInt8)) = false := beq_eq_false_iff_ne.2 h9
  have h10 : op.toList ≠ ([67, 111, 110, 99, 97, 116] : List UInt8) := hN _ (by decide +kernel)
  have b10 : (op.toList == ([67, 111, 110, 99, 97, 116] : List UInt8)) = false := beq_eq_false_iff_ne.2 h10
  have h11 : op.toList ≠ ([83, 113, 117, 101, 101, 122, 101] : List UInt8) := hN _ (by decide +kernel)
  have b11 : (op.toList == ([83, 113, 117, 101, 101, 122, 101] : List UInt8)) = false := beq_eq_false_iff_ne.2 h11
  have h12 : op.toList ≠ ([85, 110, 115, 113, 117, 101, 101, 122, 101] : List UInt8) := hN _ (by decide +kernel)
  have b12 : (op.toList == ([85, 110, 115, 113, 117, 101, 101, 122, 101] : List UInt8)) = false := beq_eq_false_iff_ne.2 h12
  have h13 : op.toList ≠ ([82, 101, 100, 117, 99, 101, 83, 117, 109] : List UInt8) := hN _ (by decide +kernel)
  have b13 : (op.toList == ([82, 101, 100, 117, 99, 101, 83, 117, 109] : List UInt8)) = false := beq_eq_false_iff_ne.2 h13
  have h14 : op.toList ≠ ([83, 108, 105, 99, 101] : List UInt8) := hN _ (by decide +kernel)
  have b14 : (op.toList == ([83, 108, 105, 99, 101] : List UInt8)) = false := beq_eq_false_iff_ne.2 h14
  obtain ⟨k, rfl⟩ : ∃ m, k = m + 3 := ⟨k - 3, by omega⟩
  have z0 : ops_Find.j0 (k + 3) op o true = some (0, 0, [], false) := by
    rw [show k + 3 = (k + 2) + 1 from rfl]; simp only [ops_Find.j0]; rw [if_pos trivial]
  have z3 : ops_Find.j2 (k + 1) o op false = some (0, 0, [], false) := by
    simp only [ops_Find.j2]
    rw [if_neg Bool.false_ne_true, if_neg h9, if_neg h10, if_neg h11, if_neg h12, if_neg h13, if_neg h14]
  have z2 : ops_Find.j1 (k + 2) o op false = some (0, 0, [], false) := by
    rw [show k + 2 = (k + 1) + 1 from rfl]
    simp only [ops_Find.j1]
    rw [if_neg Bool.false_ne_true, if_neg h3, if_neg h4, if_neg h5, if_neg h6, if_neg h7, b8]
    exact z3
  have z1 : ops_Find.j0 (k + 3) op o false = some (0, 0, [], false) := by
    rw [show k + 3 = (k + 2) + 1 from rfl]
    simp only [ops_Find.j0]
    rw [if_neg Bool.false_ne_true, if_neg h0, if_neg h1, b2]
    exact z2
  unfold ops_Find.f
  split
  · exact z0
  · cases decide (o > 13)
    · exact z1
    · exact z0
theorem ops_out (op : ByteArray) (o : Int) (h : o < 9 ∨ 13 < o) (k : Nat) (hk : 60 ≤ k) : ops_Find.f k op o = some (0, 0, [], false) := by
  obtain ⟨k, rfl⟩ : ∃ m, k = m + 1 := ⟨k - 1, by omega⟩
  have z0 : ops_Find.j0 (k + 1) op o true = some (0, 0, [], false) := by
    simp only [ops_Find.j0]; rw [if_pos trivial]
  unfold ops_Find.f
  split
  · exact z0
  · rw [decide_eq_true (by omega)]; exact z0
theorem agrees (op : ByteArray) (o : Int) : Agree op o := by
  have key : (∀ k, 60 ≤ k → ops_Find.f k op o = some (0, 0, [], false)) → (∀ k, 60 ≤ k → agateref13_Find.f k op o = some ((⟨#[]⟩ : ByteArray), 0, 0, 0, 0, [], false)) → Agree op o := by
    intro h1 h2
    refine ⟨0, 0, [], false, ⟨#[]⟩, 0, 0, [], h1, h2, by decide, rfl, fun k hk => ?_, fun k hk => ?_, by decide⟩
    · unfold ops_Rows.f; rw [h1 k hk, Option.bind_some, if_neg Bool.false_ne_true]
    · unfold agateref13_Rows.f; rw [h2 k hk, Option.bind_some, if_neg Bool.false_ne_true]
  by_cases ho : 9 ≤ o ∧ o ≤ 13
  · by_cases hm : ∃ x ∈ tab13, x.f0 = op
    · obtain ⟨x, hx, rfl⟩ := hm
      have h1 := List.all_eq_true.1 (List.all_eq_true.1 tab_ok x hx) o (by
        have : o = 9 ∨ o = 10 ∨ o = 11 ∨ o = 12 ∨ o = 13 := by omega
        rcases this with rfl | rfl | rfl | rfl | rfl <;> decide)
      exact agree_Agree _ _ h1
    · refine key (ops_none op o ?_) (ref_none op o ?_)
      · intro n hn e
        obtain ⟨x, hx, rfl⟩ := List.mem_map.1 hn
        exact hm ⟨x, hx, (toList_inj.1 e).symm⟩
      · intro x hx h
        exact hm ⟨x, hx, h.1⟩
  · refine key (ops_out op o (by omega)) (ref_none op o ?_)
    intro x hx h
    have h1 := List.all_eq_true.1 tab_range x hx
    simp only [Bool.and_eq_true, decide_eq_true_eq] at h1
    omega
end Go.Proofs.Ytdemgfbolcmcdaa.X
namespace Go.Proofs.Ytdemgfbolcmcdaa.X
open Go.RowKit Go.Proofs.YtdemgfbolcmcdaaW.PrintWords Go.Proofs.YtdemgfbolcmcdaaW.PrintLast Go.Proofs.YtdemgfbolcmcdaaW.PrintMore
attribute [local go_sem] max2_int min2_int max_two min_two max_three min_three max_four min_four
set_option linter.unusedVariables false
set_option linter.unusedSimpArgs false
theorem idxS_take (nm : ByteArray) : ∀ (l : List ByteArray) (n i : Nat), nm ∈ l.take i ↔ ((n : Int) ≤ idxS l nm n ∧ idxS l nm n < (n : Int) + i)
  | [], n, i => by
    rw [List.take_nil, idxS]
    constructor
    · intro h; cases h
    · intro h; omega
  | x :: t, n, 0 => by
    rw [List.take_zero]
    constructor
    · intro h; cases h
    · intro h; omega
  | x :: t, n, i + 1 => by
    rw [List.take_succ_cons, List.mem_cons, idxS]
    by_cases hx : x = nm
    · rw [if_pos hx]
      constructor
      · intro _; omega
      · intro _; exact .inl hx.symm
    · rw [if_neg hx, idxS_take nm t (n + 1) i]
      rcases idxS_lt t nm (n + 1) with h | ⟨j, hj, h⟩
      · rw [h]
        constructor
        · rintro (h | h)
          · exact absurd h.symm hx
          · omega
        · intro h; omega
      · rw [h]
        constructor
        · rintro (h | h)
          · exact absurd h.symm hx
          · omega
        · intro h; right; omega
theorem idxS_mem (nm : ByteArray) (l : List ByteArray) : nm ∈ l ↔ 0 ≤ idxS l nm 0 := by
  have h := idxS_take nm l 0 l.length
  rw [List.take_length] at h
  rw [h]
  constructor
  · intro h; omega
  · intro h0
    refine ⟨by omega, ?_⟩
    rcases idxS_lt l nm 0 with h | ⟨j, hj, h⟩
    · omega
    · rw [h]; omega
theorem idx_any (nm : ByteArray) (one : Bool) : ∀ (rs : List S90) (n : Nat), distinct (rs.map (fun x => x.f0)) = true →
    ((rs.any fun x => decide (x.f0 = nm) && (x.f1 == one)) = true → ∃ j, ∃ h : j < rs.length, idxS (nmRule rs) nm n = ((n + j : Nat) : Int) ∧ rs[j].f1 = one) ∧
    ((rs.any fun x => decide (x.f0 = nm) && (x.f1 == one)) = false → idxS (nmRule rs) nm n = -1 ∨ ∃ j, ∃ h : j < rs.length, idxS (nmRule rs) nm n = ((n + j : Nat) : Int) ∧ rs[j].f1 ≠ one)
  | [], n, _ => ⟨fun h => (by cases h), fun _ => .inl rfl⟩
  | x :: t, n, hd => by
    rw [List.map_cons, distinct, Bool.and_eq_true] at hd
    obtain ⟨hd1, hd2⟩ := hd
    obtain ⟨i1, i2⟩ := idx_any nm one t (n + 1) hd2
    unfold nmRule at i1 i2 ⊢
    rw [List.map_cons, idxS, List.any_cons]
    by_cases hx : x.f0 = nm
    · have ht : (t.any fun x => decide (x.f0 = nm) && (x.f1 == one)) = false := by
        rw [List.any_eq_false]
        intro y hy h
        rw [Bool.and_eq_true, decide_eq_true_eq] at h
        have := List.all_eq_true.1 hd1 y.f0 (List.mem_map_of_mem hy)
        rw [hx, h.1] at this
        simp at this
      rw [if_pos hx, ht, decide_eq_true hx, Bool.true_and, Bool.or_false]
      refine ⟨fun h => ⟨0, by simp, rfl, by simpa using h⟩, fun h => .inr ⟨0, by simp, rfl, by simpa using h⟩⟩
    · rw [if_neg hx, decide_eq_false hx, Bool.false_and, Bool.false_or]
      refine ⟨fun h => ?_, fun h => ?_⟩
      · obtain ⟨j, hj, h1, h2⟩ := i1 h
        exact ⟨j + 1, by simp; exact hj, by rw [h1]; omega, by simpa using h2⟩
      · rcases i2 h with h | ⟨j, hj, h1, h2⟩
        · exact .inl h
        · exact .inr ⟨j + 1, by simp; exact hj, by rw [h1]; omega, by simpa using h2⟩
theorem names_A (l : List S35) : (l.map toA).map (fun x => x.f0) = nmAttr l := by unfold nmAttr; rw [List.map_map]; rfl
theorem need_l2 (op : ByteArray) (inp : List ByteArray) (out : ByteArray) (at_ : List S35) (o' : ByteArray) (fr up a b : Int) (rs : List S90) (ha : at_.length < 4611686018427387904) (hr : rs.length ≤ 3) (d : Nat) : ∀ (k j : Nat), rs.length - j = d → j ≤ rs.length → at_.length + d + 1 < k →
    agateref13_Check.l2 k (j : Int) op inp out (at_.map toA) o' fr up a b (rs.map toR) = some (needR (nmAttr at_) (rs.drop j)) := by
  induction d with
  | zero =>
    intro k j hdd hj hk
    obtain ⟨k, rfl⟩ : ∃ m, k = m + 1 := ⟨k - 1, by omega⟩
    simp only [agateref13_Check.l2]
    rw [if_neg (by rw [List.length_map]; omega), List.drop_of_length_le (by omega)]; rfl
  | succ d ih =>
    intro k j hdd hj hk
    obtain ⟨k, rfl⟩ : ∃ m, k = m + 1 := ⟨k - 1, by omega⟩
    have hlt : j < rs.length := by omega
    have e0 : rd_T91 (rs.map toR) (j : Int) = toR rs[j] := by simp [rd_T91, hlt]
    have ih' : agateref13_Check.l2 k (wrap64 ((j : Int) + 1)) op inp out (at_.map toA) o' fr up a b (rs.map toR) = some (needR (nmAttr at_) (rs.drop (j + 1))) := by
      rw [wrap64_id (by omega) (by omega)]; exact ih k (j + 1) (by omega) (by omega) (by omega)
    simp only [agateref13_Check.l2]
    rw [if_pos (by rw [List.length_map]; omega), if_pos (by omega), e0, ih', List.drop_eq_getElem_cons hlt, needR]
    show (if rs[j].f2 = true then _ else _) = some (if rs[j].f2 = true then _ else _)
    by_cases h2 : rs[j].f2 = true
    · rw [if_pos h2, if_pos h2, find_f (at_.map toA) (by rw [List.length_map]; omega) _ k (by rw [List.length_map]; omega), Option.bind_some, names_A]
      by_cases hm : rs[j].f0 ∈ nmAttr at_
      · have := (idxS_mem _ _).1 hm
        rw [if_pos hm, if_neg (by show ¬ (idxS (nmAttr at_) rs[j].f0 0 < 0); omega)]
      · have : ¬ (0 ≤ idxS (nmAttr at_) rs[j].f0 0) := fun h => hm ((idxS_mem _ _).2 h)
        rw [if_neg hm, if_pos (by show idxS (nmAttr at_) rs[j].f0 0 < 0; omega)]
    · rw [if_neg h2, if_neg h2]
theorem known_l1 (op : ByteArray) (inp : List ByteArray) (out : ByteArray) (at_ : List S35) (o' : ByteArray) (fr up a b : Int) (rs : List S90) (hr : rs.length ≤ 3) (i : Nat) (hi : i < at_.length) (r : Int) (K : Nat)
    (hyes : (rs.any fun x => decide (x.f0 = at_[i].f0) && (x.f1 == at_[i].f1)) = true → ∀ k, K < k → ((agateref10_Find.f k (at_.map toA) at_[i].f0).bind fun t117 => (if t117 < (i : Int) then (some 14) else (agateref13_Check.l0 k (wrap64 ((i : Int) + 1)) op inp out (at_.map toA) o' fr up a b (rs.map toR)))) = some r)
    (hno : (rs.any fun x => decide (x.f0 = at_[i].f0) && (x.f1 == at_[i].f1)) = false → r = 12) (d : Nat) : ∀ (k j : Nat) (b_ : Bool), rs.length - j = d → j ≤ rs.length →
    (rs.any fun x => decide (x.f0 = at_[i].f0) && (x.f1 == at_[i].f1)) = (b_ || (rs.drop j).any fun x => decide (x.f0 = at_[i].f0) && (x.f1 == at_[i].f1)) → K + d + 1 < k →
    agateref13_Check.l1 k (i : Int) b_ (j : Int) op inp out (at_.map toA) o' fr up a b (rs.map toR) = some r := by
  have e1 : rd_T47 (at_.map toA) (i : Int) = toA at_[i] := by simp [rd_T47, hi]
  induction d with
  | zero =>
    intro k j b_ hdd hj hq hk
    obtain ⟨k, rfl⟩ : ∃ m, k = m + 1 := ⟨k - 1, by omega⟩
    rw [List.drop_of_length_le (by omega), List.any_nil, Bool.or_false] at hq
    simp only [agateref13_Check.l1]
    rw [if_neg (by rw [List.length_map]; omega), e1]
    cases b_
    · rw [if_neg Bool.false_ne_true, hno hq]
    · rw [if_pos rfl, if_pos (by omega), if_pos (by rw [List.length_map]; omega)]
      exact hyes hq k (by omega)
  | succ d ih =>
    intro k j b_ hdd hj hq hk
    obtain ⟨k, rfl⟩ : ∃ m, k = m + 1 := ⟨k - 1, by omega⟩
    have hlt : j < rs.length := by omega
    have e0 : rd_T91 (rs.map toR) (j : Int) = toR rs[j] := by simp [rd_T91, hlt]
    have hw : wrap64 ((j : Int) + 1) = ((j + 1 : Nat) : Int) := by rw [wrap64_id (by omega) (by omega)]; rfl
    rw [List.drop_eq_getElem_cons hlt, List.any_cons] at hq
    simp only [agateref13_Check.l1]
    rw [if_pos (by rw [List.length_map]; omega), e0, e1, hw]
    cases b_
    · rw [if_neg Bool.false_ne_true, if_pos (by omega), if_pos (by omega), if_pos (by rw [List.length_map]; omega)]
      rw [Bool.false_or] at hq
      by_cases h0 : rs[j].f0 = at_[i].f0
      · rw [if_pos (show (toR rs[j]).f0.toList = (toA at_[i]).f0.toList by show rs[j].f0.toList = at_[i].f0.toList; rw [h0])]
        rw [decide_eq_true h0, Bool.true_and] at hq
        exact ih k (j + 1) _ (by omega) (by omega) hq (by omega)
      · rw [if_neg (show ¬ ((toR rs[j]).f0.toList = (toA at_[i]).f0.toList) from fun h => h0 (toList_inj.1 h))]
        rw [decide_eq_false h0, Bool.false_and] at hq
        exact ih k (j + 1) _ (by omega) (by omega) hq (by omega)
    · rw [if_pos rfl]
      exact ih k (j + 1) _ (by omega) (by omega) (by rw [hq, Bool.true_or, Bool.true_or]) (by omega)
theorem attrs_l0 (op : ByteArray) (inp : List ByteArray) (out : ByteArray) (at_ : List S35) (o' : ByteArray) (fr up a b : Int) (rs : List S90) (ha : at_.length < 4611686018427387904) (hr : rs.length ≤ 3) (hd : distinct (rs.map (fun x => x.f0)) = true) (d : Nat) : ∀ (k i : Nat), at_.length - i = d → i ≤ at_.length → at_.length + 10 * d + 20 < k →
    agateref13_Check.l0 k (i : Int) op inp out (at_.map toA) o' fr up a b (rs.map toR) = some (attrsR rs ((nmAttr at_).take i) (at_.drop i)) := by
  have hnl : (nmAttr at_).length = at_.length := by unfold nmAttr; rw [List.length_map]
  induction d with
  | zero =>
    intro k i hdd hi hk
    obtain ⟨k, rfl⟩ : ∃ m, k = m + 1 := ⟨k - 1, by omega⟩
    simp only [agateref13_Check.l0]
    rw [if_neg (by rw [List.length_map]; omega), List.drop_of_length_le (by omega), List.take_of_length_le (by omega), attrsR]
    exact need_l2 op inp out at_ o' fr up a b rs ha hr rs.length k 0 (by omega) (by omega) (by omega)
  | succ d ih =>
    intro k i hdd hi hk
    obtain ⟨k, rfl⟩ : ∃ m, k = m + 1 := ⟨k - 1, by omega⟩
    have hlt : i < at_.length := by omega
    simp only [agateref13_Check.l0]
    rw [if_pos (by rw [List.length_map]; omega), List.drop_eq_getElem_cons hlt, attrsR]
    obtain ⟨q1, q2⟩ := idx_any at_[i].f0 at_[i].f1 rs 0 hd
    refine known_l1 op inp out at_ o' fr up a b rs hr i hlt _ (at_.length + 10 * d + 20) (fun hy k' hk' => ?_) (fun hn => ?_) rs.length k 0 false (by omega) (by omega) (by rw [Bool.false_or, List.drop_zero]) (by omega)
    · obtain ⟨j, hj, h1, h2⟩ := q1 hy
      have e0 : rd_T90 rs ((0 + j : Nat) : Int) = rs[j] := by simp [rd_T90, hj]
      rw [h1, if_neg (by omega), e0, h2, if_neg (by simp)]
      rw [find_f (at_.map toA) (by rw [List.length_map]; omega) _ k' (by rw [List.length_map]; omega), Option.bind_some, names_A]
      have hin : at_[i].f0 ∈ nmAttr at_ := by unfold nmAttr; exact List.mem_map_of_mem (List.getElem_mem _)
      have h0 := (idxS_mem _ _).1 hin
      have ht := idxS_take at_[i].f0 (nmAttr at_) 0 i
      by_cases hm : at_[i].f0 ∈ (nmAttr at_).take i
      · have := ht.1 hm
        rw [if_pos hm, if_pos (by omega)]
      · have : ¬ (idxS (nmAttr at_) at_[i].f0 0 < (i : Int)) := fun h => hm (ht.2 ⟨by omega, by omega⟩)
        rw [if_neg hm, if_neg this, wrap64_id (by omega) (by omega)]
        have e2 := ih k' (i + 1) (by omega) (by omega) (by omega)
        have e3 : (nmAttr at_).take (i + 1) = (nmAttr at_).take i ++ [at_[i].f0] := by
          rw [List.take_succ_eq_append_getElem (by omega)]
          unfold nmAttr
          rw [List.getElem_map]
        rw [e3] at e2
        exact e2
    · rcases q2 hn with h | ⟨j, hj, h1, h2⟩
      · rw [h, if_pos (by decide)]
      · have e0 : rd_T90 rs ((0 + j : Nat) : Int) = rs[j] := by simp [rd_T90, hj]
        rw [h1, if_neg (by omega), e0, if_pos (by simpa using h2)]
end Go.Proofs.Ytdemgfbolcmcdaa.X
namespace Go.Proofs.Ytdemgfbolcmcdaa.Pure
open Go.RowKit Go.Proofs.Ytdemgfbolcmcdaa.X Go.Proofs.YtdemgfbolcmcdaaW.PrintWords Go.Proofs.YtdemgfbolcmcdaaW.PrintLast Go.Proofs.YtdemgfbolcmcdaaW.PrintMore
set_option linter.unusedVariables false
set_option linter.unusedSimpArgs false
theorem check_same (op : ByteArray) (inp : List ByteArray) (out : ByteArray) (at_ : List S35) (o : Int) (ha : at_.length < 4611686018427387904) (k : Nat) (hk : 11 * at_.length + 100 < k) :
    ∃ c, ops_Check.f k op inp out at_ o = some c ∧ agateref13_Check.f k op inp out (at_.map toA) o = some c := by
  obtain ⟨k, rfl⟩ : ∃ m, k = m + 2 := ⟨k - 2, by omega⟩
  have z0 : agateref13_Check.j0 (k + 2) o true op inp out (at_.map toA) = some 16 := by
    rw [show k + 2 = (k + 1) + 1 from rfl]; simp only [agateref13_Check.j0]; rw [if_pos trivial]
  unfold ops_Check.f agateref13_Check.f
  by_cases h9 : o < 9
  · rw [if_pos h9, if_pos h9]; exact ⟨16, rfl, z0⟩
  rw [if_neg h9, if_neg h9]
  by_cases h13 : o > 13
  · rw [if_pos h13, decide_eq_true h13]; exact ⟨16, rfl, z0⟩
  rw [if_neg h13, decide_eq_false h13]
  obtain ⟨a, b, rs, ok, o', fr, up, l, h1, h2, hr, hd, _⟩ := agrees op o
  rw [h1 (k + 2) (by omega), Option.bind_some]
  rw [show k + 2 = (k + 1) + 1 from rfl]
  simp only [agateref13_Check.j0]
  rw [if_neg Bool.false_ne_true, h2 (k + 1) (by omega), Option.bind_some]
  dsimp only
  rw [if_neg (by omega)]
  cases ok
  · rw [if_pos rfl, if_neg Bool.false_ne_true]; exact ⟨10, rfl, rfl⟩
  · rw [if_neg (by decide), if_pos rfl]
    by_cases h3 : (inp.length : Int) < a
    · rw [if_pos h3, if_pos h3]
      simp only [agateref13_Check.j1]
      rw [if_pos trivial]; exact ⟨11, rfl, rfl⟩
    · rw [if_neg h3, if_neg h3]
      by_cases h4 : (inp.length : Int) > b
      · rw [if_pos h4, decide_eq_true h4]
        simp only [agateref13_Check.j1]
        rw [if_pos trivial]; exact ⟨11, rfl, rfl⟩
      · rw [if_neg h4, decide_eq_false h4]
        simp only [agateref13_Check.j1]
        rw [if_neg Bool.false_ne_true]
        exact ⟨_, rfl, attrs_l0 op inp out at_ o' fr up a b rs ha hr hd at_.length k 0 (by omega) (by omega) (by omega)⟩
theorem awake13 (k : Nat) (hk : 100 ≤ k) : agatelaw13_Awake.f k = some true := by
  have h : agatelaw13_Awake.f 100 = some true := by decide +kernel
  exact at_rounds (fun k => agatelaw13_Awake.mono k) hk h
theorem tell_l2 (o : Int) (l : List Int) (xs : List ByteArray) (n i : Int) (hl : l.length ≤ 3) (K : Nat) (hnext : ∀ k, K < k → agatelaw13_OpsTell.l0 k o xs n (wrap64 (i + 1)) = some true) (d : Nat) : ∀ (k j : Nat), l.length - j = d → j ≤ l.length → K + d + 1 < k →
    agatelaw13_OpsTell.l2 k o l l xs n i (l.length : Int) (j : Int) = some true := by
  induction d with
  | zero =>
    intro k j hdd hj hk
    obtain ⟨k, rfl⟩ : ∃ m, k = m + 1 := ⟨k - 1, by omega⟩
    simp only [agatelaw13_OpsTell.l2]
    rw [if_neg (by omega)]
    exact hnext k (by omega)
  | succ d ih =>
    intro k j hdd hj hk
    obtain ⟨k, rfl⟩ : ∃ m, k = m + 1 := ⟨k - 1, by omega⟩
    simp only [agatelaw13_OpsTell.l2]
    rw [if_pos (by omega), if_pos (by omega), if_pos (by omega), if_pos (by omega), if_pos trivial, wrap64_id (by omega) (by omega)]
    exact ih k (j + 1) (by omega) (by omega) (by omega)
theorem tell_l1 (o : Int) (x : ByteArray) (rs : List S90) (xs : List ByteArray) (n i : Int) (o' : ByteArray) (fr up a b : Int) (hr : rs.length ≤ 3) (l : List Int) (hl : l.length ≤ 3)
    (h5 : ∀ k, 60 ≤ k → ops_Rows.f k x o = some l) (h6 : ∀ k, 60 ≤ k → agateref13_Rows.f k x o = some l)
    (K : Nat) (hK : 60 ≤ K) (hnext : ∀ k, K < k → agatelaw13_OpsTell.l0 k o xs n (wrap64 (i + 1)) = some true) (d : Nat) : ∀ (k j : Nat), rs.length - j = d → j ≤ rs.length → K + d + 10 < k →
    agatelaw13_OpsTell.l1 k o x xs n i rs (rs.length : Int) (j : Int) o' fr up a b (rs.map toR) = some true := by
  induction d with
  | zero =>
    intro k j hdd hj hk
    obtain ⟨k, rfl⟩ : ∃ m, k = m + 1 := ⟨k - 1, by omega⟩
    simp only [agatelaw13_OpsTell.l1]
    rw [if_neg (by omega), h5 k (by omega), Option.bind_some, h6 k (by omega), Option.bind_some, if_pos rfl]
    exact tell_l2 o l xs n i hl K hnext l.length k 0 (by omega) (by omega) (by omega)
  | succ d ih =>
    intro k j hdd hj hk
    obtain ⟨k, rfl⟩ : ∃ m, k = m + 1 := ⟨k - 1, by omega⟩
    have hlt : j < rs.length := by omega
    have e0 : rd_T91 (rs.map toR) (j : Int) = toR rs[j] := by simp [rd_T91, hlt]
    have e1 : rd_T90 rs (j : Int) = rs[j] := by simp [rd_T90, hlt]
    have e2 : (!(rs[j].f0.toList == (toR rs[j]).f0.toList) || (!(rs[j].f1 == (toR rs[j]).f1) || (!(rs[j].f2 == (toR rs[j]).f2)))) = false := by
      show (!(rs[j].f0.toList == rs[j].f0.toList) || (!(rs[j].f1 == rs[j].f1) || (!(rs[j].f2 == rs[j].f2)))) = false
      rw [beq_self_eq_true, beq_self_eq_true, beq_self_eq_true]; rfl
    simp only [agatelaw13_OpsTell.l1]
    rw [if_pos (by omega), if_pos (by omega), if_pos (by omega), if_pos (by rw [List.length_map]; omega), e0, e1, e2, if_neg Bool.false_ne_true, wrap64_id (by omega) (by omega)]
    exact ih k (j + 1) (by omega) (by omega) (by omega)
theorem tell_l0 (o : Int) (xs : List ByteArray) (hx : xs.length ≤ 2) (d : Nat) : ∀ (k i : Nat), xs.length - i = d → i ≤ xs.length → 200 * d + 200 < k →
    agatelaw13_OpsTell.l0 k o xs (xs.length : Int) (i : Int) = some true := by
  induction d with
  | zero =>
    intro k i hdd hi hk
    obtain ⟨k, rfl⟩ : ∃ m, k = m + 1 := ⟨k - 1, by omega⟩
    simp only [agatelaw13_OpsTell.l0]
    rw [if_neg (by omega), awake13 k (by omega), Option.bind_some]
  | succ d ih =>
    intro k i hdd hi hk
    obtain ⟨k, rfl⟩ : ∃ m, k = m + 1 := ⟨k - 1, by omega⟩
    simp only [agatelaw13_OpsTell.l0]
    generalize rdOf ByteArray.empty xs (i : Int) = x
    obtain ⟨a, b, rs, ok, o', fr, up, l, h1, h2, hr, hd, h5, h6, hl⟩ := agrees x o
    rw [if_pos (by omega), if_pos (by omega), if_pos (by omega), h1 k (by omega), Option.bind_some, h2 k (by omega), Option.bind_some]
    dsimp only
    rw [if_neg (by simp), if_pos rfl, if_pos rfl, if_pos (by rw [List.length_map])]
    refine tell_l1 o x rs xs _ i o' fr up a b hr l hl h5 h6 (200 * d + 200) (by omega) (fun k' hk' => ?_) rs.length k 0 (by omega) (by omega) (by omega)
    rw [wrap64_id (by omega) (by omega)]
    exact ih k' (i + 1) (by omega) (by omega) hk'
theorem tell_j0 (o : Int) (x2 : ByteArray) (fl : Bool) (op : ByteArray) (inp : List ByteArray) (out : ByteArray) (at_ : List S35) (ha : at_.length < 2513169434916) (k : Nat) (hk : 11 * at_.length + 1000 < k) :
    agatelaw13_OpsTell.j0 k o x2 fl op inp out at_ = some true := by
  obtain ⟨k, rfl⟩ : ∃ m, k = m + 1 := ⟨k - 1, by omega⟩
  simp only [agatelaw13_OpsTell.j0]
  cases fl
  · obtain ⟨c, h1, h2⟩ := check_same op inp out at_ o (by omega) k (by omega)
    rw [if_neg Bool.false_ne_true, h1, Option.bind_some, node_f at_ ha op inp out k (by omega), Option.bind_some]
    dsimp only
    rw [h2, Option.bind_some, if_pos rfl, Option.bind_some]
    exact tell_l0 o [x2, op] (Nat.le_refl 2) 2 k 0 rfl (Nat.zero_le _) (by omega)
  · rw [if_pos rfl, awake13 k (by omega), Option.bind_some]
theorem OpsTell : agatelaw13_OpsTell.Pure := by
  intro x0 x1 x2 wf0 wf1 wf2
  have ha : x0.f3.length < 2513169434916 := by have h : x0.f3.length * 56 ≤ 140737488351232 := wf0.2.2.2.2.1; omega
  refine ⟨11 * x0.f3.length + 2000, ?_⟩
  unfold agatelaw13_OpsTell.f
  rw [show agatelaw10_Small.f 0 [] [] [] [(⟨x0.f0, x0.f1, x0.f2, x0.f3⟩ : S33)] = some (decide (smallN [] [] [] [(⟨x0.f0, x0.f1, x0.f2, x0.f3⟩ : S33)] ≤ 6000)) from rfl, Option.bind_some]
  split
  · exact tell_j0 x1 x2 _ _ _ _ _ ha _ (by omega)
  · exact tell_j0 x1 x2 _ _ _ _ _ ha _ (by omega)
end Go.Proofs.Ytdemgfbolcmcdaa.Pure
namespace Go.Proofs.Ytdemgfbolcmcdaa.opsTell
open Go.ChangeShapes Go.WideShapes Go.ChangeAt Go.RowKit Go.Proofs.Ytdemgfbolcmcdaa.X Go.Proofs.YtdemgfbolcmcdaaW.PrintWords
set_option linter.unusedVariables false
theorem own : ownKnob Try.prog.godebug = none := by kernel_rfl
theorem laidOut : laidOutB Try.prog = true := by kernel_rfl
set_option maxRecDepth 100000 in
theorem lifted (os : Os) (started : os.Started) (H : Type) (enc : TypeId × Value → H) :
    ReturnsInHanded {} Try.checked os 6 .any (Rows.opsTellSpec.pre6 enc Try.prog Try.f6 Rows.opsTellRow.domain false) (Rows.opsTellSpec.post enc Try.prog Try.f6 false true false false) := by
  refine returnsInHanded_of_change_sized (C := Try.checked) own started (by kernel_rfl) Try.func6
    (ChangeSpec.witness6 (enc := enc) (C := Try.checked) false ⟨#[], #[.agg #[.string ByteArray.empty, .slice none 0 0, .string ByteArray.empty, .slice none 0 0], .int .i64 0, .string ByteArray.empty], []⟩ 8 (by kernel_rfl) (by kernel_rfl) (by kernel_rfl) (by kernel_rfl)) ?_
  intro W base args ds gs before hval0 hW hcnd hsz0 _
  have hsz : (DataW.weightsEach Try.prog (Try.f6.params.toList ++ Rows.opsTellSpec.plain.varTypes Try.prog) (ds ++ gs)).all (· ≤ reachBytes) = true := hsz0
  have hval : ∀ (j : Nat) t v, Try.f6.params[j]? = some t → args[j]? = some v → Value.okWide Try.prog W .any base t v := hval0
  have hW' := hW
  obtain ⟨p, q, hA0, hV, rfl, hfz, hnd⟩ := hW
  have hA : DataW.TrodAll enc Try.prog W 0 (fun _ => true) true Try.f6.params.toList args.toList ds p := hA0
  rw [Try.params6] at hA hval hsz
  obtain ⟨v0, vs0, d0, ds0, p0, q0, hargs, rfl, rfl, h0, r0⟩ := trodAll_cons hA
  obtain ⟨v1, vs1, d1, ds1, p1, q1, rfl, rfl, rfl, h1, r1⟩ := trodAll_cons r0
  obtain ⟨v2, vs2, d2, ds2, p2, q2, rfl, rfl, rfl, h2, r2⟩ := trodAll_cons r1
  obtain ⟨rfl, rfl, rfl⟩ := trodAll_nil r2
  obtain rfl : args = #[v0, v1, v2] := by cases args; simp_all
  obtain ⟨rfl, rfl⟩ := trodVars_none hV
  have k0 := h0
  have lt0 : ∀ x ∈ p0, x.block < W.heap.size := by obtain ⟨m, hm⟩ := k0; exact DataW.trod_lt m _ _ _ hm
  obtain ⟨fuel0, hf0⟩ := h0
  obtain ⟨x0, K0, wf0⟩ := ((op33 enc W) : Opens enc Try.prog W 33 k33 wf33).go fuel0 _ _ hf0 (fun m hm => by simpa using List.all_eq_true.1 hsz m (DataW.weights_mem_each (j := 0) (t := 33) rfl rfl m hm))
  obtain ⟨cs0, rfl, _⟩ := okWide_struct Try.underlying33 (hval 0 33 v0 rfl rfl)
  have K0' : k33.K W x0 cs0.toList := K0
  obtain ⟨A0_1, c0_1, A0_3, c0_3, e0, hc0_1, hr0_1, hc0_3, hr0_3⟩ := k33_open K0'
  obtain rfl : cs0 = #[.string x0.f0, .slice A0_1 x0.f1.length c0_1, .string x0.f2, .slice A0_3 x0.f3.length c0_3] := by cases cs0; simpa using e0
  have k1 := h1
  have lt1 : ∀ x ∈ p1, x.block < W.heap.size := by obtain ⟨m, hm⟩ := k1; exact DataW.trod_lt m _ _ _ hm
  obtain ⟨fuel1, hf1⟩ := h1
  obtain ⟨x1, K1, wf1⟩ := ((Opens.int Try.underlying2 (by kernel_rfl)) : Opens enc Try.prog W 2 (Kd.int .i64) (fun a => (Lit.int .i64 a).wf = true)).go fuel1 _ _ hf1 (fun m hm => by simpa using List.all_eq_true.1 hsz m (DataW.weights_mem_each (j := 1) (t := 2) rfl rfl m hm))
  obtain ⟨b1, rfl⟩ := okWide_int Try.underlying2 (hval 1 2 v1 rfl rfl)
  obtain rfl : b1 = x1 := by have e_ := K1; simpa [Kd.int, Kd.bool, Kd.string, Kd.scalar, Value.cells] using e_
  have k2 := h2
  have lt2 : ∀ x ∈ p2, x.block < W.heap.size := by obtain ⟨m, hm⟩ := k2; exact DataW.trod_lt m _ _ _ hm
  obtain ⟨fuel2, hf2⟩ := h2
  obtain ⟨x2, K2, wf2⟩ := ((Opens.string Try.underlying9 (by kernel_rfl)) : Opens enc Try.prog W 9 Kd.string (fun a => a.size ≤ 140737488351232)).go fuel2 _ _ hf2 (fun m hm => by simpa using List.all_eq_true.1 hsz m (DataW.weights_mem_each (j := 2) (t := 9) rfl rfl m hm))
  obtain ⟨b2, rfl⟩ := okWide_string Try.underlying9 (hval 2 9 v2 rfl rfl)
  obtain rfl : b2 = x2 := by have e_ := K2; simpa [Kd.int, Kd.bool, Kd.string, Kd.scalar, Value.cells] using e_
  clear hA0 hval0 hsz0 hsz
  obtain ⟨k, hp⟩ := Pure.OpsTell x0 b1 b2 wf0 wf1 wf2
  refine (agatelaw13_OpsTell.calls k (x0.f0) (fun k => k < W.heap.size) A0_1 c0_1 (x0.f1) (x0.f2) (fun k => k < W.heap.size) A0_3 c0_3 (x0.f3) b1 b2 true W (Kd.V_mk hc0_1 (Kd.C_F Kd.heap_string hr0_1)) (Kd.V_mk hc0_3 (Kd.C_F k35_heap hr0_3)) hp).mono fun e W' ⟨he, bel0⟩ => ?_
  have bel : Below W.heap.size W W' := bel0
  subst he
  exact ⟨_, rfl, _, _, _, [], _, [], hW', trodAll_mk1 (shut_bool Try.underlying4 _), (trodAll_cons_mk (Below.trod laidOut (by kernel_rfl) (of_decide_eq_true (by kernel_rfl)) k0 bel lt0) (trodAll_cons_mk (Below.trod laidOut (by kernel_rfl) (of_decide_eq_true (by kernel_rfl)) k1 bel lt1) (trodAll_cons_mk (Below.trod laidOut (by kernel_rfl) (of_decide_eq_true (by kernel_rfl)) k2 bel lt2) trodAll_mk0))), rfl, bel.frame _, fun h => by cases h⟩
theorem over : Rows.opsTellRow.holds Try.pinned (OpenSpec.ofChange Rows.opsTellSpec) :=
  OpenClaim.holds_of_wide 6 Try.f6 rfl rfl rfl rfl rfl rfl rfl ⟨rfl, rfl, rfl, rfl, rfl⟩ rfl rfl rfl rfl rfl (by kernel_rfl) Try.func6 (by kernel_rfl)
    (of_decide_eq_true (by kernel_rfl)) (by unfold Func.isWrapper; first | (rw [if_pos (by decide +kernel)]; kernel_rfl) | (rw [if_neg (by decide +kernel)]; exact ⟨rfl, rfl⟩))
    (fun os started H enc _ => lifted os started H enc)
theorem proved : Rows.OpsTellSaid := over
#print axioms proved
end Go.Proofs.Ytdemgfbolcmcdaa.opsTell
namespace Go.Proofs.Ytdemgfbolcmcdaa
theorem opsTell_holds : Rows.OpsTellSaid := opsTell.proved
end Go.Proofs.Ytdemgfbolcmcdaa
