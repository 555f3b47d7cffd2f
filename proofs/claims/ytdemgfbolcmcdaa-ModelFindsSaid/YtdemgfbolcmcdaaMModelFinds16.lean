import Derived.Test.YtdemgfbolcmcdaaMModelFinds2
import Derived.Test.YtdemgfbolcmcdaaMModelFinds3
import Derived.Test.YtdemgfbolcmcdaaMModelFinds10
import Derived.Test.YtdemgfbolcmcdaaMModelFinds9
import Derived.Test.YtdemgfbolcmcdaaMModelFinds11
import Derived.Test.YtdemgfbolcmcdaaMModelFinds12
import Derived.Test.YtdemgfbolcmcdaaMModelFinds8
import Derived.Test.YtdemgfbolcmcdaaMModelFinds5
import Derived.Test.YtdemgfbolcmcdaaMModelFinds14
import Derived.Test.YtdemgfbolcmcdaaMModelFinds13
import Derived.Test.YtdemgfbolcmcdaaMModelFinds7
import Derived.Test.YtdemgfbolcmcdaaMModelFinds6
import Derived.Test.YtdemgfbolcmcdaaRows
import Derived.Test.YtdemgfbolcmcdaaMModelFinds15
import Derived.WalkKit
import Derived.ProofKit
import Derived.OpenShut
import Derived.ShutString
import Derived.ChangeOld
import Derived.Below
import Derived.SizedLaws
import Derived.Carry
namespace Go.Proofs.Ytdemgfbolcmcdaa.X
open Go.RowKit Go.Proofs.YtdemgfbolcmcdaaW.PrintWords Go.Proofs.YtdemgfbolcmcdaaW.PrintLast Go.Proofs.YtdemgfbolcmcdaaW.PrintMore
attribute [local go_sem] max2_int min2_int max_two min_two max_three min_three max_four min_four
set_option linter.unusedVariables false
set_option linter.unusedSimpArgs false
def toA (x : S35) : S47 := ⟨x.f0, x.f1, x.f2, x.f3⟩
def toI (x : S79) : S130 := ⟨x.f0, x.f1, x.f2⟩
def toT (x : S51) : S63 := ⟨x.f0, x.f1, x.f2, x.f3⟩
def toN (x : S33) : S41 := ⟨x.f0, x.f1, x.f2, x.f3.map toA⟩
theorem node_l0 (l : List S35) (hl : l.length < 2513169434916) (a : ByteArray) (b : List ByteArray) (c : ByteArray) (d : Nat) : ∀ (k i : Nat), l.length - i = d → i ≤ l.length → d < k →
    agatelaw10_Node.l0 k l (l.length : Int) (i : Int) a b c ((l.take i).map toA) = some (a, b, c, l.map toA) := by
  induction d with
  | zero =>
    intro k i hdd hi hk
    obtain ⟨k, rfl⟩ : ∃ m, k = m + 1 := ⟨k - 1, by omega⟩
    simp only [agatelaw10_Node.l0]
    rw [if_neg (by omega), List.take_of_length_le (by omega)]
  | succ d ih =>
    intro k i hdd hi hk
    obtain ⟨k, rfl⟩ : ∃ m, k = m + 1 := ⟨k - 1, by omega⟩
    have hlt : i < l.length := by omega
    have e0 : rd_T35 l (i : Int) = l[i] := by simp [rd_T35, hlt]
    have ih' := ih k (i + 1) (by omega) (by omega) (by omega)
    simp only [agatelaw10_Node.l0]
    rw [if_pos (by omega), if_pos (by omega), if_pos (by omega), if_pos (by rw [List.length_map, List.length_take]; omega), e0, wrap64_id (by omega) (by omega)]
    rw [List.take_succ_eq_append_getElem hlt, List.map_append] at ih'
    exact ih'
theorem node_f (l : List S35) (hl : l.length < 2513169434916) (a : ByteArray) (b : List ByteArray) (c : ByteArray) (k : Nat) (hk : l.length < k) : agatelaw10_Node.f k a b c l = some (a, b, c, l.map toA) := by
  have h := node_l0 l hl a b c l.length k 0 (by omega) (by omega) hk
  exact h
theorem find_l0 (l : List S47) (hl : l.length < 9223372036854775807) (nm : ByteArray) (d : Nat) : ∀ (k i : Nat), l.length - i = d → i ≤ l.length → d < k →
    agateref10_Find.l0 k l nm (i : Int) = some (idxS ((l.drop i).map (fun x => x.f0)) nm i) := by
  induction d with
  | zero =>
    intro k i hdd hi hk
    obtain ⟨k, rfl⟩ : ∃ m, k = m + 1 := ⟨k - 1, by omega⟩
    simp only [agateref10_Find.l0]
    rw [if_neg (by omega), List.drop_of_length_le (by omega)]; rfl
  | succ d ih =>
    intro k i hdd hi hk
    obtain ⟨k, rfl⟩ : ∃ m, k = m + 1 := ⟨k - 1, by omega⟩
    have hlt : i < l.length := by omega
    have e0 : rd_T47 l (i : Int) = l[i] := by simp [rd_T47, hlt]
    have ih' := ih k (i + 1) (by omega) (by omega) (by omega)
    simp only [agateref10_Find.l0]
    rw [if_pos (by omega), if_pos (by omega), e0, List.drop_eq_getElem_cons hlt, List.map_cons, idxS]
    by_cases hx : l[i].f0 = nm
    · rw [if_pos (by rw [hx]), if_pos hx]
    · rw [if_neg (fun h => hx (toList_inj.1 h)), if_neg hx, wrap64_id (by omega) (by omega)]
      exact ih'
theorem find_f (l : List S47) (hl : l.length < 9223372036854775807) (nm : ByteArray) (k : Nat) (hk : l.length < k) : agateref10_Find.f k l nm = some (idxS (l.map (fun x => x.f0)) nm 0) := by
  have h := find_l0 l hl nm l.length k 0 (by omega) (by omega) hk
  exact h
theorem refinit_l0 (l : List S63) (hl : l.length < 9223372036854775807) (nm : ByteArray) (d : Nat) : ∀ (k i : Nat), l.length - i = d → i ≤ l.length → d < k →
    agateref10_Init.l0 k l nm (i : Int) = some (idxS ((l.drop i).map (fun x => x.f0)) nm i) := by
  induction d with
  | zero =>
    intro k i hdd hi hk
    obtain ⟨k, rfl⟩ : ∃ m, k = m + 1 := ⟨k - 1, by omega⟩
    simp only [agateref10_Init.l0]
    rw [if_neg (by omega), List.drop_of_length_le (by omega)]; rfl
  | succ d ih =>
    intro k i hdd hi hk
    obtain ⟨k, rfl⟩ : ∃ m, k = m + 1 := ⟨k - 1, by omega⟩
    have hlt : i < l.length := by omega
    have e0 : rd_T63 l (i : Int) = l[i] := by simp [rd_T63, hlt]
    have ih' := ih k (i + 1) (by omega) (by omega) (by omega)
    simp only [agateref10_Init.l0]
    rw [if_pos (by omega), if_pos (by omega), e0, List.drop_eq_getElem_cons hlt, List.map_cons, idxS]
    by_cases hx : l[i].f0 = nm
    · rw [if_pos (by rw [hx]), if_pos hx]
    · rw [if_neg (fun h => hx (toList_inj.1 h)), if_neg hx, wrap64_id (by omega) (by omega)]
      exact ih'
theorem refinit_f (l : List S63) (hl : l.length < 9223372036854775807) (nm : ByteArray) (k : Nat) (hk : l.length < k) : agateref10_Init.f k l nm = some (idxS (l.map (fun x => x.f0)) nm 0) := by
  have h := refinit_l0 l hl nm l.length k 0 (by omega) (by omega) hk
  exact h
theorem ints_l0 (l : List Int) (hl : l.length < 9223372036854775807) (d : Nat) : ∀ (k i : Nat), l.length - i = d → i ≤ l.length → d < k → agateref10_Ints.l0 k l l (i : Int) = some true := by
  induction d with
  | zero =>
    intro k i hdd hi hk
    obtain ⟨k, rfl⟩ : ∃ m, k = m + 1 := ⟨k - 1, by omega⟩
    simp only [agateref10_Ints.l0]
    rw [if_neg (by omega)]
  | succ d ih =>
    intro k i hdd hi hk
    obtain ⟨k, rfl⟩ : ∃ m, k = m + 1 := ⟨k - 1, by omega⟩
    have ih' := ih k (i + 1) (by omega) (by omega) (by omega)
    simp only [agateref10_Ints.l0]
    rw [if_pos (by omega), if_pos (by omega), if_pos (by omega), if_pos trivial, wrap64_id (by omega) (by omega)]
    exact ih'
theorem ints_same_f (l : List Int) (hl : l.length < 9223372036854775807) (k : Nat) (hk : l.length < k) : agateref10_Ints.f k l l = some true := by
  unfold agateref10_Ints.f
  rw [if_pos rfl]
  exact ints_l0 l hl l.length k 0 (by omega) (by omega) hk
theorem attrs_same_f (a : ByteArray) (b : Bool) (c : Int) (l : List Int) (hl : l.length < 9223372036854775807) (k : Nat) (hk : l.length < k) : agateref10_Attrs.f k a b c l a b c l = some true := by
  unfold agateref10_Attrs.f
  rw [if_pos rfl, if_pos (beq_self_eq_true b)]
  cases b
  · rw [if_neg (by decide), ints_same_f l hl k hk]; rfl
  · rw [if_pos rfl, if_pos rfl]
theorem infos_l0 (l : List S79) (hl : l.length < 2932031007402) (d : Nat) : ∀ (k i : Nat), l.length - i = d → i ≤ l.length → d < k →
    agatelaw10_Infos.l0 k ((l.take i).map toI) l (l.length : Int) (i : Int) = some (l.map toI) := by
  induction d with
  | zero =>
    intro k i hdd hi hk
    obtain ⟨k, rfl⟩ : ∃ m, k = m + 1 := ⟨k - 1, by omega⟩
    simp only [agatelaw10_Infos.l0]
    rw [if_neg (by omega), List.take_of_length_le (by omega)]
  | succ d ih =>
    intro k i hdd hi hk
    obtain ⟨k, rfl⟩ : ∃ m, k = m + 1 := ⟨k - 1, by omega⟩
    have hlt : i < l.length := by omega
    have e0 : rd_T79 l (i : Int) = l[i] := by simp [rd_T79, hlt]
    have ih' := ih k (i + 1) (by omega) (by omega) (by omega)
    simp only [agatelaw10_Infos.l0]
    rw [if_pos (by omega), if_pos (by omega), if_pos (by omega), if_pos (by rw [List.length_map, List.length_take]; omega), e0, wrap64_id (by omega) (by omega)]
    rw [List.take_succ_eq_append_getElem hlt, List.map_append] at ih'
    exact ih'
theorem infos_f (l : List S79) (hl : l.length < 2932031007402) (k : Nat) (hk : l.length < k) : agatelaw10_Infos.f k l = some (l.map toI) := by
  have h := infos_l0 l hl l.length k 0 (by omega) (by omega) hk
  exact h
theorem of_l1 (l : List S33) (hl : l.length < 1759218604441) (K : Nat) (hK : ∀ x ∈ l, x.f3.length < 2513169434916 ∧ x.f3.length < K) (a : Int) (i1 i2 : List S130) (t : List S63) (d : Nat) : ∀ (k i : Nat), l.length - i = d → i ≤ l.length → K + d < k →
    agatelaw10_Of.l1 k l (l.length : Int) (i : Int) a i1 i2 t ((l.take i).map toN) = some (a, i1, i2, t, l.map toN) := by
  induction d with
  | zero =>
    intro k i hdd hi hk
    obtain ⟨k, rfl⟩ : ∃ m, k = m + 1 := ⟨k - 1, by omega⟩
    simp only [agatelaw10_Of.l1]
    rw [if_neg (by omega), List.take_of_length_le (by omega)]
  | succ d ih =>
    intro k i hdd hi hk
    obtain ⟨k, rfl⟩ : ∃ m, k = m + 1 := ⟨k - 1, by omega⟩
    have hlt : i < l.length := by omega
    have e0 : rd_T33 l (i : Int) = l[i] := by simp [rd_T33, hlt]
    have ih' := ih k (i + 1) (by omega) (by omega) (by omega)
    obtain ⟨h1, h2⟩ := hK l[i] (List.getElem_mem _)
    simp only [agatelaw10_Of.l1]
    rw [if_pos (by omega), if_pos (by omega), if_pos (by omega), e0, node_f l[i].f3 h1 _ _ _ k (by omega), Option.bind_some, if_pos (by rw [List.length_map, List.length_take]; omega), wrap64_id (by omega) (by omega)]
    rw [List.take_succ_eq_append_getElem hlt, List.map_append] at ih'
    exact ih'
theorem of_l0 (l : List S51) (hl : l.length < 2199023255552) (l4 : List S33) (hl4 : l4.length < 1759218604441) (K : Nat) (hK : ∀ x ∈ l4, x.f3.length < 2513169434916 ∧ x.f3.length < K) (b : Int) (l1 l2 : List S79) (l3 : List S51) (a : Int) (i1 i2 : List S130) (d : Nat) : ∀ (k i : Nat), l.length - i = d → i ≤ l.length → K + l4.length + d + 1 < k →
    agatelaw10_Of.l0 k l (l.length : Int) (i : Int) b l1 l2 l3 l4 a i1 i2 ((l.take i).map toT) = some (a, i1, i2, l.map toT, l4.map toN) := by
  induction d with
  | zero =>
    intro k i hdd hi hk
    obtain ⟨k, rfl⟩ : ∃ m, k = m + 1 := ⟨k - 1, by omega⟩
    simp only [agatelaw10_Of.l0]
    rw [if_neg (by omega), List.take_of_length_le (by omega)]
    have h := of_l1 l4 hl4 K hK a i1 i2 (l.map toT) l4.length k 0 (by omega) (by omega) (by omega)
    exact h
  | succ d ih =>
    intro k i hdd hi hk
    obtain ⟨k, rfl⟩ : ∃ m, k = m + 1 := ⟨k - 1, by omega⟩
    have hlt : i < l.length := by omega
    have e0 : rd_T51 l (i : Int) = l[i] := by simp [rd_T51, hlt]
    have ih' := ih k (i + 1) (by omega) (by omega) (by omega)
    simp only [agatelaw10_Of.l0]
    rw [if_pos (by omega), if_pos (by omega), if_pos (by omega), e0, show agatelaw07_Of.f l[i].f0 l[i].f1 l[i].f2 l[i].f3 = some (l[i].f0, l[i].f1, l[i].f2, l[i].f3) from rfl, Option.bind_some, if_pos (by rw [List.length_map, List.length_take]; omega), wrap64_id (by omega) (by omega)]
    rw [List.take_succ_eq_append_getElem hlt, List.map_append] at ih'
    exact ih'
theorem of_f (a : Int) (l1 l2 : List S79) (l3 : List S51) (l4 : List S33) (h1 : l1.length < 2932031007402) (h2 : l2.length < 2932031007402) (h3 : l3.length < 2199023255552) (h4 : l4.length < 1759218604441) (K : Nat) (hK : ∀ x ∈ l4, x.f3.length < 2513169434916 ∧ x.f3.length < K) (k : Nat) (hk : l1.length + l2.length + l3.length + l4.length + K + 2 < k) :
    agatelaw10_Of.f k a l1 l2 l3 l4 = some (a, l1.map toI, l2.map toI, l3.map toT, l4.map toN) := by
  unfold agatelaw10_Of.f
  rw [infos_f l1 h1 k (by omega), Option.bind_some, infos_f l2 h2 k (by omega), Option.bind_some]
  have h := of_l0 l3 h3 l4 h4 K hK a l1 l2 l3 a (l1.map toI) (l2.map toI) l3.length k 0 (by omega) (by omega) (by omega)
  exact h
theorem most (l : List S33) : ∃ K, ∀ x ∈ l, x.f3.length < K ∧ ∀ y ∈ x.f3, y.f3.length < K := by
  have inner : ∀ m : List S35, ∃ K, ∀ y ∈ m, y.f3.length < K := by
    intro m
    induction m with
    | nil => exact ⟨0, fun y hy => by cases hy⟩
    | cons y m ih =>
      obtain ⟨K, hK⟩ := ih
      refine ⟨K + y.f3.length + 1, fun z hz => ?_⟩
      rcases List.mem_cons.1 hz with rfl | hz
      · omega
      · have := hK z hz; omega
  induction l with
  | nil => exact ⟨0, fun x hx => by cases hx⟩
  | cons x l ih =>
    obtain ⟨K, hK⟩ := ih
    obtain ⟨K2, hK2⟩ := inner x.f3
    refine ⟨K + K2 + x.f3.length + 1, fun z hz => ?_⟩
    rcases List.mem_cons.1 hz with rfl | hz
    · exact ⟨by omega, fun y hy => by have := hK2 y hy; omega⟩
    · obtain ⟨h1, h2⟩ := hK z hz
      exact ⟨by omega, fun y hy => by have := h2 y hy; omega⟩
end Go.Proofs.Ytdemgfbolcmcdaa.X
namespace Go.Proofs.Ytdemgfbolcmcdaa.Pure
open Go.RowKit Go.Proofs.Ytdemgfbolcmcdaa.X Go.Proofs.YtdemgfbolcmcdaaW.PrintWords Go.Proofs.YtdemgfbolcmcdaaW.PrintLast Go.Proofs.YtdemgfbolcmcdaaW.PrintMore
set_option linter.unusedVariables false
set_option linter.unusedSimpArgs false
theorem awake10 : agatelaw10_Awake.f = some true := by decide +kernel
theorem finds_j3 (nm : ByteArray) (n : Int) (l : List Int) (hl : l.length ≤ 100) (k : Nat) : agatelaw10_ModelFinds.j3 (k + 2) nm n l false = some true := by
  have hc : slices_Clone_int64.f l = some l := if_pos (by omega)
  have h1 : model_Row.f nm l = some (nm, false, 0, l) := by unfold model_Row.f; rw [hc]; rfl
  have h2 : model_Attr_Same.f (k + 1) nm true n [] nm false 0 l = some false := by
    unfold model_Attr_Same.f
    rw [if_pos rfl]; rfl
  have h3 : model_Attr_Same.f (k + 1) nm true n [] nm true n [] = some true := by
    unfold model_Attr_Same.f
    rw [if_pos rfl]
    simp only [model_Attr_Same.j0]
    rw [if_neg (by decide), if_pos trivial, beq_self_eq_true]
  have h4 : model_Attr_Same.f (k + 1) nm false 0 l nm false 0 l = some true := by
    unfold model_Attr_Same.f
    rw [if_pos rfl]
    simp only [model_Attr_Same.j0]
    rw [if_neg (by decide), if_neg (by decide), show slices_Equal_int64_int64_s.f l l = some (decide (l = l)) from if_pos (by omega), decide_eq_true rfl]
    rfl
  have h5 : agatelaw03_Ints_s.f l l = some true := by rw [show agatelaw03_Ints_s.f l l = some (decide (l = l)) from if_pos (by omega), decide_eq_true rfl]
  rw [show k + 2 = (k + 1) + 1 from rfl]
  simp only [agatelaw10_ModelFinds.j3]
  rw [if_neg (by decide), show model_Number.f nm n = some (nm, true, n, []) from rfl, Option.bind_some, h1, Option.bind_some, awake10, Option.bind_some]
  dsimp only
  rw [if_pos rfl, if_pos rfl, if_pos rfl, if_pos rfl, if_pos rfl, if_neg (by decide), h5, Option.bind_some, if_pos rfl, h2, Option.bind_some, if_neg (by decide), h3, Option.bind_some, if_pos rfl, h4, Option.bind_some]
theorem finds_end (nm : ByteArray) (n : Int) (l : List Int) (hl : l.length ≤ 100) (a : Int) (l1 l2 : List S79) (l3 : List S51) (l4 : List S33) (h1 : l1.length < 2932031007402) (h2 : l2.length < 2932031007402) (h3 : l3.length < 2199023255552) (h3d : ∀ x ∈ l3, x.f2.length < 17592186044416) (h4 : l4.length < 1759218604441) (K : Nat) (hK : ∀ x ∈ l4, x.f3.length < 2513169434916 ∧ x.f3.length < K) (k : Nat) (hk : l1.length + l2.length + l3.length + l4.length + K + 9 < k) :
    ((model_Model_Init.f a l1 l2 l3 l4 nm).bind fun bt193 => ((agatelaw10_Of.f k a l1 l2 l3 l4).bind fun bt201 => ((agateref10_Init.f k bt201.2.2.2.1 nm).bind fun t215 => (if (bt193.2.2.2.2 != (decide (t215 ≥ 0))) = true then (none) else (if bt193.2.2.2.2 = true then ((agatelaw07_Of.f bt193.1 bt193.2.1 bt193.2.2.1 bt193.2.2.2.1).bind fun bt216 => (if 0 ≤ t215 then (if t215 < (bt201.2.2.2.1.length : Int) then ((agateref07_Same_s.f bt216.1 bt216.2.1 bt216.2.2.1 bt216.2.2.2 ((rd_T63 bt201.2.2.2.1 t215).f0) ((rd_T63 bt201.2.2.2.1 t215).f1) ((rd_T63 bt201.2.2.2.1 t215).f2) ((rd_T63 bt201.2.2.2.1 t215).f3)).bind fun t223 => (if t223 = true then (agatelaw10_ModelFinds.j3 k nm n l false) else (none))) else (none)) else (none))) else (agatelaw10_ModelFinds.j3 k nm n l (bt193.1.toList != ([] : List UInt8)))))))) = some true := by
  obtain ⟨k, rfl⟩ : ∃ m, k = m + 2 := ⟨k - 2, by omega⟩
  have hmap : (l3.map toT).map (fun x => x.f0) = nmTen l3 := by unfold nmTen; rw [List.map_map]; rfl
  have hd : (tenR l3 nm).f2.length < 17592186044416 := by
    unfold tenR
    rcases idxS_lt (nmTen l3) nm 0 with h | ⟨j, hj, h⟩
    · rw [h, if_pos (by decide)]; decide
    · have hjl : j < l3.length := by unfold nmTen at hj; rw [List.length_map] at hj; exact hj
      rw [h, if_neg (by omega)]
      have e : rd_T51 l3 ((0 + j : Nat) : Int) = l3[j] := by simp [rd_T51, hjl]
      rw [e]; exact h3d _ (List.getElem_mem _)
  have e1 : model_Model_Init.f a l1 l2 l3 l4 nm = some ((tenR l3 nm).f0, (tenR l3 nm).f1, (tenR l3 nm).f2, (tenR l3 nm).f3, decide (0 ≤ idxS (nmTen l3) nm 0)) := if_pos hd
  rw [e1, Option.bind_some, of_f a l1 l2 l3 l4 h1 h2 h3 h4 K hK (k + 2) (by omega), Option.bind_some]
  dsimp only
  rw [refinit_f (l3.map toT) (by rw [List.length_map]; omega) nm (k + 2) (by rw [List.length_map]; omega), Option.bind_some, hmap]
  have hb : (decide (0 ≤ idxS (nmTen l3) nm 0) != decide (idxS (nmTen l3) nm 0 ≥ 0)) = false := bne_self_eq_false _
  rw [hb, if_neg (by decide)]
  rcases idxS_lt (nmTen l3) nm 0 with h | ⟨j, hj, h⟩
  · have ht : tenR l3 nm = z51 := by unfold tenR; rw [h]; rfl
    have hz : (z51.f0.toList != ([] : List UInt8)) = false := by rw [show z51.f0.toList = ([] : List UInt8) from toList_nil.2 rfl]; rfl
    rw [if_neg (by rw [h]; decide), ht, hz]
    exact finds_j3 nm n l hl k
  · have hjl : j < l3.length := by unfold nmTen at hj; rw [List.length_map] at hj; exact hj
    have h' : idxS (nmTen l3) nm 0 = (j : Int) := by rw [h]; simp
    have e : rd_T51 l3 (j : Int) = l3[j] := by simp [rd_T51, hjl]
    have e2 : rd_T63 (l3.map toT) (j : Int) = toT l3[j] := by simp [rd_T63, hjl]
    have ht : tenR l3 nm = l3[j] := by unfold tenR; rw [h', if_neg (by omega), e]
    rw [h', ht, if_pos (by rw [decide_eq_true]; omega), show agatelaw07_Of.f l3[j].f0 l3[j].f1 l3[j].f2 l3[j].f3 = some (l3[j].f0, l3[j].f1, l3[j].f2, l3[j].f3) from rfl, Option.bind_some]
    rw [if_pos (by omega), if_pos (by rw [List.length_map]; omega), e2]
    have hs : agateref07_Same_s.f l3[j].f0 l3[j].f1 l3[j].f2 l3[j].f3 (toT l3[j]).f0 (toT l3[j]).f1 (toT l3[j]).f2 (toT l3[j]).f3 = some true := by
      rw [show agateref07_Same_s.f l3[j].f0 l3[j].f1 l3[j].f2 l3[j].f3 (toT l3[j]).f0 (toT l3[j]).f1 (toT l3[j]).f2 (toT l3[j]).f3 = some (sameR l3[j].f0 l3[j].f1 l3[j].f2 l3[j].f3 l3[j].f0 l3[j].f1 l3[j].f2 l3[j].f3) from if_pos (by have := h3d _ (List.getElem_mem hjl); omega)]
      unfold sameR
      rw [decide_eq_true ⟨rfl, rfl, rfl, rfl⟩]
    rw [hs, Option.bind_some, if_pos rfl]
    exact finds_j3 nm n l hl k
theorem finds_l0 (nm : ByteArray) (n : Int) (l : List Int) (hl : l.length ≤ 100) (a : Int) (l1 l2 : List S79) (l3 : List S51) (l4 : List S33) (h1 : l1.length < 2932031007402) (h2 : l2.length < 2932031007402) (h3 : l3.length < 2199023255552) (h3d : ∀ x ∈ l3, x.f2.length < 17592186044416) (h4 : l4.length < 1759218604441) (K : Nat) (hK : ∀ x ∈ l4, x.f3.length < 2513169434916 ∧ x.f3.length < K) (hK2 : ∀ x ∈ l4, ∀ y ∈ x.f3, y.f3.length < K ∧ y.f3.length < 17592186044416) (d : Nat) : ∀ (k i : Nat), l4.length - i = d → i ≤ l4.length → l1.length + l2.length + l3.length + l4.length + K + 20 + 2 * d < k →
    agatelaw10_ModelFinds.l0 k nm n l l4 (l4.length : Int) (i : Int) a l1 l2 l3 l4 = some true := by
  induction d with
  | zero =>
    intro k i hdd hi hk
    obtain ⟨k, rfl⟩ : ∃ m, k = m + 1 := ⟨k - 1, by omega⟩
    simp only [agatelaw10_ModelFinds.l0]
    rw [if_neg (by omega)]
    exact finds_end nm n l hl a l1 l2 l3 l4 h1 h2 h3 h3d h4 K hK k (by omega)
  | succ d ih =>
    intro k i hdd hi hk
    obtain ⟨k, rfl⟩ : ∃ m, k = m + 2 := ⟨k - 2, by omega⟩
    have hlt : i < l4.length := by omega
    have e0 : rd_T33 l4 (i : Int) = l4[i] := by simp [rd_T33, hlt]
    have ih1 := ih (k + 1) (i + 1) (by omega) (by omega) (by omega)
    have ih0 := ih k (i + 1) (by omega) (by omega) (by omega)
    obtain ⟨g1, g2⟩ := hK l4[i] (List.getElem_mem _)
    have g3 := hK2 l4[i] (List.getElem_mem _)
    have hj2 : agatelaw10_ModelFinds.j2 (k + 1) nm n l l4 (l4.length : Int) (i : Int) false a l1 l2 l3 l4 = some true := by
      simp only [agatelaw10_ModelFinds.j2]
      rw [if_neg (by decide), wrap64_id (by omega) (by omega)]
      exact ih0
    rw [show k + 2 = (k + 1) + 1 from rfl]
    simp only [agatelaw10_ModelFinds.l0]
    rw [if_pos (by omega), if_pos (by omega), if_pos (by omega), e0]
    generalize l4[i] = x at g1 g2 g3
    obtain ⟨op, ins, out, as_⟩ := x
    dsimp only at g1 g2 g3 ⊢
    have hmap : (as_.map toA).map (fun x => x.f0) = nmAttr as_ := by unfold nmAttr; rw [List.map_map]; rfl
    have eA : model_Node_Attr.f op ins out as_ nm = some ((attrR as_ nm).f0, (attrR as_ nm).f1, (attrR as_ nm).f2, (attrR as_ nm).f3, decide (0 ≤ idxS (nmAttr as_) nm 0)) := rfl
    have eO : model_Node_One.f op ins out as_ nm n = some (if decide (0 ≤ idxS (nmAttr as_) nm 0) && (attrR as_ nm).f1 then (attrR as_ nm).f2 else n) := rfl
    have eR : model_Node_Row.f op ins out as_ nm = (if decide (0 ≤ idxS (nmAttr as_) nm 0) = true then (if (attrR as_ nm).f1 = true then (some (([] : List Int), false)) else ((slices_Clone_int64.f (attrR as_ nm).f3).bind fun t110 => (some (t110, true)))) else (some (([] : List Int), false))) := rfl
    rw [eA, Option.bind_some, node_f as_ g1 _ _ _ (k + 1) (by omega), Option.bind_some]
    dsimp only
    rw [find_f (as_.map toA) (by rw [List.length_map]; omega) nm (k + 1) (by rw [List.length_map]; omega), Option.bind_some, hmap]
    have hb : (decide (0 ≤ idxS (nmAttr as_) nm 0) != decide (idxS (nmAttr as_) nm 0 ≥ 0)) = false := bne_self_eq_false _
    rcases idxS_lt (nmAttr as_) nm 0 with h | ⟨j, hj, h⟩
    · have ht : attrR as_ nm = z35 := by unfold attrR; rw [h]; rfl
      have hz : z35.f0.toList = ([] : List UInt8) := toList_nil.2 rfl
      have eR' : model_Node_Row.f op ins out as_ nm = some ([], false) := by rw [eR, h]; rfl
      have eO' : model_Node_One.f op ins out as_ nm n = some n := by rw [eO, h]; rfl
      rw [eR', Option.bind_some, eO', Option.bind_some, hb, if_neg (by decide), h, ht]
      dsimp only
      rw [if_pos (by decide), if_pos (show ((([] : List Int).length : Nat) : Int) = 0 from rfl), if_neg (by decide), if_pos rfl, if_pos hz, wrap64_id (by omega) (by omega)]
      exact ih1
    · have hjl : j < as_.length := by unfold nmAttr at hj; rw [List.length_map] at hj; exact hj
      have h' : idxS (nmAttr as_) nm 0 = (j : Int) := by rw [h]; simp
      have e : rd_T35 as_ (j : Int) = as_[j] := by simp [rd_T35, hjl]
      have ht : attrR as_ nm = as_[j] := by unfold attrR; rw [h', if_neg (by omega), e]
      obtain ⟨g4, g5⟩ := g3 as_[j] (List.getElem_mem _)
      have hdj : decide (0 ≤ (j : Int)) = true := decide_eq_true (by omega)
      rw [ht, h', hdj] at eR eO
      rw [hb, ht, h', e]
      generalize as_[j] = y at g4 g5 eR eO ⊢
      obtain ⟨yn, yo, yi, yl⟩ := y
      dsimp only at g4 g5 eR eO ⊢
      have hc : slices_Clone_int64.f yl = some yl := if_pos g5
      have hat : agateref10_Attrs.f (k + 1) yn yo yi yl yn yo yi yl = some true := attrs_same_f yn yo yi yl (by omega) (k + 1) (by omega)
      have hin : agatelaw03_Ints_s.f yl yl = some true := by rw [show agatelaw03_Ints_s.f yl yl = some (decide (yl = yl)) from if_pos (by omega), decide_eq_true rfl]
      cases yo
      · have eR' : model_Node_Row.f op ins out as_ nm = some (yl, true) := by rw [eR, if_pos rfl, if_neg (by decide), hc]; rfl
        have eO' : model_Node_One.f op ins out as_ nm n = some n := by rw [eO]; rfl
        rw [eR', Option.bind_some, eO', Option.bind_some, if_neg (by decide), if_neg (by omega), if_pos (by omega), if_pos (by omega), hat, Option.bind_some, if_pos rfl]
        dsimp only
        rw [if_neg (by decide), if_pos rfl, hin, Option.bind_some, if_pos rfl, if_neg (by decide), if_neg (by decide), bne_self_eq_false]
        exact hj2
      · have eR' : model_Node_Row.f op ins out as_ nm = some ([], false) := by rw [eR]; rfl
        have eO' : model_Node_One.f op ins out as_ nm n = some yi := by rw [eO]; rfl
        rw [eR', Option.bind_some, eO', Option.bind_some, if_neg (by decide), if_neg (by omega), if_pos (by omega), if_pos (by omega), hat, Option.bind_some, if_pos rfl]
        dsimp only
        rw [if_neg (by decide), if_neg (by decide), if_pos rfl, if_pos rfl, if_pos rfl]
        exact hj2
theorem ModelFinds : agatelaw10_ModelFinds.Pure := by
  intro x nm n l w0 w1 w2 w3
  obtain ⟨a, l1, l2, l3, l4⟩ := x
  show ∃ k, agatelaw10_ModelFinds.f k a l1 l2 l3 l4 nm n l = some true
  obtain ⟨_, ⟨_, b1, _⟩, ⟨_, b2, _⟩, ⟨_, b3, c3⟩, ⟨_, b4, c4⟩⟩ := w0
  have b1 : l1.length * 48 ≤ 140737488351232 := b1
  have b2 : l2.length * 48 ≤ 140737488351232 := b2
  have b3 : l3.length * 64 ≤ 140737488351232 := b3
  have b4 : l4.length * 80 ≤ 140737488351232 := b4
  obtain ⟨K, hK⟩ := most l4
  have h3d : ∀ x ∈ l3, x.f2.length < 17592186044416 := by
    intro x hx
    obtain ⟨_, _, ⟨_, h, _⟩, _⟩ := c3 x hx
    have h : x.f2.length * 8 ≤ 140737488351232 := h
    omega
  have hK1 : ∀ x ∈ l4, x.f3.length < 2513169434916 ∧ x.f3.length < K := by
    intro x hx
    obtain ⟨_, _, _, ⟨_, h, _⟩⟩ := c4 x hx
    have h : x.f3.length * 56 ≤ 140737488351232 := h
    exact ⟨by omega, (hK x hx).1⟩
  have hK2 : ∀ x ∈ l4, ∀ y ∈ x.f3, y.f3.length < K ∧ y.f3.length < 17592186044416 := by
    intro x hx y hy
    obtain ⟨_, _, _, ⟨_, _, h⟩⟩ := c4 x hx
    obtain ⟨_, _, _, ⟨_, h, _⟩⟩ := h y hy
    have h : y.f3.length * 8 ≤ 140737488351232 := h
    exact ⟨(hK x hx).2 y hy, by omega⟩
  have early : ∀ k, agatelaw10_ModelFinds.j0 (k + 1) nm n l true a l1 l2 l3 l4 = some true := by
    intro k
    simp only [agatelaw10_ModelFinds.j0]
    rw [if_pos trivial, awake10]; rfl
  obtain ⟨k, hk⟩ : ∃ k, k = l1.length + l2.length + l3.length + l4.length + K + 21 + 2 * l4.length := ⟨_, rfl⟩
  refine ⟨k + 1, ?_⟩
  unfold agatelaw10_ModelFinds.f
  rw [show agatelaw10_Small.f a l1 l2 l3 l4 = some (decide (smallN l1 l2 l3 l4 ≤ 6000)) from rfl, Option.bind_some]
  generalize decide (smallN l1 l2 l3 l4 ≤ 6000) = b
  cases b
  · rw [if_neg (by decide)]; exact early k
  rw [if_pos rfl]
  by_cases g1 : (nm.size : Int) > 200
  · rw [if_pos g1]; exact early k
  rw [if_neg g1]
  by_cases g2 : (l.length : Int) > 100
  · rw [decide_eq_true g2]; exact early k
  rw [decide_eq_false g2]
  simp only [agatelaw10_ModelFinds.j0]
  rw [if_neg (by decide)]
  have h := finds_l0 nm n l (by omega) a l1 l2 l3 l4 (by omega) (by omega) (by omega) h3d (by omega) K hK1 hK2 l4.length k 0 (by omega) (by omega) (by omega)
  exact h
end Go.Proofs.Ytdemgfbolcmcdaa.Pure
namespace Go.Proofs.Ytdemgfbolcmcdaa.modelFinds
open Go.ChangeShapes Go.WideShapes Go.ChangeAt Go.RowKit Go.Proofs.Ytdemgfbolcmcdaa.X Go.Proofs.YtdemgfbolcmcdaaW.PrintWords
set_option linter.unusedVariables false
theorem own : ownKnob Try.prog.godebug = none := by kernel_rfl
theorem laidOut : laidOutB Try.prog = true := by kernel_rfl
set_option maxRecDepth 100000 in
theorem lifted (os : Os) (started : os.Started) (H : Type) (enc : TypeId × Value → H) :
    ReturnsInHanded {} Try.checked os 3 .any (Rows.modelFindsSpec.pre6 enc Try.prog Try.f3 Rows.modelFindsRow.domain false) (Rows.modelFindsSpec.post enc Try.prog Try.f3 false true false false) := by
  refine returnsInHanded_of_change_sized (C := Try.checked) own started (by kernel_rfl) Try.func3
    (ChangeSpec.witness6 (enc := enc) (C := Try.checked) false ⟨#[], #[.agg #[.int .i64 0, .slice none 0 0, .slice none 0 0, .slice none 0 0, .slice none 0 0], .string ByteArray.empty, .int .i64 0, .slice none 0 0], []⟩ 8 (by kernel_rfl) (by kernel_rfl) (by kernel_rfl) (by kernel_rfl)) ?_
  intro W base args ds gs before hval0 hW hcnd hsz0 _
  have hsz : (DataW.weightsEach Try.prog (Try.f3.params.toList ++ Rows.modelFindsSpec.plain.varTypes Try.prog) (ds ++ gs)).all (· ≤ reachBytes) = true := hsz0
  have hval : ∀ (j : Nat) t v, Try.f3.params[j]? = some t → args[j]? = some v → Value.okWide Try.prog W .any base t v := hval0
  have hW' := hW
  obtain ⟨p, q, hA0, hV, rfl, hfz, hnd⟩ := hW
  have hA : DataW.TrodAll enc Try.prog W 0 (fun _ => true) true Try.f3.params.toList args.toList ds p := hA0
  rw [Try.params3] at hA hval hsz
  obtain ⟨v0, vs0, d0, ds0, p0, q0, hargs, rfl, rfl, h0, r0⟩ := trodAll_cons hA
  obtain ⟨v1, vs1, d1, ds1, p1, q1, rfl, rfl, rfl, h1, r1⟩ := trodAll_cons r0
  obtain ⟨v2, vs2, d2, ds2, p2, q2, rfl, rfl, rfl, h2, r2⟩ := trodAll_cons r1
  obtain ⟨v3, vs3, d3, ds3, p3, q3, rfl, rfl, rfl, h3, r3⟩ := trodAll_cons r2
  obtain ⟨rfl, rfl, rfl⟩ := trodAll_nil r3
  obtain rfl : args = #[v0, v1, v2, v3] := by cases args; simp_all
  obtain ⟨rfl, rfl⟩ := trodVars_none hV
  have k0 := h0
  have lt0 : ∀ x ∈ p0, x.block < W.heap.size := by obtain ⟨m, hm⟩ := k0; exact DataW.trod_lt m _ _ _ hm
  obtain ⟨fuel0, hf0⟩ := h0
  obtain ⟨x0, K0, wf0⟩ := ((op26 enc W) : Opens enc Try.prog W 26 k26 wf26).go fuel0 _ _ hf0 (fun m hm => by simpa using List.all_eq_true.1 hsz m (DataW.weights_mem_each (j := 0) (t := 26) rfl rfl m hm))
  obtain ⟨cs0, rfl, _⟩ := okWide_struct Try.underlying26 (hval 0 26 v0 rfl rfl)
  have K0' : k26.K W x0 cs0.toList := K0
  obtain ⟨A0_1, c0_1, A0_2, c0_2, A0_3, c0_3, A0_4, c0_4, e0, hc0_1, hr0_1, hc0_2, hr0_2, hc0_3, hr0_3, hc0_4, hr0_4⟩ := k26_open K0'
  obtain rfl : cs0 = #[.int .i64 x0.f0, .slice A0_1 x0.f1.length c0_1, .slice A0_2 x0.f2.length c0_2, .slice A0_3 x0.f3.length c0_3, .slice A0_4 x0.f4.length c0_4] := by cases cs0; simpa using e0
  have k1 := h1
  have lt1 : ∀ x ∈ p1, x.block < W.heap.size := by obtain ⟨m, hm⟩ := k1; exact DataW.trod_lt m _ _ _ hm
  obtain ⟨fuel1, hf1⟩ := h1
  obtain ⟨x1, K1, wf1⟩ := ((Opens.string Try.underlying9 (by kernel_rfl)) : Opens enc Try.prog W 9 Kd.string (fun a => a.size ≤ 140737488351232)).go fuel1 _ _ hf1 (fun m hm => by simpa using List.all_eq_true.1 hsz m (DataW.weights_mem_each (j := 1) (t := 9) rfl rfl m hm))
  obtain ⟨b1, rfl⟩ := okWide_string Try.underlying9 (hval 1 9 v1 rfl rfl)
  obtain rfl : b1 = x1 := by have e_ := K1; simpa [Kd.int, Kd.bool, Kd.string, Kd.scalar, Value.cells] using e_
  have k2 := h2
  have lt2 : ∀ x ∈ p2, x.block < W.heap.size := by obtain ⟨m, hm⟩ := k2; exact DataW.trod_lt m _ _ _ hm
  obtain ⟨fuel2, hf2⟩ := h2
  obtain ⟨x2, K2, wf2⟩ := ((Opens.int Try.underlying2 (by kernel_rfl)) : Opens enc Try.prog W 2 (Kd.int .i64) (fun a => (Lit.int .i64 a).wf = true)).go fuel2 _ _ hf2 (fun m hm => by simpa using List.all_eq_true.1 hsz m (DataW.weights_mem_each (j := 2) (t := 2) rfl rfl m hm))
  obtain ⟨b2, rfl⟩ := okWide_int Try.underlying2 (hval 2 2 v2 rfl rfl)
  obtain rfl : b2 = x2 := by have e_ := K2; simpa [Kd.int, Kd.bool, Kd.string, Kd.scalar, Value.cells] using e_
  have k3 := h3
  have lt3 : ∀ x ∈ p3, x.block < W.heap.size := by obtain ⟨m, hm⟩ := k3; exact DataW.trod_lt m _ _ _ hm
  obtain ⟨fuel3, hf3⟩ := h3
  obtain ⟨x3, K3, wf3⟩ := ((Opens.slice Try.underlying27 (by kernel_rfl) (by kernel_rfl) (Opens.int Try.underlying2 (by kernel_rfl))) : Opens enc Try.prog W 27 (Kd.slice 2 (Kd.int .i64)) (fun l => l.length ≤ maxLen ∧ l.length * 8 ≤ 140737488351232 ∧ ∀ x ∈ l, (fun a => (Lit.int .i64 a).wf = true) x)).go fuel3 _ _ hf3 (fun m hm => by simpa using List.all_eq_true.1 hsz m (DataW.weights_mem_each (j := 3) (t := 27) rfl rfl m hm))
  obtain ⟨a3, len3, cap3, rfl⟩ := okWide_slice Try.underlying27 (hval 3 27 v3 rfl rfl)
  obtain ⟨A3, c3, e3, hc3, hr3⟩ := K3
  obtain ⟨rfl, rfl, rfl⟩ : a3 = A3 ∧ len3 = x3.length ∧ cap3 = c3 := by simpa [Value.cells] using e3
  clear hA0 hval0 hsz0 hsz
  obtain ⟨k, hp⟩ := Pure.ModelFinds x0 b1 b2 x3 wf0 wf1 wf2 wf3
  refine (agatelaw10_ModelFinds.calls k (x0.f0) A0_1 c0_1 (x0.f1) A0_2 c0_2 (x0.f2) A0_3 c0_3 (x0.f3) A0_4 c0_4 (x0.f4) b1 b2 a3 cap3 x3 true W hr0_1 hc0_1 hr0_2 hc0_2 hr0_3 hc0_3 hr0_4 hc0_4 hr3 hc3 hp).mono fun e W' ⟨he, bel0⟩ => ?_
  have bel : Below W.heap.size W W' := bel0
  subst he
  exact ⟨_, rfl, _, _, _, [], _, [], hW', trodAll_mk1 (shut_bool Try.underlying4 _), (trodAll_cons_mk (Below.trod laidOut (by kernel_rfl) (of_decide_eq_true (by kernel_rfl)) k0 bel lt0) (trodAll_cons_mk (Below.trod laidOut (by kernel_rfl) (of_decide_eq_true (by kernel_rfl)) k1 bel lt1) (trodAll_cons_mk (Below.trod laidOut (by kernel_rfl) (of_decide_eq_true (by kernel_rfl)) k2 bel lt2) (trodAll_cons_mk (Below.trod laidOut (by kernel_rfl) (of_decide_eq_true (by kernel_rfl)) k3 bel lt3) trodAll_mk0)))), rfl, bel.frame _, fun h => by cases h⟩
theorem over : Rows.modelFindsRow.holds Try.pinned (OpenSpec.ofChange Rows.modelFindsSpec) :=
  OpenClaim.holds_of_wide 3 Try.f3 rfl rfl rfl rfl rfl rfl rfl ⟨rfl, rfl, rfl, rfl, rfl⟩ rfl rfl rfl rfl rfl (by kernel_rfl) Try.func3 (by kernel_rfl)
    (of_decide_eq_true (by kernel_rfl)) (by unfold Func.isWrapper; first | (rw [if_pos (by decide +kernel)]; kernel_rfl) | (rw [if_neg (by decide +kernel)]; exact ⟨rfl, rfl⟩))
    (fun os started H enc _ => lifted os started H enc)
theorem proved : Rows.ModelFindsSaid := over
#print axioms proved
end Go.Proofs.Ytdemgfbolcmcdaa.modelFinds
namespace Go.Proofs.Ytdemgfbolcmcdaa
theorem modelFinds_holds : Rows.ModelFindsSaid := modelFinds.proved
end Go.Proofs.Ytdemgfbolcmcdaa
