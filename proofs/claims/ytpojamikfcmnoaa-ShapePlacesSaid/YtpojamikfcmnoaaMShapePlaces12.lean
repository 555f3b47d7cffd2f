/- The law ShapePlaces holds of the given program for every input, without any condition. -/
import Derived.Test.YtpojamikfcmnoaaMShapePlaces11
import Derived.Test.YtpojamikfcmnoaaMShapePlaces1
import Derived.Test.YtpojamikfcmnoaaMShapePlaces6
import Derived.Test.YtpojamikfcmnoaaMShapePlaces10
import Derived.Test.YtpojamikfcmnoaaMShapePlaces3
import Derived.Test.YtpojamikfcmnoaaMShapePlaces2
import Derived.Test.YtpojamikfcmnoaaMShapePlaces0
import Derived.Test.YtpojamikfcmnoaaRows
import Derived.WalkKit
import Derived.ProofKit
import Derived.OpenShut
import Derived.ShutString
import Derived.ChangeOld
import Derived.Below
import Derived.SizedLaws
import Derived.Test.YtpojamikfcmnoaaWSized
namespace Go.Proofs.Ytpojamikfcmnoaa.Pure
open Go.RowKit Go.Proofs.Ytpojamikfcmnoaa.X Go.Proofs.YtpojamikfcmnoaaW.PrintWords Go.Proofs.YtpojamikfcmnoaaW.PrintLast Go.Proofs.YtpojamikfcmnoaaW.PrintMore
set_option linter.unusedVariables false
set_option linter.unusedSimpArgs false
theorem places_ints (l : List Int) (h : l.length ≤ 1000000) : agatelaw03_Ints_s.f l l = some true := by
  unfold agatelaw03_Ints_s.f; rw [if_pos (by omega), decide_eq_true rfl]
theorem backL_len (ds : List Int) : ∀ ps, (backL ds ps).length ≤ ps.length := by
  induction ds with
  | nil => intro ps; cases ps <;> exact Nat.le_refl _
  | cons d ds ih =>
    intro ps
    cases ps with
    | nil => exact Nat.le_refl _
    | cons p ps => rw [backL, List.length_cons, List.length_cons]; exact Nat.succ_le_succ (ih ps)
theorem places_awake : agatelaw05_Awake_s.f = some true := rfl
theorem places_back (x0 x9 : List Int) (h8 : x9.length ≤ 8) (hx : x0.length ≤ x9.length) (hl : (placesS x9).length ≤ 400) (d : Nat) : ∀ (i k : Nat), (placesS x9).length - i = d → d < k → i ≤ (placesS x9).length →
    agatelaw05_ShapePlaces.l1 k x0 (placesS x9) ((placesS x9).length : Int) (i : Int) = some true := by
  induction d with
  | zero =>
    intro i k hd hk hi
    obtain ⟨k, rfl⟩ : ∃ m, k = m + 1 := ⟨k - 1, by omega⟩
    rw [agatelaw05_ShapePlaces.l1, if_neg (by omega)]; rfl
  | succ d ih =>
    intro i k hd hk hi
    obtain ⟨k, rfl⟩ : ∃ m, k = m + 1 := ⟨k - 1, by omega⟩
    have h0 : i < (placesS x9).length := by omega
    have er : rd_L2 (placesS x9) (i : Int) = (placesS x9)[i] := by simp [rd_L2, List.getD_eq_getElem?_getD, h0]
    have hw : ((placesS x9)[i]).length = x9.length := placesS_width _ (List.getElem_mem h0)
    have e1 : shape_Back_s.f x0 (placesS x9)[i] = some (backL x0 (((placesS x9)[i]).drop (((placesS x9)[i]).length - x0.length))) := if_pos ⟨by omega, by omega⟩
    have e2 : agateref05_Back_s.f x0 (placesS x9)[i] = some (backL x0 (((placesS x9)[i]).drop (((placesS x9)[i]).length - x0.length))) := if_pos ⟨by omega, by omega⟩
    have hb := backL_len x0 (((placesS x9)[i]).drop (((placesS x9)[i]).length - x0.length))
    rw [List.length_drop] at hb
    have c1 : (i : Int) < ((placesS x9).length : Int) := by omega
    rw [agatelaw05_ShapePlaces.l1, if_pos c1, if_pos (by omega), if_pos c1, er, e1, Option.bind_some, e2, Option.bind_some, places_ints _ (by omega), Option.bind_some, if_pos rfl, wrap64_id (by omega) (by omega)]
    exact ih (i + 1) k (by omega) (by omega) (by omega)
theorem places_j2 (x0 x1 : List Int) (g : Bool) (hb : (broadS x0 x1).2 = 0 ∨ g = true) (hg : g = false → (sizeS (broadS x0 x1).1).1 ≤ 400) : agatelaw05_ShapePlaces.j2 402 x0 (broadS x0 x1).1 g = some true := by
  rw [agatelaw05_ShapePlaces.j2]
  cases g with
  | true => rfl
  | false =>
    have hb : (broadS x0 x1).2 = 0 := by rcases hb with h | h; exact h; cases h
    have h0 : broadS x0 x1 = ((broadS x0 x1).1, 0) := Prod.ext rfl hb
    obtain ⟨_, _, hs, _⟩ := broadS_ok h0
    have hlen := broadS_len h0
    generalize (broadS x0 x1).1 = x9 at *
    obtain ⟨g1, g2, g3⟩ := sizeS_good hs
    have hg := hg rfl
    have g4 : 0 ∈ x9 ∨ numL x9 ≤ 400 := by rcases g3 with h | h; exact Or.inl h; exact Or.inr (by omega)
    have e1 : agateref05_Places_s.f x9 = some (placesS x9) := if_pos ⟨g1, g2, g4⟩
    rw [if_neg (by simp), e1, Option.bind_some]
    exact places_back x0 x9 g1 (by omega) (placesS_len g4) _ 0 401 rfl (by have := placesS_len g4; omega) (by omega)
theorem places_loop (x0 x1 : List Int) (h8 : x0.length ≤ 8) (hp : ∀ x ∈ x0, 0 ≤ x) (hn : 0 ∈ x0 ∨ numL x0 ≤ 400) (d : Nat) : ∀ (i : Nat), (placesS x0).length - i = d → i ≤ (placesS x0).length →
    agatelaw05_ShapePlaces.l0 (402 + d + 1) x0 x1 (placesS x0) ((placesS x0).length : Int) (i : Int) = some true := by
  have hl := placesS_len hn
  induction d with
  | zero =>
    intro i hd hi
    rw [agatelaw05_ShapePlaces.l0, if_neg (by omega)]
    show (if (broadS x0 x1).2 = 0 then (agatelaw05_ShapePlaces.j2 402 x0 (broadS x0 x1).1 (decide ((sizeS (broadS x0 x1).1).1 > 400))) else (agatelaw05_ShapePlaces.j2 402 x0 (broadS x0 x1).1 true)) = some true
    by_cases h : (broadS x0 x1).2 = 0
    · rw [if_pos h]
      exact places_j2 x0 x1 _ (Or.inl h) (fun g => by have := of_decide_eq_false g; omega)
    · rw [if_neg h]
      exact places_j2 x0 x1 _ (Or.inr rfl) (fun g => by cases g)
  | succ d ih =>
    intro i hd hi
    have h0 : i < (placesS x0).length := by omega
    have er : rd_L2 (placesS x0) (i : Int) = (placesS x0)[i] := by simp [rd_L2, List.getD_eq_getElem?_getD, h0]
    have hw : ((placesS x0)[i]).length = x0.length := placesS_width _ (List.getElem_mem h0)
    obtain ⟨q1, q2, q3⟩ := placesS_at hp hn i _ (List.getElem?_eq_getElem h0)
    have e1 : shape_Place_s.f x0 (i : Int) = some (placesS x0)[i] := (if_pos (by omega)).trans (by rw [q1])
    have e2 : shape_Count_s.f x0 (placesS x0)[i] = some (i : Int) := (if_pos ⟨by omega, by omega⟩).trans (by rw [q2])
    have c1 : (i : Int) < ((placesS x0).length : Int) := by omega
    rw [agatelaw05_ShapePlaces.l0, if_pos c1, if_pos (by omega), if_pos c1, er, e1, Option.bind_some, places_ints _ (by omega), Option.bind_some, if_pos rfl, e2, Option.bind_some, if_pos rfl, wrap64_id (by omega) (by omega)]
    exact ih (i + 1) (by omega) (by omega)
theorem ShapePlaces : agatelaw05_ShapePlaces.Pure := by
  intro a b _ _ _ _ _ _
  by_cases h : (sizeS a).2 = 0
  · by_cases h4 : (sizeS a).1 > 400
    · refine ⟨1, ?_⟩
      show (if (sizeS a).2 = 0 then (agatelaw05_ShapePlaces.j0 1 a b (decide ((sizeS a).1 > 400))) else (agatelaw05_ShapePlaces.j0 1 a b true)) = some true
      rw [if_pos h, decide_eq_true h4]; rfl
    · obtain ⟨g1, g2, g3⟩ := sizeS_good h
      have g4 : 0 ∈ a ∨ numL a ≤ 400 := by rcases g3 with h | h; exact Or.inl h; exact Or.inr (by omega)
      have e1 : agateref05_Places_s.f a = some (placesS a) := if_pos ⟨g1, g2, g4⟩
      refine ⟨402 + (placesS a).length + 1 + 1, ?_⟩
      show (if (sizeS a).2 = 0 then (agatelaw05_ShapePlaces.j0 (402 + (placesS a).length + 1 + 1) a b (decide ((sizeS a).1 > 400))) else (agatelaw05_ShapePlaces.j0 (402 + (placesS a).length + 1 + 1) a b true)) = some true
      rw [if_pos h, decide_eq_false h4, agatelaw05_ShapePlaces.j0, if_neg (by simp), e1, Option.bind_some]
      exact places_loop a b g1 (fun x hx => (g2 x hx).1) g4 _ 0 rfl (by omega)
  · refine ⟨1, ?_⟩
    show (if (sizeS a).2 = 0 then (agatelaw05_ShapePlaces.j0 1 a b (decide ((sizeS a).1 > 400))) else (agatelaw05_ShapePlaces.j0 1 a b true)) = some true
    rw [if_neg h]; rfl

end Go.Proofs.Ytpojamikfcmnoaa.Pure
-- by xprint.py, a program of this session, over the kit's print.py
namespace Go.Proofs.Ytpojamikfcmnoaa.shapePlaces
open Go.ChangeShapes Go.WideShapes Go.ChangeAt Go.RowKit
open Go.ChangeMaps (open_string shut_string)
set_option linter.unusedVariables false
theorem own : ownKnob Try.prog.godebug = none := by kernel_rfl
theorem laidOut : laidOutB Try.prog = true := by kernel_rfl
def IsRow (k : IntKind) (w : World) (a : Option Addr) (len cap : Nat) (zs : List Int) : Prop :=
  (a = none ∧ len = 0 ∧ cap = 0 ∧ zs = []) ∨
  ∃ x, a = some x ∧ len ≤ cap ∧ cap ≤ maxLen ∧ zs.length = cap ∧ (∀ i, i < zs.length → w.cell? (x.add i) = some (.int k (zs.getD i 0))) ∧ ∀ n ∈ zs, (Lit.int k n).wf = true
set_option maxRecDepth 100000 in
theorem lifted (os : Os) (started : os.Started) (H : Type) (enc : TypeId × Value → H) :
    ReturnsInHanded {} Try.checked os 8 .any (Rows.shapePlacesSpec.pre6 enc Try.prog Try.f8 Rows.shapePlacesRow.domain false) (Rows.shapePlacesSpec.post enc Try.prog Try.f8 false true false false) := by
  refine returnsInHanded_of_change_sized (C := Try.checked) own started (by kernel_rfl) Try.func8
    (ChangeSpec.witness6 (enc := enc) (C := Try.checked) false ⟨#[], #[.slice none 0 0, .slice none 0 0], []⟩ 8 (by kernel_rfl) (by kernel_rfl) (by kernel_rfl) (by kernel_rfl)) ?_
  intro W base args ds gs before hval0 hW hcnd hsz0 _
  have hsz : (DataW.weightsEach Try.prog (Try.f8.params.toList ++ Rows.shapePlacesSpec.plain.varTypes Try.prog) (ds ++ gs)).all (· ≤ reachBytes) = true := hsz0
  have hval : ∀ (j : Nat) t v, Try.f8.params[j]? = some t → args[j]? = some v → Value.okWide Try.prog W .any base t v := hval0
  have hW' := hW
  obtain ⟨p, q, hA0, hV, rfl, hfz, hnd⟩ := hW
  have hA : DataW.TrodAll enc Try.prog W 0 (fun _ => true) true Try.f8.params.toList args.toList ds p := hA0
  rw [Try.params8] at hA hval hsz
  obtain ⟨v0, vs0, d0, ds0, p0, q0, hargs, rfl, rfl, h0, r0⟩ := trodAll_cons hA
  obtain ⟨v1, vs1, d1, ds1, p1, q1, rfl, rfl, rfl, h1, r1⟩ := trodAll_cons r0
  obtain ⟨rfl, rfl, rfl⟩ := trodAll_nil r1
  obtain rfl : args = #[v0, v1] := by cases args; simp_all
  obtain ⟨rfl, rfl⟩ := trodVars_none hV
  obtain ⟨a0, len0, cap0, rfl⟩ := okWide_slice Try.underlying39 (hval 0 39 v0 rfl rfl)
  have k0 := h0
  have lt0 : ∀ x ∈ p0, x.block < W.heap.size := by obtain ⟨m, hm⟩ := k0; exact DataW.trod_lt m _ _ _ hm
  obtain ⟨z0, w0⟩ : ∃ zs, IsRow .i64 W a0 len0 cap0 zs := by
    obtain ⟨fuel, hf⟩ := h0
    rcases open_ints Try.underlying39 Try.underlying2 (by kernel_rfl) hf with ⟨hcs, _⟩ | ⟨x, l, c, zs, hcs, _, hl, hm, hz, _, hcell, hwz⟩
    · simp [Value.cells] at hcs
      obtain ⟨rfl, rfl, rfl⟩ := hcs
      exact ⟨[], .inl ⟨rfl, rfl, rfl, rfl⟩⟩
    · simp [Value.cells] at hcs
      obtain ⟨rfl, rfl, rfl⟩ := hcs
      exact ⟨zs, .inr ⟨_, rfl, hl, hm, by simpa using hz, hcell, hwz⟩⟩
  have y0 : len0 * 8 ≤ 140737488351232 := Go.Proofs.YtpojamikfcmnoaaW.PrintWords.sized_ints hsz (j := 0) (t := 39) rfl rfl Try.underlying39 Try.underlying2 (by kernel_rfl) (by kernel_rfl) h0
  obtain ⟨a1, len1, cap1, rfl⟩ := okWide_slice Try.underlying39 (hval 1 39 v1 rfl rfl)
  have k1 := h1
  have lt1 : ∀ x ∈ p1, x.block < W.heap.size := by obtain ⟨m, hm⟩ := k1; exact DataW.trod_lt m _ _ _ hm
  obtain ⟨z1, w1⟩ : ∃ zs, IsRow .i64 W a1 len1 cap1 zs := by
    obtain ⟨fuel, hf⟩ := h1
    rcases open_ints Try.underlying39 Try.underlying2 (by kernel_rfl) hf with ⟨hcs, _⟩ | ⟨x, l, c, zs, hcs, _, hl, hm, hz, _, hcell, hwz⟩
    · simp [Value.cells] at hcs
      obtain ⟨rfl, rfl, rfl⟩ := hcs
      exact ⟨[], .inl ⟨rfl, rfl, rfl, rfl⟩⟩
    · simp [Value.cells] at hcs
      obtain ⟨rfl, rfl, rfl⟩ := hcs
      exact ⟨zs, .inr ⟨_, rfl, hl, hm, by simpa using hz, hcell, hwz⟩⟩
  have y1 : len1 * 8 ≤ 140737488351232 := Go.Proofs.YtpojamikfcmnoaaW.PrintWords.sized_ints hsz (j := 1) (t := 39) rfl rfl Try.underlying39 Try.underlying2 (by kernel_rfl) (by kernel_rfl) h1
  clear hA0 hval0 hsz0 hsz
  refine (X.agatelaw05_ShapePlaces.walk Pure.ShapePlaces a0 len0 cap0 z0 a1 len1 cap1 z1 W w0 y0 w1 y1).mono fun e W' ⟨he, bel⟩ => ?_
  subst he
  exact ⟨_, rfl, _, _, _, [], _, [], hW', trodAll_mk1 (shut_bool Try.underlying4 _), (trodAll_cons_mk (Below.trod laidOut (by kernel_rfl) (of_decide_eq_true (by kernel_rfl)) k0 bel lt0) (trodAll_cons_mk (Below.trod laidOut (by kernel_rfl) (of_decide_eq_true (by kernel_rfl)) k1 bel lt1) trodAll_mk0)), rfl, bel.frame _, fun h => by cases h⟩
theorem over : Rows.shapePlacesRow.holds Try.pinned (OpenSpec.ofChange Rows.shapePlacesSpec) :=
  OpenClaim.holds_of_wide 8 Try.f8 rfl rfl rfl rfl rfl rfl rfl ⟨rfl, rfl, rfl, rfl, rfl⟩ rfl rfl rfl rfl rfl (by kernel_rfl) Try.func8 (by kernel_rfl)
    (of_decide_eq_true (by kernel_rfl)) (by unfold Func.isWrapper; first | (rw [if_pos (by decide +kernel)]; kernel_rfl) | (rw [if_neg (by decide +kernel)]; exact ⟨rfl, rfl⟩))
    (fun os started H enc _ => lifted os started H enc)
theorem proved : Rows.ShapePlacesSaid := over
#print axioms proved
end Go.Proofs.Ytpojamikfcmnoaa.shapePlaces
namespace Go.Proofs.Ytpojamikfcmnoaa
/-- The row, under a short name, for the claim. -/
theorem shapePlaces_holds : Rows.ShapePlacesSaid := shapePlaces.proved
end Go.Proofs.Ytpojamikfcmnoaa
