/- The law ShapeTurns holds of the given program for every input, without any condition. -/
import Derived.Test.YtpojamikfcmnoaaMShapeTurns6
import Derived.Test.YtpojamikfcmnoaaMShapeTurns1
import Derived.Test.YtpojamikfcmnoaaMShapeTurns5
import Derived.Test.YtpojamikfcmnoaaMShapeTurns2
import Derived.Test.YtpojamikfcmnoaaRows
import Derived.WalkKit
import Derived.ProofKit
import Derived.OpenShut
import Derived.ShutString
import Derived.ChangeOld
import Derived.Below
import Derived.SizedLaws
import Derived.Test.YtpojamikfcmnoaaWSized
namespace Go.Proofs.Ytpojamikfcmnoaa.Pure
open Go.RowKit Go.Proofs.Ytpojamikfcmnoaa.X Go.Proofs.YtpojamikfcmnoaaW.PrintWords Go.Proofs.YtpojamikfcmnoaaW.PrintLast Go.Proofs.YtpojamikfcmnoaaW.PrintMore
set_option linter.unusedVariables false
set_option linter.unusedSimpArgs false
theorem ints_same (l : List Int) (h : l.length < 1000000) : agatelaw03_Ints_s.f l l = some true := by
  unfold agatelaw03_Ints_s.f; rw [if_pos (by omega), decide_eq_true rfl]
theorem broadS_short (a b : List Int) : (broadS a b).1.length < 1000000 := by
  by_cases h : (broadS a b).2 = 0
  · have := sizeS_len (broadS_ok (Prod.ext rfl h : broadS a b = ((broadS a b).1, 0))).2.2.1
    omega
  · rw [broadS_bad h]; decide
theorem ShapeTurns : agatelaw05_ShapeTurns.Pure := by
  intro a b c _ _ _ _ _ _ _ _ _
  refine ⟨4, ?_⟩
  have eb : ∀ x y : List Int, shape_Broadcast_s.f x y = some (broadS x y) := fun _ _ => rfl
  have ea : agatelaw05_Awake_s.f = some true := rfl
  obtain ⟨t1, t2⟩ := broadS_turn a b
  have h3 : ∀ (x l u : List Int) (g : Bool), (g = false → broadS a u = (l, 0)) → agatelaw05_ShapeTurns.j3 1 a l u g = some true := by
    intro x l u g h
    rw [agatelaw05_ShapeTurns.j3, ea]
    cases g with
    | true => rfl
    | false =>
      have hl := broadS_short a u
      rw [if_neg (by simp), eb, h rfl]
      rw [h rfl] at hl
      show ((agatelaw03_Ints_s.f l l).bind fun t131 => (some t131)) = some true
      rw [ints_same l hl]; rfl
  have h2 : agatelaw05_ShapeTurns.j2 2 a b c (broadS a b).1 (broadS a b).2 false = some true := by
    rw [agatelaw05_ShapeTurns.j2, if_neg (by simp), ea]
    by_cases h : (broadS a b).2 = 0
    · rw [if_pos h, eb, Option.bind_some, eb, Option.bind_some]
      by_cases h1 : (broadS (broadS a b).1 c).2 = 0
      · rw [if_pos h1]
        refine h3 a _ _ _ (fun g => ?_)
        have hu : (broadS b c).2 = 0 := by simpa using g
        exact broadS_three (Prod.ext rfl h) (Prod.ext rfl h1) (Prod.ext rfl hu)
      · rw [if_neg h1]
        exact h3 a _ _ _ (fun g => by cases g)
    · rw [if_neg h]; rfl
  have h1 : agatelaw05_ShapeTurns.j1 3 a b c (broadS a b).1 (broadS a b).2 false = some true := by
    rw [agatelaw05_ShapeTurns.j1, if_neg (by simp), eb, Option.bind_some]
    by_cases h : (broadS a a).2 = 0
    · have hs : (broadS a a).1 = a := broadS_self a (broadS a a).1 (Prod.ext rfl h)
      have hl := broadS_short a a
      rw [hs] at hl
      rw [if_pos h, hs, ints_same a hl, Option.bind_some]
      exact h2
    · rw [if_neg h]; exact h2
  have h0 : ∀ g : Bool, agatelaw05_ShapeTurns.j0 4 a b c g = some true := by
    intro g
    rw [agatelaw05_ShapeTurns.j0]
    cases g with
    | true => rfl
    | false =>
      have hn : ¬ (((broadS a b).2 == 0) != ((broadS b a).2 == 0)) = true := by
        by_cases h : (broadS a b).2 = 0
        · rw [h, t1.1 h]; decide
        · rw [beq_eq_false_iff_ne.2 h, beq_eq_false_iff_ne.2 (fun g => h (t1.2 g))]; decide
      rw [if_neg (by simp), eb, Option.bind_some, eb, Option.bind_some, if_neg hn, ← t2, ints_same _ (broadS_short a b), Option.bind_some]
      exact h1
  unfold agatelaw05_ShapeTurns.f
  split
  · exact h0 _
  · split
    · exact h0 _
    · exact h0 _

end Go.Proofs.Ytpojamikfcmnoaa.Pure
-- by xprint.py, a program of this session, over the kit's print.py
namespace Go.Proofs.Ytpojamikfcmnoaa.shapeTurns
open Go.ChangeShapes Go.WideShapes Go.ChangeAt Go.RowKit
open Go.ChangeMaps (open_string shut_string)
set_option linter.unusedVariables false
theorem own : ownKnob Try.prog.godebug = none := by kernel_rfl
theorem laidOut : laidOutB Try.prog = true := by kernel_rfl
def IsRow (k : IntKind) (w : World) (a : Option Addr) (len cap : Nat) (zs : List Int) : Prop :=
  (a = none ∧ len = 0 ∧ cap = 0 ∧ zs = []) ∨
  ∃ x, a = some x ∧ len ≤ cap ∧ cap ≤ maxLen ∧ zs.length = cap ∧ (∀ i, i < zs.length → w.cell? (x.add i) = some (.int k (zs.getD i 0))) ∧ ∀ n ∈ zs, (Lit.int k n).wf = true
set_option maxRecDepth 100000 in
theorem lifted (os : Os) (started : os.Started) (H : Type) (enc : TypeId × Value → H) :
    ReturnsInHanded {} Try.checked os 4 .any (Rows.shapeTurnsSpec.pre6 enc Try.prog Try.f4 Rows.shapeTurnsRow.domain false) (Rows.shapeTurnsSpec.post enc Try.prog Try.f4 false true false false) := by
  refine returnsInHanded_of_change_sized (C := Try.checked) own started (by kernel_rfl) Try.func4
    (ChangeSpec.witness6 (enc := enc) (C := Try.checked) false ⟨#[], #[.slice none 0 0, .slice none 0 0, .slice none 0 0], []⟩ 8 (by kernel_rfl) (by kernel_rfl) (by kernel_rfl) (by kernel_rfl)) ?_
  intro W base args ds gs before hval0 hW hcnd hsz0 _
  have hsz : (DataW.weightsEach Try.prog (Try.f4.params.toList ++ Rows.shapeTurnsSpec.plain.varTypes Try.prog) (ds ++ gs)).all (· ≤ reachBytes) = true := hsz0
  have hval : ∀ (j : Nat) t v, Try.f4.params[j]? = some t → args[j]? = some v → Value.okWide Try.prog W .any base t v := hval0
  have hW' := hW
  obtain ⟨p, q, hA0, hV, rfl, hfz, hnd⟩ := hW
  have hA : DataW.TrodAll enc Try.prog W 0 (fun _ => true) true Try.f4.params.toList args.toList ds p := hA0
  rw [Try.params4] at hA hval hsz
  obtain ⟨v0, vs0, d0, ds0, p0, q0, hargs, rfl, rfl, h0, r0⟩ := trodAll_cons hA
  obtain ⟨v1, vs1, d1, ds1, p1, q1, rfl, rfl, rfl, h1, r1⟩ := trodAll_cons r0
  obtain ⟨v2, vs2, d2, ds2, p2, q2, rfl, rfl, rfl, h2, r2⟩ := trodAll_cons r1
  obtain ⟨rfl, rfl, rfl⟩ := trodAll_nil r2
  obtain rfl : args = #[v0, v1, v2] := by cases args; simp_all
  obtain ⟨rfl, rfl⟩ := trodVars_none hV
  obtain ⟨a0, len0, cap0, rfl⟩ := okWide_slice Try.underlying39 (hval 0 39 v0 rfl rfl)
  have k0 := h0
  have lt0 : ∀ x ∈ p0, x.block < W.heap.size := by obtain ⟨m, hm⟩ := k0; exact DataW.trod_lt m _ _ _ hm
  obtain ⟨z0, w0⟩ : ∃ zs, IsRow .i64 W a0 len0 cap0 zs := by
    obtain ⟨fuel, hf⟩ := h0
    rcases open_ints Try.underlying39 Try.underlying2 (by kernel_rfl) hf with ⟨hcs, _⟩ | ⟨x, l, c, zs, hcs, _, hl, hm, hz, _, hcell, hwz⟩
    · simp [Value.cells] at hcs
      obtain ⟨rfl, rfl, rfl⟩ := hcs
      exact ⟨[], .inl ⟨rfl, rfl, rfl, rfl⟩⟩
    · simp [Value.cells] at hcs
      obtain ⟨rfl, rfl, rfl⟩ := hcs
      exact ⟨zs, .inr ⟨_, rfl, hl, hm, by simpa using hz, hcell, hwz⟩⟩
  have y0 : len0 * 8 ≤ 140737488351232 := Go.Proofs.YtpojamikfcmnoaaW.PrintWords.sized_ints hsz (j := 0) (t := 39) rfl rfl Try.underlying39 Try.underlying2 (by kernel_rfl) (by kernel_rfl) h0
  obtain ⟨a1, len1, cap1, rfl⟩ := okWide_slice Try.underlying39 (hval 1 39 v1 rfl rfl)
  have k1 := h1
  have lt1 : ∀ x ∈ p1, x.block < W.heap.size := by obtain ⟨m, hm⟩ := k1; exact DataW.trod_lt m _ _ _ hm
  obtain ⟨z1, w1⟩ : ∃ zs, IsRow .i64 W a1 len1 cap1 zs := by
    obtain ⟨fuel, hf⟩ := h1
    rcases open_ints Try.underlying39 Try.underlying2 (by kernel_rfl) hf with ⟨hcs, _⟩ | ⟨x, l, c, zs, hcs, _, hl, hm, hz, _, hcell, hwz⟩
    · simp [Value.cells] at hcs
      obtain ⟨rfl, rfl, rfl⟩ := hcs
      exact ⟨[], .inl ⟨rfl, rfl, rfl, rfl⟩⟩
    · simp [Value.cells] at hcs
      obtain ⟨rfl, rfl, rfl⟩ := hcs
      exact ⟨zs, .inr ⟨_, rfl, hl, hm, by simpa using hz, hcell, hwz⟩⟩
  have y1 : len1 * 8 ≤ 140737488351232 := Go.Proofs.YtpojamikfcmnoaaW.PrintWords.sized_ints hsz (j := 1) (t := 39) rfl rfl Try.underlying39 Try.underlying2 (by kernel_rfl) (by kernel_rfl) h1
  obtain ⟨a2, len2, cap2, rfl⟩ := okWide_slice Try.underlying39 (hval 2 39 v2 rfl rfl)
  have k2 := h2
  have lt2 : ∀ x ∈ p2, x.block < W.heap.size := by obtain ⟨m, hm⟩ := k2; exact DataW.trod_lt m _ _ _ hm
  obtain ⟨z2, w2⟩ : ∃ zs, IsRow .i64 W a2 len2 cap2 zs := by
    obtain ⟨fuel, hf⟩ := h2
    rcases open_ints Try.underlying39 Try.underlying2 (by kernel_rfl) hf with ⟨hcs, _⟩ | ⟨x, l, c, zs, hcs, _, hl, hm, hz, _, hcell, hwz⟩
    · simp [Value.cells] at hcs
      obtain ⟨rfl, rfl, rfl⟩ := hcs
      exact ⟨[], .inl ⟨rfl, rfl, rfl, rfl⟩⟩
    · simp [Value.cells] at hcs
      obtain ⟨rfl, rfl, rfl⟩ := hcs
      exact ⟨zs, .inr ⟨_, rfl, hl, hm, by simpa using hz, hcell, hwz⟩⟩
  have y2 : len2 * 8 ≤ 140737488351232 := Go.Proofs.YtpojamikfcmnoaaW.PrintWords.sized_ints hsz (j := 2) (t := 39) rfl rfl Try.underlying39 Try.underlying2 (by kernel_rfl) (by kernel_rfl) h2
  clear hA0 hval0 hsz0 hsz
  refine (X.agatelaw05_ShapeTurns.walk Pure.ShapeTurns a0 len0 cap0 z0 a1 len1 cap1 z1 a2 len2 cap2 z2 W w0 y0 w1 y1 w2 y2).mono fun e W' ⟨he, bel⟩ => ?_
  subst he
  exact ⟨_, rfl, _, _, _, [], _, [], hW', trodAll_mk1 (shut_bool Try.underlying4 _), (trodAll_cons_mk (Below.trod laidOut (by kernel_rfl) (of_decide_eq_true (by kernel_rfl)) k0 bel lt0) (trodAll_cons_mk (Below.trod laidOut (by kernel_rfl) (of_decide_eq_true (by kernel_rfl)) k1 bel lt1) (trodAll_cons_mk (Below.trod laidOut (by kernel_rfl) (of_decide_eq_true (by kernel_rfl)) k2 bel lt2) trodAll_mk0))), rfl, bel.frame _, fun h => by cases h⟩
theorem over : Rows.shapeTurnsRow.holds Try.pinned (OpenSpec.ofChange Rows.shapeTurnsSpec) :=
  OpenClaim.holds_of_wide 4 Try.f4 rfl rfl rfl rfl rfl rfl rfl ⟨rfl, rfl, rfl, rfl, rfl⟩ rfl rfl rfl rfl rfl (by kernel_rfl) Try.func4 (by kernel_rfl)
    (of_decide_eq_true (by kernel_rfl)) (by unfold Func.isWrapper; first | (rw [if_pos (by decide +kernel)]; kernel_rfl) | (rw [if_neg (by decide +kernel)]; exact ⟨rfl, rfl⟩))
    (fun os started H enc _ => lifted os started H enc)
theorem proved : Rows.ShapeTurnsSaid := over
#print axioms proved
end Go.Proofs.Ytpojamikfcmnoaa.shapeTurns
namespace Go.Proofs.Ytpojamikfcmnoaa
/-- The row, under a short name, for the claim. -/
theorem shapeTurns_holds : Rows.ShapeTurnsSaid := shapeTurns.proved
end Go.Proofs.Ytpojamikfcmnoaa
