/- The law WireReads holds of the given program for every input, without any condition. -/
import Derived.Test.YtohddbiedabmhaaMWireReads12
import Derived.Test.YtohddbiedabmhaaMWireReads6
import Derived.Test.YtohddbiedabmhaaMWireReads7
import Derived.Test.YtohddbiedabmhaaMWireReads8
import Derived.Test.YtohddbiedabmhaaMWireReads10
import Derived.Test.YtohddbiedabmhaaMWireReads11
import Derived.Test.YtohddbiedabmhaaMWireReads2
import Derived.Test.YtohddbiedabmhaaRows
import Derived.WalkKit
import Derived.ProofKit
import Derived.OpenShut
import Derived.ShutString
import Derived.ChangeOld
import Derived.Below
import Derived.SizedLaws
namespace Go.Proofs.Ytohddbiedabmhaa.Pure
open Go.RowKit Go.Proofs.Ytohddbiedabmhaa.X Go.Proofs.YtohddbiedabmhaaW.PrintWords Go.Proofs.YtohddbiedabmhaaW.PrintLast Go.Proofs.YtohddbiedabmhaaW.PrintMore
set_option linter.unusedVariables false
set_option linter.unusedSimpArgs false
theorem filter_map_fl {α : Type} (tt : Fl → α) (f0 : α → Int) (h : ∀ x, f0 (tt x) = x.1) (l : List Fl) (a : Int) : (l.map tt).filter (fun x => f0 x == a) = (l.filter (fun x => x.1 == a)).map tt := by
  rw [List.filter_map]
  congr 1
  apply List.filter_congr
  intro x _
  simp [h]
theorem WireReads : agatelaw02_WireReads.Pure := by
  intro b num hb _
  unfold agatelaw02_WireReads.f
  by_cases hg : (b.size : Int) > 3000
  · exact ⟨0, by rw [if_pos hg]; rfl⟩
  · refine ⟨1, ?_⟩
    rw [if_neg hg]
    have e1 : wire_Fields_s.f b = some ((fieldsS b).1.map toP, ((fieldsS b).2 : Int)) := if_pos hb
    have e2 : agateref02_Fields_s.f b = some ((fieldsS b).1.map toR, ((fieldsS b).2 : Int)) := if_pos hb
    have hlen : (fieldsS b).1.length ≤ 1048576 := by
      unfold fieldsS
      split
      · simp
      · have := fieldsF_length b.size b; omega
    rw [e1, e2]
    generalize (fieldsS b).1 = l at *
    have e3 : ∀ m : List Fl, m.length ≤ 1048576 → agatelaw02_Same_s.f (m.map toP) (m.map toR) = some true := by
      intro m hm
      unfold agatelaw02_Same_s.f
      rw [if_pos (by simp; omega), map_flP_toP, map_flR_toR]; simp
    have e4 : wire_All_s.f (l.map toP) num = some ((l.filter (fun x => x.1 == num)).map toP) := by
      unfold wire_All_s.f
      rw [if_pos (by simp; omega)]
      exact congrArg some (filter_map_fl toP S47.f0 (fun _ => rfl) l num)
    have e5 : agateref02_All_s.f (l.map toR) num = some ((l.filter (fun x => x.1 == num)).map toR) := by
      unfold agateref02_All_s.f
      rw [if_pos (by simp; omega)]
      exact congrArg some (filter_map_fl toR S50.f0 (fun _ => rfl) l num)
    have e6 : wire_Last_s.f (l.map toP) num = some (lastTup ((l.filter (fun x => x.1 == num)).map toP).getLast?) := by
      unfold wire_Last_s.f
      rw [if_pos (by simp; omega)]
      exact congrArg (fun x => some (lastTup (List.getLast? x))) (filter_map_fl toP S47.f0 (fun _ => rfl) l num)
    have hfl : (l.filter (fun x => x.1 == num)).length ≤ 1048576 := by
      have := List.length_filter_le (fun x : Fl => x.1 == num) l; omega
    simp only [Option.bind_some, if_true, e3 l hlen, e4, e5, e3 _ hfl]
    simp only [agatelaw02_WireReads.j0, e5, e6, Option.bind_some, agatelaw02_Awake_s.f, if_true, Bool.not_true]
    rw [if_neg (by decide)]
    generalize l.filter (fun x => x.1 == num) = m at *
    by_cases hm : m.length = 0
    · rw [if_pos (by simp [hm]), List.eq_nil_of_length_eq_zero hm]
      simp [lastTup, toList_nil.2 (show ByteArray.size ⟨#[]⟩ = 0 from rfl)]
    · have ew : wrap64 (((m.map toR).length : Int) - 1) = ((m.length - 1 : Nat) : Int) := by rw [wrap64_id (by simp; omega) (by simp; omega)]; simp; omega
      have e0 : rd_T50 (m.map toR) ((m.length - 1 : Nat) : Int) = toR m[m.length - 1] := by
        rw [rdR _ _ (by simp; omega), List.getElem_map]
      have eL : (m.map toP).getLast? = some (toP m[m.length - 1]) := by
        rw [List.getLast?_eq_getElem?, List.length_map, List.getElem?_map, List.getElem?_eq_getElem (by omega)]; rfl
      rw [if_neg (by rw [List.length_map]; omega), ew, e0, eL]
      simp only [lastTup, if_true]
      rw [List.length_map]
      rw [if_pos (by omega), if_pos (by omega)]
      simp [toP, toR]

end Go.Proofs.Ytohddbiedabmhaa.Pure
-- by xprint.py, a program of this session, over the kit's print.py
namespace Go.Proofs.Ytohddbiedabmhaa.wireReads
open Go.ChangeShapes Go.WideShapes Go.ChangeAt Go.RowKit
open Go.ChangeMaps (open_string shut_string)
set_option linter.unusedVariables false
theorem own : ownKnob Try.prog.godebug = none := by kernel_rfl
set_option maxRecDepth 100000 in
theorem lifted (os : Os) (started : os.Started) (H : Type) (enc : TypeId × Value → H) :
    ReturnsInHanded {} Try.checked os 5 .any (Rows.wireReadsSpec.pre6 enc Try.prog Try.f5 Rows.wireReadsRow.domain false) (Rows.wireReadsSpec.post enc Try.prog Try.f5 false true false false) := by
  refine returnsInHanded_of_change_sized (C := Try.checked) own started (by kernel_rfl) Try.func5
    (ChangeSpec.witness6 (enc := enc) (C := Try.checked) false ⟨#[], #[.string ByteArray.empty, .int .i64 0], []⟩ 8 (by kernel_rfl) (by kernel_rfl) (by kernel_rfl) (by kernel_rfl)) ?_
  intro W base args ds gs before hval0 hW hcnd hsz0 _
  have hsz : (DataW.weightsEach Try.prog (Try.f5.params.toList ++ Rows.wireReadsSpec.plain.varTypes Try.prog) (ds ++ gs)).all (· ≤ reachBytes) = true := hsz0
  have hval : ∀ (j : Nat) t v, Try.f5.params[j]? = some t → args[j]? = some v → Value.okWide Try.prog W .any base t v := hval0
  have hW' := hW
  obtain ⟨p, q, hA0, hV, rfl, hfz, hnd⟩ := hW
  have hA : DataW.TrodAll enc Try.prog W 0 (fun _ => true) true Try.f5.params.toList args.toList ds p := hA0
  rw [Try.params5] at hA hval hsz
  obtain ⟨v0, vs0, d0, ds0, p0, q0, hargs, rfl, rfl, h0, r0⟩ := trodAll_cons hA
  obtain ⟨v1, vs1, d1, ds1, p1, q1, rfl, rfl, rfl, h1, r1⟩ := trodAll_cons r0
  obtain ⟨rfl, rfl, rfl⟩ := trodAll_nil r1
  obtain rfl : args = #[v0, v1] := by cases args; simp_all
  obtain ⟨rfl, rfl⟩ := trodVars_none hV
  obtain ⟨a0, rfl, rfl, rfl, y0⟩ := open_string Try.underlying9 (hval 0 9 v0 rfl rfl) h0
  have w0 : a0.size ≤ 140737488351232 := by
    have z := sized_string hsz (j := 0) (t := 9) rfl rfl
    rw [Array.length_toList] at z
    exact z
  obtain ⟨a1, rfl, rfl, rfl, w1⟩ := open_int Try.underlying3 (hval 1 3 v1 rfl rfl) h1
  clear hA0 hval0 hsz0 hsz
  refine (X.agatelaw02_WireReads.walk Pure.WireReads a0 a1 W w0 w1).mono fun e W' ⟨he, bel⟩ => ?_
  subst he
  exact ⟨_, rfl, _, _, _, [], _, [], hW', trodAll_mk1 (shut_bool Try.underlying4 _), (trodAll_cons_mk (shut_string Try.underlying9 y0) (trodAll_cons_mk (shut_int Try.underlying3 w1) trodAll_mk0)), rfl, bel.frame _, fun h => by cases h⟩
theorem over : Rows.wireReadsRow.holds Try.pinned (OpenSpec.ofChange Rows.wireReadsSpec) :=
  OpenClaim.holds_of_wide 5 Try.f5 rfl rfl rfl rfl rfl rfl rfl ⟨rfl, rfl, rfl, rfl, rfl⟩ rfl rfl rfl rfl rfl (by kernel_rfl) Try.func5 (by kernel_rfl)
    (of_decide_eq_true (by kernel_rfl)) (by unfold Func.isWrapper; first | (rw [if_pos (by decide +kernel)]; kernel_rfl) | (rw [if_neg (by decide +kernel)]; exact ⟨rfl, rfl⟩))
    (fun os started H enc _ => lifted os started H enc)
theorem proved : Rows.WireReadsSaid := over
#print axioms proved
end Go.Proofs.Ytohddbiedabmhaa.wireReads
namespace Go.Proofs.Ytohddbiedabmhaa
/-- The row, under a short name, for the claim. -/
theorem wireReads_holds : Rows.WireReadsSaid := wireReads.proved
end Go.Proofs.Ytohddbiedabmhaa
