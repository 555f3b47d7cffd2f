/- The law PackReads holds of the given program for every input, without any condition. -/
import Derived.Test.YtohddbiedabmhaaMPackReads0
import Derived.Test.YtohddbiedabmhaaMPackReads15
import Derived.Test.YtohddbiedabmhaaMPackReads2
import Derived.Test.YtohddbiedabmhaaMPackReads9
import Derived.Test.YtohddbiedabmhaaMPackReads6
import Derived.Test.YtohddbiedabmhaaMPackReads11
import Derived.Test.YtohddbiedabmhaaMPackReads13
import Derived.Test.YtohddbiedabmhaaMPackReads14
import Derived.Test.YtohddbiedabmhaaMPackReads8
import Derived.Test.YtohddbiedabmhaaMPackReads1
import Derived.Test.YtohddbiedabmhaaRows
import Derived.WalkKit
import Derived.ProofKit
import Derived.OpenShut
import Derived.ShutString
import Derived.ChangeOld
import Derived.Below
import Derived.SizedLaws
import Derived.Carry
-- by xprint.py, a program of this session, over the kit's print.py
namespace Go.Proofs.Ytohddbiedabmhaa.X
open Go.RowKit Go.Proofs.YtohddbiedabmhaaW.PrintWords Go.Proofs.YtohddbiedabmhaaW.PrintLast Go.Proofs.YtohddbiedabmhaaW.PrintMore
attribute [local go_sem] max2_int min2_int max_two min_two max_three min_three max_four min_four   -- for this text's walks alone
set_option linter.unusedVariables false
set_option linter.unusedSimpArgs false

theorem wf_u64 {a : Int} (h : (Lit.int .u64 a).wf = true) : 0 ≤ a ∧ a < 18446744073709551616 := by
  have e1 : IntKind.u64.min = 0 := by decide
  have e2 : IntKind.u64.max = 18446744073709551615 := by decide
  simp only [Lit.wf, Bool.and_eq_true, decide_eq_true_eq, e1, e2] at h; omega
theorem wf_i64 {a : Int} (h : (Lit.int .i64 a).wf = true) : -9223372036854775808 ≤ a ∧ a < 9223372036854775808 := by
  have e1 : IntKind.i64.min = -9223372036854775808 := by decide
  have e2 : IntKind.i64.max = 9223372036854775807 := by decide
  simp only [Lit.wf, Bool.and_eq_true, decide_eq_true_eq, e1, e2] at h; omega
theorem wf_u8 {a : Int} (h : (Lit.int .u8 a).wf = true) : 0 ≤ a ∧ a < 256 := by
  have e1 : IntKind.u8.min = 0 := by decide
  have e2 : IntKind.u8.max = 255 := by decide
  simp only [Lit.wf, Bool.and_eq_true, decide_eq_true_eq, e1, e2] at h; omega

end Go.Proofs.Ytohddbiedabmhaa.X
namespace Go.Proofs.Ytohddbiedabmhaa.Pure
open Go.RowKit Go.Proofs.Ytohddbiedabmhaa.X Go.Proofs.YtohddbiedabmhaaW.PrintWords Go.Proofs.YtohddbiedabmhaaW.PrintLast Go.Proofs.YtohddbiedabmhaaW.PrintMore
set_option linter.unusedVariables false
set_option linter.unusedSimpArgs false
theorem intsL_len (l : List Fl) : ∀ (out : List Int), out.length ≤ 65536 → (intsL l out).1.length ≤ 65536 := by
  induction l with
  | nil => intro out h; exact h
  | cons f l ih =>
    intro out h
    rw [intsL]
    split
    · split
      · simp
      · exact ih _ (by simp; omega)
    · split
      · split
        · simp
        · exact ih _ (packedF_len _ _ _ h)
      · simp
theorem textsL_len (l : List Fl) : ∀ (out : List ByteArray), (textsL l out).1.length ≤ out.length + l.length := by
  induction l with
  | nil => intro out; simp [textsL]
  | cons f l ih =>
    intro out
    rw [textsL]
    split
    · have := ih (out ++ [f.2.2.2])
      simp only [List.length_append, List.length_cons, List.length_nil] at this ⊢
      omega
    · simp
def cv (x : S47) : S50 := toR (flP x)
theorem filter_cv (l : List (S47)) (a : Int) : ((l.map cv).filter fun x => x.f0 == a).map flR = (l.filter fun x => x.f0 == a).map flP := by
  rw [List.filter_map, List.map_map]; rfl
theorem reads_end (l : List (S47)) (hl : l.length ≤ 3000) (hs : ∀ x ∈ l, x.f3.size ≤ 140737488351232) (a : Int) (ha : -9223372036854775808 ≤ a ∧ a < 9223372036854775808) (row : List Int) (hr : row.length ≤ 300) :
    ((pack_Ints_s.f l a).bind fun bt108 => ((agateref03_Ints_s.f (l.map cv) a).bind fun bt112 => ((pack_Texts_s.f l a).bind fun bt116 => ((agateref03_Texts_s.f (l.map cv) a).bind fun bt120 => ((agatelaw03_Awake_s.f).bind fun t124 => (if t124 = true then ((agatelaw03_Ints_s.f bt108.1 bt112.1).bind fun t125 => (if t125 = true then (if bt108.2 = bt112.2 then ((agatelaw03_Texts_s.f bt116.1 bt120.1).bind fun t126 => (if t126 = true then (if bt116.2 = bt120.2 then ((pack_Put.f a row).bind fun t127 => ((agateref03_Put_s.f a row).bind fun t128 => (some (t127.toList == t128.toList)))) else (some false)) else (some false))) else (some false)) else (some false))) else (some false))))))) = some true := by
  have hR : ∀ x ∈ l.map cv, x.f3.size ≤ 140737488351232 := by
    intro x hx
    obtain ⟨y, hy, rfl⟩ := List.mem_map.1 hx
    exact hs y hy
  have e1 : pack_Ints_s.f l a = some ((intsL ((l.filter fun x => x.f0 == a).map flP) []).1, ((intsL ((l.filter fun x => x.f0 == a).map flP) []).2 : Int)) := if_pos ⟨by omega, hs⟩
  have e2 : agateref03_Ints_s.f (l.map cv) a = some ((intsL ((l.filter fun x => x.f0 == a).map flP) []).1, ((intsL ((l.filter fun x => x.f0 == a).map flP) []).2 : Int)) := by
    unfold agateref03_Ints_s.f
    rw [if_pos ⟨by rw [List.length_map]; omega, hR⟩, filter_cv]
  have e3 : pack_Texts_s.f l a = some ((textsL ((l.filter fun x => x.f0 == a).map flP) []).1, ((textsL ((l.filter fun x => x.f0 == a).map flP) []).2 : Int)) := if_pos (by omega)
  have e4 : agateref03_Texts_s.f (l.map cv) a = some ((textsL ((l.filter fun x => x.f0 == a).map flP) []).1, ((textsL ((l.filter fun x => x.f0 == a).map flP) []).2 : Int)) := by
    unfold agateref03_Texts_s.f
    rw [if_pos (by rw [List.length_map]; omega), filter_cv]
  have h1 := intsL_len ((l.filter fun x => x.f0 == a).map flP) [] (by simp)
  have h2 := textsL_len ((l.filter fun x => x.f0 == a).map flP) []
  have h3 := List.length_filter_le (fun x : S47 => x.f0 == a) l
  rw [List.length_map, List.length_nil] at h2
  generalize intsL ((l.filter fun x => x.f0 == a).map flP) [] = I at *
  generalize textsL ((l.filter fun x => x.f0 == a).map flP) [] = T at *
  have e5 : agatelaw03_Ints_s.f I.1 I.1 = some true := by
    unfold agatelaw03_Ints_s.f
    rw [if_pos (by omega)]; simp
  have e6 : agatelaw03_Texts_s.f T.1 T.1 = some true := by
    unfold agatelaw03_Texts_s.f
    rw [if_pos (by omega)]; simp
  have e7 : pack_Put.f a row = some (putS a row) := if_pos ⟨ha.1, ha.2, by omega⟩
  have e8 : agateref03_Put_s.f a row = some (putS a row) := if_pos ⟨ha.1, ha.2, by omega⟩
  simp only [e1, e2, e3, e4, Option.bind_some, agatelaw03_Awake_s.f, if_true, e5, e6, e7, e8]
  simp
theorem reads_loop (l : List (S47)) (hs : ∀ x ∈ l, x.f3.size ≤ 140737488351232) (a : Int) (ha : -9223372036854775808 ≤ a ∧ a < 9223372036854775808) (row : List Int) (d : Nat) : ∀ (k i : Nat) (n : Int), l.length - i = d → i ≤ l.length → d < k → (i : Int) ≤ n → n ≤ 3000 →
    agatelaw03_PackReads.l0 k l a row n ((l.take i).map cv) l (l.length : Int) i = some true := by
  induction d with
  | zero =>
    intro k i n hd hi hk hn hm
    obtain ⟨k, rfl⟩ : ∃ m, k = m + 1 := ⟨k - 1, by omega⟩
    obtain rfl : i = l.length := by omega
    rw [agatelaw03_PackReads.l0, if_neg (by omega), List.take_length]
    by_cases hr : (row.length : Int) > 300
    · rw [if_pos hr]; rfl
    · rw [if_neg hr]
      exact reads_end l (by omega) hs a ha row (by omega)
  | succ d ih =>
    intro k i n hd hi hk hn hm
    obtain ⟨k, rfl⟩ : ∃ m, k = m + 1 := ⟨k - 1, by omega⟩
    have h0 : i < l.length := by omega
    have hz := hs l[i] (List.getElem_mem h0)
    have w1 : wrap64 ((l[i].f3.size : Int) + 1) = (l[i].f3.size : Int) + 1 := wrap64_id (by omega) (by omega)
    have w2 : wrap64 (n + ((l[i].f3.size : Int) + 1)) = n + ((l[i].f3.size : Int) + 1) := wrap64_id (by omega) (by omega)
    rw [agatelaw03_PackReads.l0, if_pos (by omega), if_pos (by omega), if_pos (by omega), rdP l i h0, w1, w2]
    by_cases hq : n + ((l[i].f3.size : Int) + 1) > 3000
    · rw [if_pos hq]; rfl
    · have w3 : wrap64 ((i : Int) + 1) = ((i + 1 : Nat) : Int) := by
        clear w1 w2
        rw [wrap64_id (by omega) (by omega)]; omega
      have hlen : ((l.take i).map cv).length < 3518437208883 := by
        rw [List.length_map, List.length_take]
        clear w1 w2 w3
        omega
      have ht : (l.take i).map cv ++ [(⟨l[i].f0, l[i].f1, l[i].f2, l[i].f3⟩ : S50)] = (l.take (i + 1)).map cv := by
        rw [List.take_succ_eq_append_getElem h0, List.map_append]; rfl
      clear w1 w2
      rw [if_neg hq, if_pos hlen, ht, w3]
      clear w3
      exact ih k (i + 1) _ (by omega) (by omega) (by omega) (by omega) (by omega)
theorem PackReads : agatelaw03_PackReads.Pure := by
  intro l a row hl ha _
  refine ⟨l.length + 1, ?_⟩
  exact reads_loop l (fun x hx => (hl.2.2 x hx).2.2.2) a (wf_i64 ha) row l.length (l.length + 1) 0 0 rfl (by omega) (by omega) (by simp) (by decide)

end Go.Proofs.Ytohddbiedabmhaa.Pure
-- by xprint.py, a program of this session, over the kit's print.py
namespace Go.Proofs.Ytohddbiedabmhaa.packReads
open Go.ChangeShapes Go.WideShapes Go.ChangeAt Go.RowKit Go.Proofs.Ytohddbiedabmhaa.X Go.Proofs.YtohddbiedabmhaaW.PrintWords
set_option linter.unusedVariables false
theorem own : ownKnob Try.prog.godebug = none := by kernel_rfl
theorem laidOut : laidOutB Try.prog = true := by kernel_rfl
set_option maxRecDepth 100000 in
theorem lifted (os : Os) (started : os.Started) (H : Type) (enc : TypeId × Value → H) :
    ReturnsInHanded {} Try.checked os 10 .any (Rows.packReadsSpec.pre6 enc Try.prog Try.f10 Rows.packReadsRow.domain false) (Rows.packReadsSpec.post enc Try.prog Try.f10 false true false false) := by
  refine returnsInHanded_of_change_sized (C := Try.checked) own started (by kernel_rfl) Try.func10
    (ChangeSpec.witness6 (enc := enc) (C := Try.checked) false ⟨#[], #[.slice none 0 0, .int .i64 0, .slice none 0 0], []⟩ 8 (by kernel_rfl) (by kernel_rfl) (by kernel_rfl) (by kernel_rfl)) ?_
  intro W base args ds gs before hval0 hW hcnd hsz0 _
  have hsz : (DataW.weightsEach Try.prog (Try.f10.params.toList ++ Rows.packReadsSpec.plain.varTypes Try.prog) (ds ++ gs)).all (· ≤ reachBytes) = true := hsz0
  have hval : ∀ (j : Nat) t v, Try.f10.params[j]? = some t → args[j]? = some v → Value.okWide Try.prog W .any base t v := hval0
  have hW' := hW
  obtain ⟨p, q, hA0, hV, rfl, hfz, hnd⟩ := hW
  have hA : DataW.TrodAll enc Try.prog W 0 (fun _ => true) true Try.f10.params.toList args.toList ds p := hA0
  rw [Try.params10] at hA hval hsz
  obtain ⟨v0, vs0, d0, ds0, p0, q0, hargs, rfl, rfl, h0, r0⟩ := trodAll_cons hA
  obtain ⟨v1, vs1, d1, ds1, p1, q1, rfl, rfl, rfl, h1, r1⟩ := trodAll_cons r0
  obtain ⟨v2, vs2, d2, ds2, p2, q2, rfl, rfl, rfl, h2, r2⟩ := trodAll_cons r1
  obtain ⟨rfl, rfl, rfl⟩ := trodAll_nil r2
  obtain rfl : args = #[v0, v1, v2] := by cases args; simp_all
  obtain ⟨rfl, rfl⟩ := trodVars_none hV
  have k0 := h0
  have lt0 : ∀ x ∈ p0, x.block < W.heap.size := by obtain ⟨m, hm⟩ := k0; exact DataW.trod_lt m _ _ _ hm
  obtain ⟨fuel0, hf0⟩ := h0
  obtain ⟨x0, K0, wf0⟩ := ((Opens.slice Try.underlying37 (by kernel_rfl) (by kernel_rfl) (op47 enc W)) : Opens enc Try.prog W 37 (Kd.slice 47 k47) (fun l => l.length ≤ maxLen ∧ l.length * 40 ≤ 140737488351232 ∧ ∀ x ∈ l, wf47 x)).go fuel0 _ _ hf0 (fun m hm => by simpa using List.all_eq_true.1 hsz m (DataW.weights_mem_each (j := 0) (t := 37) rfl rfl m hm))
  obtain ⟨a0, len0, cap0, rfl⟩ := okWide_slice Try.underlying37 (hval 0 37 v0 rfl rfl)
  obtain ⟨A0, c0, e0, hc0, hr0⟩ := K0
  obtain ⟨rfl, rfl, rfl⟩ : a0 = A0 ∧ len0 = x0.length ∧ cap0 = c0 := by simpa [Value.cells] using e0
  have k1 := h1
  have lt1 : ∀ x ∈ p1, x.block < W.heap.size := by obtain ⟨m, hm⟩ := k1; exact DataW.trod_lt m _ _ _ hm
  obtain ⟨fuel1, hf1⟩ := h1
  obtain ⟨x1, K1, wf1⟩ := ((Opens.int Try.underlying3 (by kernel_rfl)) : Opens enc Try.prog W 3 (Kd.int .i64) (fun a => (Lit.int .i64 a).wf = true)).go fuel1 _ _ hf1 (fun m hm => by simpa using List.all_eq_true.1 hsz m (DataW.weights_mem_each (j := 1) (t := 3) rfl rfl m hm))
  obtain ⟨b1, rfl⟩ := okWide_int Try.underlying3 (hval 1 3 v1 rfl rfl)
  obtain rfl : b1 = x1 := by have e_ := K1; simpa [Kd.int, Kd.bool, Kd.string, Kd.scalar, Value.cells] using e_
  have k2 := h2
  have lt2 : ∀ x ∈ p2, x.block < W.heap.size := by obtain ⟨m, hm⟩ := k2; exact DataW.trod_lt m _ _ _ hm
  obtain ⟨fuel2, hf2⟩ := h2
  obtain ⟨x2, K2, wf2⟩ := ((Opens.slice Try.underlying58 (by kernel_rfl) (by kernel_rfl) (Opens.int Try.underlying2 (by kernel_rfl))) : Opens enc Try.prog W 58 (Kd.slice 2 (Kd.int .i64)) (fun l => l.length ≤ maxLen ∧ l.length * 8 ≤ 140737488351232 ∧ ∀ x ∈ l, (fun a => (Lit.int .i64 a).wf = true) x)).go fuel2 _ _ hf2 (fun m hm => by simpa using List.all_eq_true.1 hsz m (DataW.weights_mem_each (j := 2) (t := 58) rfl rfl m hm))
  obtain ⟨a2, len2, cap2, rfl⟩ := okWide_slice Try.underlying58 (hval 2 58 v2 rfl rfl)
  obtain ⟨A2, c2, e2, hc2, hr2⟩ := K2
  obtain ⟨rfl, rfl, rfl⟩ : a2 = A2 ∧ len2 = x2.length ∧ cap2 = c2 := by simpa [Value.cells] using e2
  clear hA0 hval0 hsz0 hsz
  obtain ⟨k, hp⟩ := Pure.PackReads x0 b1 x2 wf0 wf1 wf2
  refine (agatelaw03_PackReads.calls k a0 cap0 x0 b1 a2 cap2 x2 true W hr0 hc0 hr2 hc2 hp).mono fun e W' ⟨he, bel0⟩ => ?_
  have bel : Below W.heap.size W W' := bel0
  subst he
  exact ⟨_, rfl, _, _, _, [], _, [], hW', trodAll_mk1 (shut_bool Try.underlying4 _), (trodAll_cons_mk (Below.trod laidOut (by kernel_rfl) (of_decide_eq_true (by kernel_rfl)) k0 bel lt0) (trodAll_cons_mk (Below.trod laidOut (by kernel_rfl) (of_decide_eq_true (by kernel_rfl)) k1 bel lt1) (trodAll_cons_mk (Below.trod laidOut (by kernel_rfl) (of_decide_eq_true (by kernel_rfl)) k2 bel lt2) trodAll_mk0))), rfl, bel.frame _, fun h => by cases h⟩
theorem over : Rows.packReadsRow.holds Try.pinned (OpenSpec.ofChange Rows.packReadsSpec) :=
  OpenClaim.holds_of_wide 10 Try.f10 rfl rfl rfl rfl rfl rfl rfl ⟨rfl, rfl, rfl, rfl, rfl⟩ rfl rfl rfl rfl rfl (by kernel_rfl) Try.func10 (by kernel_rfl)
    (of_decide_eq_true (by kernel_rfl)) (by unfold Func.isWrapper; first | (rw [if_pos (by decide +kernel)]; kernel_rfl) | (rw [if_neg (by decide +kernel)]; exact ⟨rfl, rfl⟩))
    (fun os started H enc _ => lifted os started H enc)
theorem proved : Rows.PackReadsSaid := over
#print axioms proved
end Go.Proofs.Ytohddbiedabmhaa.packReads
namespace Go.Proofs.Ytohddbiedabmhaa
theorem packReads_holds : Rows.PackReadsSaid := packReads.proved
end Go.Proofs.Ytohddbiedabmhaa
