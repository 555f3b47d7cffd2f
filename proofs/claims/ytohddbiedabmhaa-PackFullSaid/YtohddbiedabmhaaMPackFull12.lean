/- The law PackFull holds of the given program for every input, without any condition. -/
import Derived.Test.YtohddbiedabmhaaMPackFull0
import Derived.Test.YtohddbiedabmhaaMPackFull11
import Derived.Test.YtohddbiedabmhaaMPackFull10
import Derived.Test.YtohddbiedabmhaaMPackFull8
import Derived.Test.YtohddbiedabmhaaMPackFull2
import Derived.Test.YtohddbiedabmhaaRows
import Derived.WalkKit
import Derived.ProofKit
import Derived.OpenShut
import Derived.ShutString
import Derived.ChangeOld
import Derived.Below
import Derived.SizedLaws
-- by xprint.py, a program of this session, over the kit's print.py
namespace Go.Proofs.Ytohddbiedabmhaa.X
open Go.RowKit Go.Proofs.YtohddbiedabmhaaW.PrintWords Go.Proofs.YtohddbiedabmhaaW.PrintLast Go.Proofs.YtohddbiedabmhaaW.PrintMore
attribute [local go_sem] max2_int min2_int max_two min_two max_three min_three max_four min_four   -- for this text's walks alone
set_option linter.unusedVariables false
set_option linter.unusedSimpArgs false

theorem wf_u64 {a : Int} (h : (Lit.int .u64 a).wf = true) : 0 ≤ a ∧ a < 18446744073709551616 := by
  have e1 : IntKind.u64.min = 0 := by decide
  have e2 : IntKind.u64.max = 18446744073709551615 := by decide
  simp only [Lit.wf, Bool.and_eq_true, decide_eq_true_eq, e1, e2] at h; omega
theorem wf_i64 {a : Int} (h : (Lit.int .i64 a).wf = true) : -9223372036854775808 ≤ a ∧ a < 9223372036854775808 := by
  have e1 : IntKind.i64.min = -9223372036854775808 := by decide
  have e2 : IntKind.i64.max = 9223372036854775807 := by decide
  simp only [Lit.wf, Bool.and_eq_true, decide_eq_true_eq, e1, e2] at h; omega
theorem wf_u8 {a : Int} (h : (Lit.int .u8 a).wf = true) : 0 ≤ a ∧ a < 256 := by
  have e1 : IntKind.u8.min = 0 := by decide
  have e2 : IntKind.u8.max = 255 := by decide
  simp only [Lit.wf, Bool.and_eq_true, decide_eq_true_eq, e1, e2] at h; omega

end Go.Proofs.Ytohddbiedabmhaa.X
namespace Go.Proofs.Ytohddbiedabmhaa.Pure
open Go.RowKit Go.Proofs.Ytohddbiedabmhaa.X Go.Proofs.YtohddbiedabmhaaW.PrintWords Go.Proofs.YtohddbiedabmhaaW.PrintLast Go.Proofs.YtohddbiedabmhaaW.PrintMore
set_option linter.unusedVariables false
set_option linter.unusedSimpArgs false
theorem packed_zeros (n : Nat) : ∀ (d : Nat) (out : List Int) (b : ByteArray), ns b = List.replicate n 0 → out.length + n ≤ 65536 → n ≤ d → ∃ l, packedF d out b = (l, 0) ∧ l.length = out.length + n := by
  induction n with
  | zero =>
    intro d out b hb ho hd
    have h0 : b.size = 0 := by rw [← ns_length, hb]; rfl
    refine ⟨out, ?_, rfl⟩
    cases d with
    | zero => rfl
    | succ d => rw [packedF, if_pos h0]
  | succ n ih =>
    intro d out b hb ho hd
    obtain ⟨d, rfl⟩ : ∃ m, d = m + 1 := ⟨d - 1, by omega⟩
    have hs : b.size = n + 1 := by rw [← ns_length, hb, List.length_replicate]
    have hr : vRead b = (0, 1, 0) := by
      unfold vRead
      rw [hb, List.replicate_succ, readS_cons (by omega), if_pos (by decide)]
    have hx : ns (b.extract 1 b.size) = List.replicate n 0 := by
      rw [ns_extract, hb, hs, List.replicate_succ, List.drop_succ_cons, List.drop_zero, Nat.add_sub_cancel, List.take_of_length_le (by simp)]
    obtain ⟨l, h1, h2⟩ := ih d (out ++ [wrap64 ((0 : Nat) : Int)]) (b.extract 1 b.size) hx (by simp; omega) (by omega)
    refine ⟨l, ?_, by rw [h2]; simp; omega⟩
    rw [packedF, if_neg (by omega), hr, if_neg (by simp), if_neg (by omega)]
    exact h1
theorem ns_zeros (n : Nat) : ns (strOfNums (List.replicate n 0)) = List.replicate n 0 := by
  have := ns_strOfNums (List.replicate n 0) (by intro c hc; rw [List.eq_of_mem_replicate hc]; decide)
  rw [List.map_replicate] at this
  exact this
theorem zeros_size (n : Nat) : (strOfNums (List.replicate n 0)).size = n := by rw [← ns_length, ns_zeros, List.length_replicate]
theorem packed_many (n : Nat) : ∀ (d : Nat) (out : List Int) (b : ByteArray), ns b = List.replicate n 0 → 65536 < out.length + n → out.length ≤ 65536 → n ≤ d → packedF d out b = ([], 7) := by
  induction n with
  | zero => intro d out b hb ho hm hd; omega
  | succ n ih =>
    intro d out b hb ho hm hd
    obtain ⟨d, rfl⟩ : ∃ m, d = m + 1 := ⟨d - 1, by omega⟩
    have hs : b.size = n + 1 := by rw [← ns_length, hb, List.length_replicate]
    have hr : vRead b = (0, 1, 0) := by
      unfold vRead
      rw [hb, List.replicate_succ, readS_cons (by omega), if_pos (by decide)]
    have hx : ns (b.extract 1 b.size) = List.replicate n 0 := by
      rw [ns_extract, hb, hs, List.replicate_succ, List.drop_succ_cons, List.drop_zero, Nat.add_sub_cancel, List.take_of_length_le (by simp)]
    rw [packedF, if_neg (by omega), hr, if_neg (by simp)]
    by_cases hf : 65536 ≤ out.length
    · rw [if_pos hf]
    · rw [if_neg hf]
      exact ih d (out ++ [wrap64 ((0 : Nat) : Int)]) (b.extract 1 b.size) hx (by simp; omega) (by simp; omega) (by omega)
theorem full_list (n : Nat) (d : ByteArray) (hns : ns d = List.replicate n 0) : ∃ l, intsL [(1, 2, 0, d), (1, 0, 0, ⟨#[]⟩)] [] = (if 65536 ≤ n then ([], 7) else (l, 0)) ∧ (n < 65536 → l.length = n + 1) := by
  have hsz : d.size = n := by rw [← ns_length, hns, List.length_replicate]
  by_cases hn : n ≤ 65536
  · obtain ⟨l, h1, h2⟩ := packed_zeros n d.size [] d hns (by simp; omega) (by omega)
    simp only [List.length_nil, Nat.zero_add] at h2
    refine ⟨l ++ [wrap64 0], ?_, fun _ => by simp [h2]⟩
    rw [intsL, if_neg (show ¬ ((2 : Int) = 0) by decide), if_pos (show ((2 : Int) = 2) from rfl)]
    show (if (packedF d.size [] d).2 ≠ 0 then _ else intsL [(1, 0, 0, ⟨#[]⟩)] (packedF d.size [] d).1) = _
    rw [h1]
    show (if (0 : Nat) ≠ 0 then _ else intsL [(1, 0, 0, ⟨#[]⟩)] l) = _
    rw [if_neg (by simp), intsL, if_pos (show ((0 : Int) = 0) from rfl)]
    by_cases hq : n = 65536
    · rw [if_pos (by omega), if_pos (by omega)]
    · rw [if_neg (by omega), if_neg (by omega)]; rfl
  · have h1 := packed_many n d.size [] d hns (by simp; omega) (by simp) (by omega)
    refine ⟨[], ?_, fun h => by omega⟩
    rw [intsL, if_neg (show ¬ ((2 : Int) = 0) by decide), if_pos (show ((2 : Int) = 2) from rfl)]
    show (if (packedF d.size [] d).2 ≠ 0 then ([], (packedF d.size [] d).2) else _) = _
    rw [h1, if_pos (show 65536 ≤ n by omega)]
    rfl
theorem full_ints (n : Nat) (hn : n ≤ 70000) (d : ByteArray) (hns : ns d = List.replicate n 0) : ∃ l, pack_Ints_s.f [(⟨1, 2, 0, d⟩ : S47), ⟨1, 0, 0, ⟨#[]⟩⟩] 1 = some (if 65536 ≤ n then ([], 7) else (l, 0)) ∧ (n < 65536 → l.length = n + 1) := by
  have hsz : d.size = n := by rw [← ns_length, hns, List.length_replicate]
  obtain ⟨l, h1, h2⟩ := full_list n d hns
  refine ⟨l, ?_, h2⟩
  have hall : ∀ x ∈ [(⟨1, 2, 0, d⟩ : S47), ⟨1, 0, 0, ⟨#[]⟩⟩], x.f3.size ≤ 140737488351232 := by
    intro x hx
    rcases List.mem_cons.1 hx with rfl | hx
    · show d.size ≤ _; omega
    · rw [List.mem_singleton.1 hx]; show ByteArray.size ⟨#[]⟩ ≤ _; decide
  unfold pack_Ints_s.f
  rw [if_pos ⟨by simp, hall⟩]
  show some ((intsL [(1, 2, 0, d), (1, 0, 0, ⟨#[]⟩)] []).1, ((intsL [(1, 2, 0, d), (1, 0, 0, ⟨#[]⟩)] []).2 : Int)) = _
  rw [h1]
  by_cases hq : 65536 ≤ n
  · rw [if_pos hq, if_pos hq]; rfl
  · rw [if_neg hq, if_neg hq]; rfl
theorem PackFull : agatelaw03_PackFull.Pure := by
  intro a ha
  have h := wf_u8 ha
  obtain ⟨n, hn⟩ : ∃ n : Nat, (n : Int) = 65533 + a % 5 := ⟨(65533 + a % 5).toNat, by omega⟩
  have e1 : wrap64 (Int.tmod a 5) = a % 5 := by rw [Int.tmod_eq_emod_of_nonneg h.1, wrap64_id (by omega) (by omega)]
  have e2 : wrap64 (65534 + a % 5) = 65534 + a % 5 := wrap64_id (by omega) (by omega)
  have e3 : wrap64 (65534 + a % 5 - 1) = (n : Int) := by rw [wrap64_id (by omega) (by omega)]; omega
  unfold agatelaw03_PackFull.f
  rw [e1, e2, e3]
  clear e1 e2 e3
  rw [if_pos (by omega), if_pos (by rw [Int.toNat_natCast]; omega), Int.toNat_natCast]
  obtain ⟨l, h1, h2⟩ := full_ints n (by omega) _ (ns_zeros n)
  rw [h1]
  simp only [Option.bind_some, agatelaw03_Awake_s.f, if_true]
  by_cases hq : 65536 ≤ n
  · rw [if_pos (by omega), if_pos hq]; rfl
  · have := h2 (by omega)
    rw [if_neg (by omega), if_neg hq, if_pos (by rfl)]
    show some ((l.length : Int) == 65534 + a % 5) = some true
    rw [this, show ((n + 1 : Nat) : Int) = 65534 + a % 5 by omega]
    simp

end Go.Proofs.Ytohddbiedabmhaa.Pure
-- by xprint.py, a program of this session, over the kit's print.py
namespace Go.Proofs.Ytohddbiedabmhaa.packFull
open Go.ChangeShapes Go.WideShapes Go.ChangeAt Go.RowKit
open Go.ChangeMaps (open_string shut_string)
set_option linter.unusedVariables false
theorem own : ownKnob Try.prog.godebug = none := by kernel_rfl
set_option maxRecDepth 100000 in
theorem lifted (os : Os) (started : os.Started) (H : Type) (enc : TypeId × Value → H) :
    ReturnsInHanded {} Try.checked os 8 .any (Rows.packFullSpec.pre6 enc Try.prog Try.f8 Rows.packFullRow.domain false) (Rows.packFullSpec.post enc Try.prog Try.f8 false true false false) := by
  refine returnsInHanded_of_change_sized (C := Try.checked) own started (by kernel_rfl) Try.func8
    (ChangeSpec.witness6 (enc := enc) (C := Try.checked) false ⟨#[], #[.int .u8 0], []⟩ 8 (by kernel_rfl) (by kernel_rfl) (by kernel_rfl) (by kernel_rfl)) ?_
  intro W base args ds gs before hval0 hW hcnd hsz0 _
  have hsz : (DataW.weightsEach Try.prog (Try.f8.params.toList ++ Rows.packFullSpec.plain.varTypes Try.prog) (ds ++ gs)).all (· ≤ reachBytes) = true := hsz0
  have hval : ∀ (j : Nat) t v, Try.f8.params[j]? = some t → args[j]? = some v → Value.okWide Try.prog W .any base t v := hval0
  have hW' := hW
  obtain ⟨p, q, hA0, hV, rfl, hfz, hnd⟩ := hW
  have hA : DataW.TrodAll enc Try.prog W 0 (fun _ => true) true Try.f8.params.toList args.toList ds p := hA0
  rw [Try.params8] at hA hval hsz
  obtain ⟨v0, vs0, d0, ds0, p0, q0, hargs, rfl, rfl, h0, r0⟩ := trodAll_cons hA
  obtain ⟨rfl, rfl, rfl⟩ := trodAll_nil r0
  obtain rfl : args = #[v0] := by cases args; simp_all
  obtain ⟨rfl, rfl⟩ := trodVars_none hV
  obtain ⟨a0, rfl, rfl, rfl, w0⟩ := open_int Try.underlying5 (hval 0 5 v0 rfl rfl) h0
  clear hA0 hval0 hsz0 hsz
  refine (X.agatelaw03_PackFull.walk Pure.PackFull a0 W w0).mono fun e W' ⟨he, bel⟩ => ?_
  subst he
  exact ⟨_, rfl, _, _, _, [], _, [], hW', trodAll_mk1 (shut_bool Try.underlying4 _), (trodAll_cons_mk (shut_int Try.underlying5 w0) trodAll_mk0), rfl, bel.frame _, fun h => by cases h⟩
theorem over : Rows.packFullRow.holds Try.pinned (OpenSpec.ofChange Rows.packFullSpec) :=
  OpenClaim.holds_of_wide 8 Try.f8 rfl rfl rfl rfl rfl rfl rfl ⟨rfl, rfl, rfl, rfl, rfl⟩ rfl rfl rfl rfl rfl (by kernel_rfl) Try.func8 (by kernel_rfl)
    (of_decide_eq_true (by kernel_rfl)) (by unfold Func.isWrapper; first | (rw [if_pos (by decide +kernel)]; kernel_rfl) | (rw [if_neg (by decide +kernel)]; exact ⟨rfl, rfl⟩))
    (fun os started H enc _ => lifted os started H enc)
theorem proved : Rows.PackFullSaid := over
#print axioms proved
end Go.Proofs.Ytohddbiedabmhaa.packFull
namespace Go.Proofs.Ytohddbiedabmhaa
/-- The row, under a short name, for the claim. -/
theorem packFull_holds : Rows.PackFullSaid := packFull.proved
end Go.Proofs.Ytohddbiedabmhaa
