/- The law PackBack holds of the given program for every input, without any condition. -/
import Derived.Test.YtohddbiedabmhaaMPackBack12
import Derived.Test.YtohddbiedabmhaaMPackBack3
import Derived.Test.YtohddbiedabmhaaMPackBack8
import Derived.Test.YtohddbiedabmhaaMPackBack11
import Derived.Test.YtohddbiedabmhaaMPackBack7
import Derived.Test.YtohddbiedabmhaaMPackBack0
import Derived.Test.YtohddbiedabmhaaMPackBack1
import Derived.Test.YtohddbiedabmhaaMPackBack13
import Derived.Test.YtohddbiedabmhaaMPackBack2
import Derived.Test.YtohddbiedabmhaaRows
import Derived.WalkKit
import Derived.ProofKit
import Derived.OpenShut
import Derived.ShutString
import Derived.ChangeOld
import Derived.Below
import Derived.SizedLaws
import Derived.Carry
namespace Go.Proofs.Ytohddbiedabmhaa.Pure
open Go.RowKit Go.Proofs.Ytohddbiedabmhaa.X Go.Proofs.YtohddbiedabmhaaW.PrintWords Go.Proofs.YtohddbiedabmhaaW.PrintLast Go.Proofs.YtohddbiedabmhaaW.PrintMore
set_option linter.unusedVariables false
set_option linter.unusedSimpArgs false
def inR (x : Int) : Prop := -9223372036854775808 ≤ x ∧ x < 9223372036854775808
theorem wrap_u64 {n : Int} (h : inR n) : wrap64 (((IntKind.u64.wrap n).toNat : Nat) : Int) = n := by
  have := u64_range n
  rw [Int.toNat_of_nonneg this.1, u64_wrap]
  obtain ⟨h0, h1⟩ := h
  unfold wrap64
  omega
theorem packed_cat (part : List Int) : ∀ (d : Nat) (out : List Int), part.length ≤ d → out.length + part.length ≤ 65536 → (∀ x ∈ part, inR x) → packedF d out (catS part) = (out ++ part, 0) := by
  induction part with
  | nil =>
    intro d out _ _ _
    cases d with
    | zero => simp [packedF]
    | succ d => rw [packedF, if_pos (show (catS []).size = 0 from rfl)]; simp
  | cons n l ih =>
    intro d out hd ho hr
    simp only [List.length_cons] at hd ho
    obtain ⟨d, rfl⟩ : ∃ m, d = m + 1 := ⟨d - 1, by omega⟩
    have hn := hr n (List.mem_cons_self ..)
    have hu := u64_range n
    have hv : (IntKind.u64.wrap n).toNat < 18446744073709551616 := by omega
    have hwr := wrap_u64 hn
    generalize hvv : (IntKind.u64.wrap n).toNat = v at *
    have hc : catS (n :: l) = vStr v ++ catS l := by rw [catS, hvv]
    have hp := vSize_pos v
    have hx : (vStr v ++ catS l).extract (vSize v) (vStr v ++ catS l).size = catS l := by
      apply ns_inj
      rw [ns_extract, ns_append, ns_vStr, drop_put, List.take_of_length_le]
      rw [ByteArray.size_append, vStr_size, ns_length]; omega
    rw [hc, packedF, if_neg (by rw [ByteArray.size_append, vStr_size]; omega), vRead_put v hv]
    simp only [hx, hwr]
    rw [if_neg (by simp), if_neg (by omega), ih d (out ++ [n]) (by omega) (by simp; omega) (fun x hx => hr x (List.mem_cons_of_mem _ hx))]
    simp
theorem intsL_append (l1 : List Fl) : ∀ (out o : List Int) (l2 : List Fl), intsL l1 out = (o, 0) → intsL (l1 ++ l2) out = intsL l2 o := by
  induction l1 with
  | nil => intro out o l2 h; rw [intsL] at h; cases h; rfl
  | cons f l1 ih =>
    intro out o l2 h
    rw [List.cons_append, intsL]
    rw [intsL] at h
    split
    · rename_i h0
      rw [if_pos h0] at h
      split
      · rename_i h1
        rw [if_pos h1] at h
        simp at h
      · rename_i h1
        rw [if_neg h1] at h
        exact ih _ _ _ h
    · rename_i h0
      rw [if_neg h0] at h
      split
      · rename_i h1
        rw [if_pos h1] at h
        split
        · rename_i h2
          rw [if_pos h2] at h
          exact absurd (Prod.ext_iff.1 h).2 h2
        · rename_i h2
          rw [if_neg h2] at h
          exact ih _ _ _ h
      · rename_i h1
        rw [if_neg h1] at h
        simp at h
structure OkP (num : Int) (goods : List (S47)) (row : List Int) : Prop where
  may : ∀ x ∈ goods, x.f0 = num ∧ mayF x ∧ 0 ≤ x.f2 ∧ x.f2 < 18446744073709551616 ∧ x.f3.size ≤ 140737488351232
  ints : intsL (goods.map fieldOf) [] = (row, 0)
theorem ok_put {num : Int} (hn : 1 ≤ num ∧ num ≤ 100) {goods : List (S47)} {row part : List Int} (h : OkP num goods row) (hl : row.length + part.length ≤ 65536) (hr : ∀ x ∈ part, inR x) :
    ∃ g', OkP num g' (row ++ part) ∧ laidF g' = laidF goods ++ putS num part := by
  by_cases hp : part = []
  · subst hp
    refine ⟨goods, by simpa using h, ?_⟩
    rw [putS, if_pos rfl]
    apply ns_inj
    simp [ns_append, ns]
  · have hsz := catS_size part
    refine ⟨goods ++ [⟨num, 2, 0, catS part⟩], ⟨?_, ?_⟩, ?_⟩
    · intro x hx
      rcases List.mem_append.1 hx with hx | hx
      · exact h.may x hx
      · rw [List.mem_singleton.1 hx]
        exact ⟨rfl, ⟨hn.1, by show num ≤ _; omega, Or.inr (Or.inr (Or.inl rfl)), fun h => absurd (show (2 : Int) = 5 from h) (by decide)⟩, (show (0 : Int) ≤ 0 by decide), (show (0 : Int) < 18446744073709551616 by decide), by show (catS part).size ≤ _; omega⟩
    · rw [List.map_append, intsL_append _ _ _ _ h.ints]
      show intsL [(num, 2, 0, catS part)] row = _
      have hlen : part.length ≤ (catS part).size := by
        clear hsz hl hr h hp
        induction part with
        | nil => simp
        | cons n l ih =>
          rw [catS, ByteArray.size_append, vStr_size, List.length_cons]
          have := vSize_pos (IntKind.u64.wrap n).toNat
          omega
      have e := packed_cat part (catS part).size row hlen hl hr
      rw [intsL, if_neg (show ¬ ((2 : Int) = 0) by decide), if_pos (show ((2 : Int) = 2) from rfl)]
      show (if (packedF (catS part).size row (catS part)).2 ≠ 0 then _ else intsL [] (packedF (catS part).size row (catS part)).1) = _
      rw [e]
      rfl
    · rw [laidF_snoc, putS, if_neg hp]
theorem ok_num {num : Int} (hn : 1 ≤ num ∧ num ≤ 100) {goods : List (S47)} {row : List Int} {n : Int} (h : OkP num goods row) (hl : row.length < 65536) (hr : inR n) :
    ∃ g', OkP num g' (row ++ [n]) ∧ laidF g' = laidF goods ++ bytesS num 0 (IntKind.u64.wrap n) ⟨#[]⟩ := by
  have hu := u64_range n
  refine ⟨goods ++ [⟨num, 0, IntKind.u64.wrap n, ⟨#[]⟩⟩], ⟨?_, ?_⟩, laidF_snoc _ _⟩
  · intro x hx
    rcases List.mem_append.1 hx with hx | hx
    · exact h.may x hx
    · rw [List.mem_singleton.1 hx]
      exact ⟨rfl, ⟨hn.1, by show num ≤ _; omega, Or.inl rfl, fun h => absurd (show (0 : Int) = 5 from h) (by decide)⟩, hu.1, hu.2, by show ByteArray.size ⟨#[]⟩ ≤ _; decide⟩
  · rw [List.map_append, intsL_append _ _ _ _ h.ints]
    show intsL [(num, 0, IntKind.u64.wrap n, ⟨#[]⟩)] row = _
    have hw := wrap_u64 hr
    rw [Int.toNat_of_nonneg hu.1] at hw
    rw [intsL, if_pos (show ((0 : Int) = 0) from rfl), if_neg (by omega)]
    show intsL [] (row ++ [wrap64 (IntKind.u64.wrap n)]) = _
    rw [hw]; rfl
theorem ok_end {num : Int} {goods : List (S47)} {row : List Int} (h : OkP num goods row) (hs : (laidF goods).size ≤ 1048576) :
    ∃ l, wire_Fields_s.f (laidF goods) = some (l, 0) ∧ pack_Ints_s.f l num = some (row, 0) := by
  have hlen := laidF_len goods (fun x hx => (h.may x hx).2.1)
  have hf : fieldsS (laidF goods) = (goods.map fieldOf, 0) := by
    unfold fieldsS
    rw [if_neg (by omega), fieldsF_laid goods (fun x hx => (h.may x hx).2) _ hlen]
  refine ⟨(goods.map fieldOf).map toP, ?_, ?_⟩
  · unfold wire_Fields_s.f
    rw [if_pos (by omega), hf]; rfl
  · have hall : ∀ x ∈ (goods.map fieldOf).map toP, x.f0 = num ∧ x.f3.size ≤ 140737488351232 := by
      intro x hx
      obtain ⟨y, hy, rfl⟩ := List.mem_map.1 hx
      obtain ⟨z, hz, rfl⟩ := List.mem_map.1 hy
      have := h.may z hz
      refine ⟨this.1, ?_⟩
      show (if z.f1 = 2 then z.f3 else ⟨#[]⟩).size ≤ _
      split
      · exact this.2.2.2.2
      · show ByteArray.size ⟨#[]⟩ ≤ _; decide
    have hfil : ((goods.map fieldOf).map toP).filter (fun x => x.f0 == num) = (goods.map fieldOf).map toP := by
      apply List.filter_eq_self.2
      intro x hx
      simp [(hall x hx).1]
    have hm : ((goods.map fieldOf).map toP).map flP = goods.map fieldOf := by
      rw [List.map_map]
      exact List.map_id _
    unfold pack_Ints_s.f
    rw [if_pos ⟨by rw [List.length_map, List.length_map]; omega, fun x hx => (hall x hx).2⟩, hfil, hm, h.ints]
    rfl
def good (num : Int) (row : List Int) (s : ByteArray) : Prop := ∃ l, wire_Fields_s.f s = some (l, 0) ∧ pack_Ints_s.f l num = some (row, 0)
theorem back_l1 (k : Nat) (num : Int) (row : List Int) (hr : row.length ≤ 300) (s1 s2 : ByteArray) (h1 : good num row s1) (h2 : good num row s2) :
    agatelaw03_PackBack.l1 (k + 3) row num [s1, s2] 2 0 = some true := by
  obtain ⟨l1, a1, b1⟩ := h1
  obtain ⟨l2, a2, b2⟩ := h2
  have e : agatelaw03_Ints_s.f row row = some true := by
    unfold agatelaw03_Ints_s.f
    rw [if_pos (by omega)]; simp
  have w1 : wrap64 (0 + 1) = 1 := wrap64_id (by decide) (by decide)
  have w2 : wrap64 (1 + 1) = 2 := wrap64_id (by decide) (by decide)
  have r1 : rdOf ByteArray.empty [s1, s2] 0 = s1 := rfl
  have r2 : rdOf ByteArray.empty [s1, s2] 1 = s2 := rfl
  rw [agatelaw03_PackBack.l1, if_pos (by decide), if_pos (by decide), if_pos (show (0 : Int) < (([s1, s2].length : Nat) : Int) by simp), r1, a1, w1]
  simp only [Option.bind_some, if_true, b1, e]
  rw [agatelaw03_PackBack.l1, if_pos (by decide), if_pos (by decide), if_pos (show (1 : Int) < (([s1, s2].length : Nat) : Int) by simp), r2, a2, w2]
  simp only [Option.bind_some, if_true, b2, e]
  rw [agatelaw03_PackBack.l1, if_neg (by decide)]
  rfl
theorem put_size (num : Int) (hn : 1 ≤ num ∧ num ≤ 100) (part : List Int) (hl : part.length ≤ 65536) : (putS num part).size ≤ 20 + 10 * part.length := by
  unfold putS
  split
  · show 0 ≤ _; omega
  · have h1 := catS_size part
    have h2 := bytes_size ⟨num, 2, 0, catS part⟩ (show (0 : Int) ≤ 0 by decide) (show (0 : Int) < 18446744073709551616 by decide) (by show (catS part).size ≤ _; omega)
    exact Nat.le_trans h2 (by show 20 + (catS part).size ≤ _; omega)
theorem num_size (num : Int) (v : Int) (hv : 0 ≤ v ∧ v < 18446744073709551616) : (bytesS num 0 v ⟨#[]⟩).size ≤ 20 := by
  have h2 := bytes_size ⟨num, 0, v, ⟨#[]⟩⟩ hv.1 hv.2 (by show ByteArray.size ⟨#[]⟩ ≤ _; decide)
  exact h2
theorem back_loop (num : Int) (hn : 1 ≤ num ∧ num ≤ 100) (row : List Int) (hrow : row.length ≤ 300) (hr : ∀ x ∈ row, inR x) (cuts : List Bool) (d : Nat) : ∀ (k i : Nat) (part done : List Int) (goods : List (S47)), row.length - i = d → i ≤ row.length → 2 * d + 4 ≤ k → OkP num goods done → done ++ part = row.take i → (laidF goods).size + 10 * part.length ≤ 50 * i →
    agatelaw03_PackBack.l0 k row cuts num (laidF goods) part row (row.length : Int) i = some true := by
  induction d with
  | zero =>
    intro k i part done goods hd hi hk hok ht hs
    obtain ⟨k, rfl⟩ : ∃ m, k = m + 4 := ⟨k - 4, by omega⟩
    obtain rfl : i = row.length := by omega
    rw [List.take_length] at ht
    have hpl : done.length + part.length = row.length := by rw [← ht, List.length_append]
    have hpr : ∀ x ∈ part, inR x := fun x hx => hr x (by rw [← ht]; exact List.mem_append_right _ hx)
    obtain ⟨g1, o1, q1⟩ := ok_put hn hok (by omega) hpr
    obtain ⟨g2, o2, q2⟩ := ok_put (part := row) hn (goods := []) (row := []) ⟨by simp, rfl⟩ (by simp; omega) hr
    have z1 := put_size num hn part (by omega)
    have z2 := put_size num hn row (by omega)
    have e1 : pack_Put.f num part = some (putS num part) := if_pos ⟨by omega, by omega, by omega⟩
    have e2 : pack_Put.f num row = some (putS num row) := if_pos ⟨by omega, by omega, by omega⟩
    have q2' : laidF g2 = putS num row := by rw [q2]; apply ns_inj; simp [laidF, ns_append, ns]
    rw [List.nil_append] at o2
    rw [ht] at o1
    have g1' : good num row (laidF goods ++ putS num part) := by
      rw [← q1]; exact ok_end o1 (by rw [q1, ByteArray.size_append]; omega)
    have g2' : good num row (putS num row) := by
      rw [← q2']; exact ok_end o2 (by rw [q2']; omega)
    rw [agatelaw03_PackBack.l0, if_neg (by omega), e1, Option.bind_some, if_pos (by omega), e2, Option.bind_some, Option.bind_some]
    exact back_l1 k num row hrow _ _ g1' g2'
  | succ d ih =>
    intro k i part done goods hd hi hk hok ht hs
    obtain ⟨k, rfl⟩ : ∃ m, k = m + 2 := ⟨k - 2, by omega⟩
    have h0 : i < row.length := by omega
    have hpl : done.length + part.length = i := by rw [← List.length_append, ht, List.length_take]; omega
    have hpr : ∀ x ∈ part, inR x := fun x hx => hr x (List.mem_of_mem_take (i := i) (by rw [← ht]; exact List.mem_append_right _ hx))
    have hir : inR row[i] := hr _ (List.getElem_mem h0)
    have ht1 : row.take (i + 1) = row.take i ++ [row[i]] := List.take_succ_eq_append_getElem h0
    have e0 : rd row (i : Int) = row[i] := by simp [rd, List.getD_eq_getElem?_getD, h0]
    have hj : ∀ c : Bool, agatelaw03_PackBack.j1 (k + 1) row cuts num (laidF goods) part row[i] row (row.length : Int) i c = some true := by
      intro c
      have w3 : wrap64 ((i : Int) + 1) = ((i + 1 : Nat) : Int) := by rw [wrap64_id (by omega) (by omega)]; omega
      rw [agatelaw03_PackBack.j1, w3]
      clear w3
      cases c with
      | false =>
        rw [if_neg (by simp), if_pos (by omega)]
        exact ih k (i + 1) (part ++ [row[i]]) done goods (by omega) (by omega) (by omega) hok (by rw [ht1, ← ht, List.append_assoc]) (by simp; omega)
      | true =>
        have hu := u64_range row[i]
        have z1 := put_size num hn part (by omega)
        have z2 := num_size num (IntKind.u64.wrap row[i]) hu
        have e1 : pack_Put.f num part = some (putS num part) := if_pos ⟨by omega, by omega, by omega⟩
        have e2 : wire_Number_s.f num (IntKind.u64.wrap row[i]) = some (bytesS num 0 (IntKind.u64.wrap row[i]) ⟨#[]⟩) := if_pos ⟨by omega, by omega, by decide, by decide, hu.1, hu.2, by decide⟩
        obtain ⟨g1, o1, q1⟩ := ok_put hn hok (by omega) hpr
        obtain ⟨g2, o2, q2⟩ := ok_num hn o1 (by rw [List.length_append]; omega) hir
        rw [q1, ByteArray.append_assoc] at q2
        rw [if_pos rfl, e1, Option.bind_some, e2, Option.bind_some, if_pos (by omega), if_pos (by rw [ByteArray.size_append]; omega), ← q2]
        exact ih k (i + 1) [] (done ++ part ++ [row[i]]) g2 (by omega) (by omega) (by omega) o2 (by rw [ht1, ← ht]; simp) (by rw [q2, ByteArray.size_append, ByteArray.size_append]; simp; omega)
    rw [agatelaw03_PackBack.l0, if_pos (by omega), if_pos (by omega), if_pos (by omega), e0]
    split
    · exact hj _
    · exact hj _
theorem PackBack : agatelaw03_PackBack.Pure := by
  intro a row cuts ha hrow _
  have h := wf_u8 ha
  have e1 : wrap64 (Int.tmod a 100) = a % 100 := by rw [Int.tmod_eq_emod_of_nonneg h.1, wrap64_id (by omega) (by omega)]
  have e2 : wrap64 (a % 100 + 1) = a % 100 + 1 := wrap64_id (by omega) (by omega)
  refine ⟨2 * row.length + 4, ?_⟩
  unfold agatelaw03_PackBack.f
  by_cases hl : (row.length : Int) > 300
  · rw [if_pos hl]; rfl
  · rw [if_neg hl, e1, e2]
    clear e1 e2
    exact back_loop (a % 100 + 1) (by omega) row (by omega) (fun x hx => wf_i64 (hrow.2.2 x hx)) cuts row.length _ 0 [] [] [] rfl (by omega) (by omega) ⟨by simp, rfl⟩ rfl (by show 0 ≤ _; omega)

end Go.Proofs.Ytohddbiedabmhaa.Pure
-- by xprint.py, a program of this session, over the kit's print.py
namespace Go.Proofs.Ytohddbiedabmhaa.packBack
open Go.ChangeShapes Go.WideShapes Go.ChangeAt Go.RowKit Go.Proofs.Ytohddbiedabmhaa.X Go.Proofs.YtohddbiedabmhaaW.PrintWords
set_option linter.unusedVariables false
theorem own : ownKnob Try.prog.godebug = none := by kernel_rfl
theorem laidOut : laidOutB Try.prog = true := by kernel_rfl
set_option maxRecDepth 100000 in
theorem lifted (os : Os) (started : os.Started) (H : Type) (enc : TypeId × Value → H) :
    ReturnsInHanded {} Try.checked os 9 .any (Rows.packBackSpec.pre6 enc Try.prog Try.f9 Rows.packBackRow.domain false) (Rows.packBackSpec.post enc Try.prog Try.f9 false true false false) := by
  refine returnsInHanded_of_change_sized (C := Try.checked) own started (by kernel_rfl) Try.func9
    (ChangeSpec.witness6 (enc := enc) (C := Try.checked) false ⟨#[], #[.int .u8 0, .slice none 0 0, .slice none 0 0], []⟩ 8 (by kernel_rfl) (by kernel_rfl) (by kernel_rfl) (by kernel_rfl)) ?_
  intro W base args ds gs before hval0 hW hcnd hsz0 _
  have hsz : (DataW.weightsEach Try.prog (Try.f9.params.toList ++ Rows.packBackSpec.plain.varTypes Try.prog) (ds ++ gs)).all (· ≤ reachBytes) = true := hsz0
  have hval : ∀ (j : Nat) t v, Try.f9.params[j]? = some t → args[j]? = some v → Value.okWide Try.prog W .any base t v := hval0
  have hW' := hW
  obtain ⟨p, q, hA0, hV, rfl, hfz, hnd⟩ := hW
  have hA : DataW.TrodAll enc Try.prog W 0 (fun _ => true) true Try.f9.params.toList args.toList ds p := hA0
  rw [Try.params9] at hA hval hsz
  obtain ⟨v0, vs0, d0, ds0, p0, q0, hargs, rfl, rfl, h0, r0⟩ := trodAll_cons hA
  obtain ⟨v1, vs1, d1, ds1, p1, q1, rfl, rfl, rfl, h1, r1⟩ := trodAll_cons r0
  obtain ⟨v2, vs2, d2, ds2, p2, q2, rfl, rfl, rfl, h2, r2⟩ := trodAll_cons r1
  obtain ⟨rfl, rfl, rfl⟩ := trodAll_nil r2
  obtain rfl : args = #[v0, v1, v2] := by cases args; simp_all
  obtain ⟨rfl, rfl⟩ := trodVars_none hV
  have k0 := h0
  have lt0 : ∀ x ∈ p0, x.block < W.heap.size := by obtain ⟨m, hm⟩ := k0; exact DataW.trod_lt m _ _ _ hm
  obtain ⟨fuel0, hf0⟩ := h0
  obtain ⟨x0, K0, wf0⟩ := ((Opens.int Try.underlying5 (by kernel_rfl)) : Opens enc Try.prog W 5 (Kd.int .u8) (fun a => (Lit.int .u8 a).wf = true)).go fuel0 _ _ hf0 (fun m hm => by simpa using List.all_eq_true.1 hsz m (DataW.weights_mem_each (j := 0) (t := 5) rfl rfl m hm))
  obtain ⟨b0, rfl⟩ := okWide_int Try.underlying5 (hval 0 5 v0 rfl rfl)
  obtain rfl : b0 = x0 := by have e_ := K0; simpa [Kd.int, Kd.bool, Kd.string, Kd.scalar, Value.cells] using e_
  have k1 := h1
  have lt1 : ∀ x ∈ p1, x.block < W.heap.size := by obtain ⟨m, hm⟩ := k1; exact DataW.trod_lt m _ _ _ hm
  obtain ⟨fuel1, hf1⟩ := h1
  obtain ⟨x1, K1, wf1⟩ := ((Opens.slice Try.underlying58 (by kernel_rfl) (by kernel_rfl) (Opens.int Try.underlying2 (by kernel_rfl))) : Opens enc Try.prog W 58 (Kd.slice 2 (Kd.int .i64)) (fun l => l.length ≤ maxLen ∧ l.length * 8 ≤ 140737488351232 ∧ ∀ x ∈ l, (fun a => (Lit.int .i64 a).wf = true) x)).go fuel1 _ _ hf1 (fun m hm => by simpa using List.all_eq_true.1 hsz m (DataW.weights_mem_each (j := 1) (t := 58) rfl rfl m hm))
  obtain ⟨a1, len1, cap1, rfl⟩ := okWide_slice Try.underlying58 (hval 1 58 v1 rfl rfl)
  obtain ⟨A1, c1, e1, hc1, hr1⟩ := K1
  obtain ⟨rfl, rfl, rfl⟩ : a1 = A1 ∧ len1 = x1.length ∧ cap1 = c1 := by simpa [Value.cells] using e1
  have k2 := h2
  have lt2 : ∀ x ∈ p2, x.block < W.heap.size := by obtain ⟨m, hm⟩ := k2; exact DataW.trod_lt m _ _ _ hm
  obtain ⟨fuel2, hf2⟩ := h2
  obtain ⟨x2, K2, wf2⟩ := ((Opens.slice Try.underlying62 (by kernel_rfl) (by kernel_rfl) (Opens.bool Try.underlying4 (by kernel_rfl))) : Opens enc Try.prog W 62 (Kd.slice 4 Kd.bool) (fun l => l.length ≤ maxLen ∧ l.length * 1 ≤ 140737488351232 ∧ ∀ x ∈ l, (fun _ => True) x)).go fuel2 _ _ hf2 (fun m hm => by simpa using List.all_eq_true.1 hsz m (DataW.weights_mem_each (j := 2) (t := 62) rfl rfl m hm))
  obtain ⟨a2, len2, cap2, rfl⟩ := okWide_slice Try.underlying62 (hval 2 62 v2 rfl rfl)
  obtain ⟨A2, c2, e2, hc2, hr2⟩ := K2
  obtain ⟨rfl, rfl, rfl⟩ : a2 = A2 ∧ len2 = x2.length ∧ cap2 = c2 := by simpa [Value.cells] using e2
  clear hA0 hval0 hsz0 hsz
  obtain ⟨k, hp⟩ := Pure.PackBack b0 x1 x2 wf0 wf1 wf2
  refine (agatelaw03_PackBack.calls k b0 a1 cap1 x1 a2 cap2 x2 true W hr1 hc1 hr2 hc2 hp).mono fun e W' ⟨he, bel0⟩ => ?_
  have bel : Below W.heap.size W W' := bel0
  subst he
  exact ⟨_, rfl, _, _, _, [], _, [], hW', trodAll_mk1 (shut_bool Try.underlying4 _), (trodAll_cons_mk (Below.trod laidOut (by kernel_rfl) (of_decide_eq_true (by kernel_rfl)) k0 bel lt0) (trodAll_cons_mk (Below.trod laidOut (by kernel_rfl) (of_decide_eq_true (by kernel_rfl)) k1 bel lt1) (trodAll_cons_mk (Below.trod laidOut (by kernel_rfl) (of_decide_eq_true (by kernel_rfl)) k2 bel lt2) trodAll_mk0))), rfl, bel.frame _, fun h => by cases h⟩
theorem over : Rows.packBackRow.holds Try.pinned (OpenSpec.ofChange Rows.packBackSpec) :=
  OpenClaim.holds_of_wide 9 Try.f9 rfl rfl rfl rfl rfl rfl rfl ⟨rfl, rfl, rfl, rfl, rfl⟩ rfl rfl rfl rfl rfl (by kernel_rfl) Try.func9 (by kernel_rfl)
    (of_decide_eq_true (by kernel_rfl)) (by unfold Func.isWrapper; first | (rw [if_pos (by decide +kernel)]; kernel_rfl) | (rw [if_neg (by decide +kernel)]; exact ⟨rfl, rfl⟩))
    (fun os started H enc _ => lifted os started H enc)
theorem proved : Rows.PackBackSaid := over
#print axioms proved
end Go.Proofs.Ytohddbiedabmhaa.packBack
namespace Go.Proofs.Ytohddbiedabmhaa
theorem packBack_holds : Rows.PackBackSaid := packBack.proved
end Go.Proofs.Ytohddbiedabmhaa
