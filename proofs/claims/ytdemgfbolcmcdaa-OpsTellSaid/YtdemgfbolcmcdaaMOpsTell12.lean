import Derived.Test.YtdemgfbolcmcdaaMOpsTell2
import Derived.Test.YtdemgfbolcmcdaaMOpsTell10
import Derived.Test.YtdemgfbolcmcdaaMOpsTell7
import Derived.Test.YtdemgfbolcmcdaaMOpsTell3
import Derived.Test.YtdemgfbolcmcdaaMOpsTell4
import Derived.WalkLawsBesides
import Derived.MapKept
import Derived.Test.YtdemgfbolcmcdaaMOpsTell11
namespace Go.Proofs.Ytdemgfbolcmcdaa.X
open Go.RowKit Go.Proofs.YtdemgfbolcmcdaaW.PrintWords Go.Proofs.YtdemgfbolcmcdaaW.PrintLast Go.Proofs.YtdemgfbolcmcdaaW.PrintMore
attribute [local go_sem] max2_int min2_int max_two min_two max_three min_three max_four min_four
set_option linter.unusedVariables false
set_option linter.unusedSimpArgs false
def nmRule (l : List S90) : List ByteArray := l.map (fun x => x.f0)
set_option maxHeartbeats 8000000 in
theorem closRule.calls (e : S90)  (gb : Nat) (nm : ByteArray) (cb : Bool) (ci : Int) (cA : Option Addr) (cn cc : Nat) (w : World) (hb : w.heap[gb]? = some (.cells #[.string nm, .bool cb, .int .i64 ci, .slice cA cn cc] 35 (0, 0))) :
    Calls Try.prog 63 #[.agg #[.string e.f0, .bool e.f1, .bool e.f2], .pointer (some ⟨gb, 0, none⟩)] w fun e' w' => e' = .returned (.bool (e.f0.toList == nm.toList)) ∧ Below w.heap.size w w' := by
  have hu := Try.underlying90
  have HB0 := Aside0.mk hb
  have hc : w.cell? ⟨gb, 0, none⟩ = some (.string nm) := blk_cell hb 0
  have hu2 := Try.underlying35
  clear hb
  go_enter Try.func63, Try.ntmps63
  have hlt : gb < w.heap.size := blk_lt HB0.out
  go_wp2
  go_ret
  exact ⟨rfl, below_alloc (Below.refl w.heap.size w) _⟩
set_option maxHeartbeats 8000000 in
set_option maxRecDepth 100000 in
theorem idxRule.calls (A0 : Option Addr) (c0 : Nat) (l0 : List S90) (gb : Nat) (nm : ByteArray) (cb : Bool) (ci : Int) (cA : Option Addr) (cn cc : Nat) (w : World) (hr0 : Kd.C k90 w A0 l0.length l0) (hc0 : l0.length ≤ c0) (hb : w.heap[gb]? = some (.cells #[.string nm, .bool cb, .int .i64 ci, .slice cA cn cc] 35 (0, 0))) :
    Calls Try.prog 62 #[.slice A0 l0.length c0, .func (Fn.func 63) #[] #[.pointer (some ⟨gb, 0, none⟩)]] w fun e w' => e = .returned (.int .i64 (idxS (nmRule l0) nm 0)) ∧ Below w.heap.size w w' := by
  have HR0 := Aside0.mk hr0
  have HB0 := Aside0.mk hb
  have HL := Aside0.mk hr0.2.1
  have HB := Aside0.mk (Below.refl w.heap.size w)
  clear hr0 hb hc0
  go_enter Try.func62, Try.ntmps62
  go_wp2
  go_loopg [8] l0.length (fun kq v8 w' => ∃ i : Nat, v8 = .int .i64 i ∧ Aside0 (i + kq = l0.length) ∧ i ≤ l0.length ∧ Aside0 (idxS (nmRule l0) nm 0 = idxS ((nmRule l0).drop i) nm i) ∧ Aside0 (Below w.heap.size w w'))
  case atStart => exact ⟨0, rfl, ⟨by omega⟩, Nat.zero_le _, ⟨rfl⟩, HB⟩
  case round =>
    clear HB
    obtain ⟨i, rfl, HK, hi, HI, HB⟩ := hrel
    by_cases hlt : i < l0.length
    · have hlt' : decide ((i : Int) < (l0.length : Int)) = true := by simpa using hlt
      obtain ⟨kk, rfl⟩ : ∃ m, gk = m + 1 := ⟨gk - 1, by have := HK.out; omega⟩
      have p101 : 0 ≤ (i : Int) := Int.natCast_nonneg i
      have q101 : (i : Int) < (l0.length : Int) := by omega
      obtain ⟨ad101, e101, hx101_0, hx101_1, hx101_2⟩ := at_T90 (Kd.C_below HR0.out HB.out) (i : Int) p101 q101
      cases e101
      skip
      rw [Int.toNat_natCast] at hx101_0 hx101_1 hx101_2
      have hr : rd_T90 l0 (i : Int) = l0[i] := by simp [rd_T90, hlt]
      have hn : (nmRule l0).drop i = l0[i].f0 :: (nmRule l0).drop (i + 1) := by
        unfold nmRule
        rw [List.drop_eq_getElem_cons (by rw [List.length_map]; exact hlt), List.getElem_map]
      rw [hr] at hx101_0 hx101_1 hx101_2
      have HN := Aside0.mk hn
      clear hr hn
      have Hw : Aside0 (wrap64 ((i : Int) + 1) = (i : Int) + 1) := ⟨by have := HL.out; exact wrap64_id (by omega) (by omega)⟩
      replace p101 := eq_true p101
      replace q101 := eq_true q101
      go_wp2_with (first | (fail))
      refine (closRule.calls l0[i]  gb nm cb ci cA cn cc _ (blk_below HB0.out HB.out)).mono ?_
      rintro e w8 ⟨rfl, hb⟩
      have n0_ := Aside0.mk (below_step HB.out hb)
      clear HB hb
      have HB := n0_
      clear n0_
      by_cases hx : l0[i].f0 = nm
      · have hq : (l0[i].f0.toList == nm.toList) = true := by rw [hx]; exact beq_self_eq_true _
        have HX : Aside0 (idxS (nmRule l0) nm 0 = (i : Int)) := ⟨by rw [HI.out, HN.out, idxS, if_pos hx]⟩
        clear hx
        go_wp2_with (first | (fail))
        go_ret
        exact ⟨by rw [HX.out]; rfl, HB.out⟩
      · have hq : (l0[i].f0.toList == nm.toList) = false := beq_eq_false_iff_ne.2 (fun h => hx (toList_inj.1 h))
        have HX : Aside0 (idxS (nmRule l0) nm 0 = idxS ((nmRule l0).drop (i + 1)) nm (i + 1)) := ⟨by rw [HI.out, HN.out, idxS, if_neg hx]⟩
        clear hx
        go_wp2_with (first | (fail))
        go_roundg kk
        case measure => have := HK.out; omega
        case rel => exact ⟨i + 1, by rw [Hw.out]; rfl, ⟨by have := HK.out; omega⟩, by omega, HX, HB⟩
    · have hlt' : decide ((i : Int) < (l0.length : Int)) = false := by simpa using hlt
      have HX : Aside0 (idxS (nmRule l0) nm 0 = -1) := ⟨by rw [HI.out, List.drop_of_length_le (by unfold nmRule; rw [List.length_map]; omega)]; rfl⟩
      go_wp2_with (first | (fail))
      go_ret
      exact ⟨by rw [HX.out]; rfl, HB.out⟩
end Go.Proofs.Ytdemgfbolcmcdaa.X
namespace Go.Proofs.Ytdemgfbolcmcdaa.X
open Go.RowKit Go.Proofs.YtdemgfbolcmcdaaW.PrintWords Go.Proofs.YtdemgfbolcmcdaaW.PrintLast Go.Proofs.YtdemgfbolcmcdaaW.PrintMore
attribute [local go_sem] max2_int min2_int max_two min_two max_three min_three max_four min_four
set_option linter.unusedVariables false
set_option linter.unusedSimpArgs false
instance lawfulBytes : LawfulBEq ByteArray where
  eq_of_beq h := (MapKept.bytes_beq _ _).1 h
  rfl := (MapKept.bytes_beq _ _).2 rfl
def metL : List ByteArray → Nat → List MapEntry
  | [], _ => []
  | x :: t, i => { key := .string x, val := .int .i64 1, born := i } :: metL t (i + 1)
def metE (l : List ByteArray) : Array MapEntry := (metL l 0).toArray
theorem metL_append (x : ByteArray) : ∀ (l : List ByteArray) (i : Nat), metL (l ++ [x]) i = metL l i ++ [{ key := .string x, val := .int .i64 1, born := i + l.length }]
  | [], i => rfl
  | y :: t, i => by
    rw [List.cons_append, metL, metL_append x t (i + 1), metL, List.cons_append, List.length_cons]
    congr 4; omega
theorem metE_push (l : List ByteArray) (x : ByteArray) : (metE l).push { key := .string x, val := .int .i64 1, born := l.length } = metE (l ++ [x]) := by
  unfold metE
  rw [metL_append, List.push_toArray, Nat.zero_add]
theorem same_str (a b : ByteArray) : Instr.sameNow .string (.string a) (.string b) = some (a == b) := by simp [Instr.sameNow]
theorem self_beq (a : ByteArray) : (a == a) = true := (MapKept.bytes_beq a a).2 rfl
theorem find_met (nm : ByteArray) : ∀ (l : List ByteArray) (i j : Nat),
    (nm ∉ l → Instr.findNow .string (.string nm) (metL l i) j = some none) ∧ (nm ∈ l → ∃ q, Instr.findNow .string (.string nm) (metL l i) j = some (some (j + q, .int .i64 1)) ∧ (metL l i)[q]?.map (·.key) = some (.string nm))
  | [], i, j => ⟨fun _ => rfl, fun h => by cases h⟩
  | x :: t, i, j => by
    obtain ⟨h1, h2⟩ := find_met nm t (i + 1) (j + 1)
    by_cases hx : nm = x
    · subst hx
      refine ⟨fun h => absurd (List.mem_cons_self ..) h, fun _ => ⟨0, ?_, rfl⟩⟩
      rw [metL]
      simp only [Instr.findNow, same_str, self_beq]
      rfl
    · have hb : (nm == x) = false := by
        cases hq : (nm == x) with
        | false => rfl
        | true => exact absurd ((MapKept.bytes_beq nm x).1 hq) hx
      refine ⟨fun h => ?_, fun h => ?_⟩
      · rw [metL]
        simp only [Instr.findNow, same_str, hb]
        exact h1 (fun hm => h (List.mem_cons_of_mem _ hm))
      · rcases List.mem_cons.1 h with h | h
        · exact absurd h hx
        · obtain ⟨q, hq1, hq2⟩ := h2 h
          refine ⟨q + 1, ?_, hq2⟩
          rw [metL]
          simp only [Instr.findNow, same_str, hb]
          rw [hq1]; congr 3; omega
theorem met_keys (l : List ByteArray) : ∀ i, ∀ e ∈ metL l i, ∃ s, e.key = .string s := by
  induction l with
  | nil => intro i e he; cases he
  | cons x t ih =>
    intro i e he
    rw [metL] at he
    rcases List.mem_cons.1 he with rfl | he
    · exact ⟨x, rfl⟩
    · exact ih _ e he
theorem find_mod (nm : ByteArray) (v : Value) : ∀ (L : List MapEntry) (j q : Nat) (u : Value), (∀ e ∈ L, ∃ s, e.key = .string s) → Instr.findNow .string (.string nm) L j = some (some (j + q, u)) →
    Instr.findNow .string (.string nm) (L.modify q (fun e => { e with key := .string nm, val := v })) j = some (some (j + q, v))
  | [], j, q, u, _, h => by simp [Instr.findNow] at h
  | e :: es, j, q, u, hk, h => by
    obtain ⟨s, hs⟩ := hk e (List.mem_cons_self ..)
    by_cases hx : nm = s
    · subst hx
      simp only [Instr.findNow, hs, same_str, self_beq] at h
      have hq : q = 0 := by
        have := congrArg (fun o : Option (Option (Nat × Value)) => (o.getD none).map (·.1)) h
        simp at this
        omega
      subst hq
      simp only [List.modify_zero_cons, Instr.findNow, same_str, self_beq]
      rfl
    · have hb : (nm == s) = false := by
        cases hq : (nm == s) with
        | false => rfl
        | true => exact absurd ((MapKept.bytes_beq nm s).1 hq) hx
      simp only [Instr.findNow, hs, same_str, hb] at h
      cases q with
      | zero =>
        exfalso
        have key : ∀ (L : List MapEntry) (j p : Nat) (u : Value), Instr.findNow .string (.string nm) L j = some (some (p, u)) → j ≤ p := by
          intro L
          induction L with
          | nil => intro j p u h; simp [Instr.findNow] at h
          | cons a L ih =>
            intro j p u h
            simp only [Instr.findNow] at h
            split at h
            · have := congrArg (fun o : Option (Option (Nat × Value)) => (o.getD none).map (·.1)) h
              simp at this; omega
            · have := ih _ _ _ h; omega
            · cases h
        have := key _ _ _ _ h
        omega
      | succ q =>
        have h' : Instr.findNow .string (.string nm) es (j + 1) = some (some (j + 1 + q, u)) := by rw [h]; congr 3; omega
        have ih := find_mod nm v es (j + 1) q u (fun e he => hk e (List.mem_cons_of_mem _ he)) h'
        simp only [List.modify_succ_cons, Instr.findNow, hs, same_str, hb]
        rw [ih]; congr 3; omega
set_option maxRecDepth 100000 in
theorem lookup_met {W : World} {r c : Nat} (met : List ByteArray) (nm : ByteArray) (hb : W.heap[r]? = some (.map (metE met) c)) : (Instr.lookup 122 (.map (some r)) (.string nm) false).run Try.prog W = .ok (.int .i64 (if nm ∈ met then 1 else 0)) W := by
  have hk : MapKept.IsKey .string (.string nm) := by simp [MapKept.IsKey]
  have hd : Try.prog.underlying 9 = some .string := Try.underlying9
  have hz : (zeroValue 3).run Try.prog W = .ok (.int .i64 0) W := rfl
  obtain ⟨h1, h2⟩ := find_met nm met 0 0
  by_cases hm : nm ∈ met
  · obtain ⟨q, hq, _⟩ := h2 hm
    have hf : Instr.findNow .string (.string nm) (metE met).toList 0 = some (some (0 + q, .int .i64 1)) := hq
    rw [if_pos hm]
    simp [Instr.lookup, run_underlying Try.underlying122, MapKept.run_getObj_map hb, MapKept.run_checkKey hd hk, MapKept.run_findKey hd hf, Result.andThen]
  · have hf : Instr.findNow .string (.string nm) (metE met).toList 0 = some none := h1 hm
    rw [if_neg hm]
    simp [Instr.lookup, run_underlying Try.underlying122, MapKept.run_getObj_map hb, MapKept.run_checkKey hd hk, MapKept.run_findKey hd hf, Result.andThen, hz]
theorem below_setObj2 {w W : World} {r : Nat} {o : Obj} (h : Below w.heap.size w W) (hr : w.heap.size ≤ r) : Below w.heap.size w { W with heap := W.heap.setIfInBounds r o } :=
  ⟨h.os, h.tape, h.output, by show _ ≤ (W.heap.setIfInBounds r o).size; rw [Array.size_setIfInBounds]; exact h.size, fun i hi => by
    show (W.heap.setIfInBounds r o)[i]? = _
    rw [Array.getElem?_setIfInBounds_ne (by omega)]; exact h.block i hi⟩
theorem update_new {w W : World} {r : Nat} (met : List ByteArray) (nm : ByteArray) (hn : nm ∉ met) (hb : W.heap[r]? = some (.map (metE met) met.length)) (hr : w.heap.size ≤ r) (hB : Below w.heap.size w W) :
    ∃ W2, (Instr.mapUpdate 122 (.map (some r)) (.string nm) (.int .i64 1)).run Try.prog W = .ok () W2 ∧ W2.heap[r]? = some (.map (metE (met ++ [nm])) (met ++ [nm]).length) ∧ Below w.heap.size w W2 ∧ ∀ g, g ≠ r → W2.heap[g]? = W.heap[g]? := by
  have hk : MapKept.IsKey .string (.string nm) := by simp [MapKept.IsKey]
  have hd : Try.prog.underlying 9 = some .string := Try.underlying9
  have hf : Instr.findNow .string (.string nm) (metE met).toList 0 = some none := (find_met nm met 0 0).1 hn
  have hp := metE_push met nm
  have h2 := MapKept.heap_set (o' := .map (metE (met ++ [nm])) (met.length + 1)) hb
  refine ⟨{ W with heap := W.heap.setIfInBounds r (.map (metE (met ++ [nm])) (met.length + 1)) }, ?_, by rw [List.length_append]; exact h2.1, below_setObj2 hB hr, h2.2⟩
  simp [Instr.mapUpdate, run_underlying Try.underlying122, MapKept.run_getObj_map hb, MapKept.run_checkKey hd hk, MapKept.run_findKey hd hf, MapKept.run_setObj_map _ hb, Result.andThen, hp]
theorem update_old {w W : World} {r c : Nat} (met : List ByteArray) (nm : ByteArray) (v : Int) (hm : nm ∈ met) (hb : W.heap[r]? = some (.map (metE met) c)) (hr : w.heap.size ≤ r) (hB : Below w.heap.size w W) :
    ∃ W2, (Instr.mapUpdate 122 (.map (some r)) (.string nm) (.int .i64 v)).run Try.prog W = .ok () W2 ∧ (Instr.lookup 122 (.map (some r)) (.string nm) false).run Try.prog W2 = .ok (.int .i64 v) W2 ∧ Below w.heap.size w W2 ∧ ∀ g, g ≠ r → W2.heap[g]? = W.heap[g]? := by
  have hk : MapKept.IsKey .string (.string nm) := by simp [MapKept.IsKey]
  have hd : Try.prog.underlying 9 = some .string := Try.underlying9
  obtain ⟨q, hq, hkey⟩ := (find_met nm met 0 0).2 hm
  have hf : Instr.findNow .string (.string nm) (metE met).toList 0 = some (some (0 + q, .int .i64 1)) := hq
  have hold : (((metE met)[q]?).map (·.key)).getD (.string nm) = .string nm := by
    have : (metE met)[q]?.map (·.key) = some (.string nm) := by
      unfold metE
      rw [List.getElem?_toArray]; exact hkey
    rw [this]; rfl
  have hs : (Instr.keyThatStays (.string nm) (.string nm)).run Try.prog W = .ok (.string nm) W := by
    unfold Instr.keyThatStays
    rw [if_pos (by simp [Instr.sameBits, self_beq])]; rfl
  have h2 := MapKept.heap_set (o' := .map ((metE met).modify q fun e => { e with key := .string nm, val := .int .i64 v }) c) hb
  have hf2 : Instr.findNow .string (.string nm) ((metE met).modify q fun e => { e with key := .string nm, val := .int .i64 v }).toList 0 = some (some (0 + q, .int .i64 v)) := by
    rw [Array.toList_modify]
    exact find_mod nm (.int .i64 v) _ 0 q _ (met_keys met 0) hf
  refine ⟨{ W with heap := W.heap.setIfInBounds r (.map ((metE met).modify q fun e => { e with key := .string nm, val := .int .i64 v }) c) }, ?_, ?_, below_setObj2 hB hr, h2.2⟩
  · simp [Instr.mapUpdate, run_underlying Try.underlying122, MapKept.run_getObj_map hb, MapKept.run_checkKey hd hk, MapKept.run_findKey hd hf, MapKept.run_setObj_map _ hb, Result.andThen, hold, hs]
  · have h21 : ({ W with heap := W.heap.setIfInBounds r (.map ((metE met).modify q fun e => { e with key := .string nm, val := .int .i64 v }) c) } : World).heap[r]? = some (.map ((metE met).modify q fun e => { e with key := .string nm, val := .int .i64 v }) c) := h2.1
    have hf3 := hf2
    rw [Array.toList_modify] at hf3
    simp [Instr.lookup, run_underlying Try.underlying122, MapKept.run_getObj_map h21, MapKept.run_checkKey hd hk, MapKept.run_findKey hd hf3, Result.andThen]
end Go.Proofs.Ytdemgfbolcmcdaa.X
namespace Go.Proofs.Ytdemgfbolcmcdaa.X
open Go.RowKit Go.Proofs.YtdemgfbolcmcdaaW.PrintWords Go.Proofs.YtdemgfbolcmcdaaW.PrintLast Go.Proofs.YtdemgfbolcmcdaaW.PrintMore
attribute [local go_sem] max2_int min2_int max_two min_two max_three min_three max_four min_four
set_option linter.unusedVariables false
set_option linter.unusedSimpArgs false
def needR (met : List ByteArray) : List S90 → Int
  | [] => 0
  | x :: t => if x.f2 = true then (if x.f0 ∈ met then needR met t else 12) else needR met t
def attrsR (rs : List S90) : List ByteArray → List S35 → Int
  | met, [] => needR met rs
  | met, a :: t => if idxS (nmRule rs) a.f0 0 < 0 then 12 else (if ((rd_T90 rs (idxS (nmRule rs) a.f0 0)).f1 != a.f1) = true then 12 else (if a.f0 ∈ met then 14 else attrsR rs (met ++ [a.f0]) t))
def ops_Check.f (k : Nat) (a0_0 : ByteArray) (l0_1 : List ByteArray) (a0_2 : ByteArray) (l0_3 : List S35) (a1 : Int) : Option Int := if a1 < 9 then some 16 else (if a1 > 13 then some 16 else ((ops_Find.f k a0_0 a1).bind fun t => if t.2.2.1.length > 1000000 then none else (if t.2.2.2 = false then some 10 else (if (l0_1.length : Int) < t.1 then some 11 else (if (l0_1.length : Int) > t.2.1 then some 11 else some (attrsR t.2.2.1 [] l0_3))))))
theorem ops_Check.mono : ∀ a0_0 l0_1 a0_2 l0_3 a1 k, LeO (ops_Check.f k a0_0 l0_1 a0_2 l0_3 a1) (ops_Check.f (k + 1) a0_0 l0_1 a0_2 l0_3 a1) := by
  intro a0_0 l0_1 a0_2 l0_3 a1 k
  unfold ops_Check.f
  exact LeO.ite (LeO.refl _) (LeO.ite (LeO.refl _) (LeO.bind (ops_Find.mono _ _ _) (fun _ => LeO.refl _)))
set_option maxHeartbeats 8000000 in
set_option maxRecDepth 100000 in
theorem ops_Check.calls (k : Nat) (a0_0 : ByteArray) (A0_1 : Option Addr) (c0_1 : Nat) (l0_1 : List ByteArray) (a0_2 : ByteArray) (A0_3 : Option Addr) (c0_3 : Nat) (l0_3 : List S35) (a1 : Int) (r : Int) (w : World) (hr0_1 : Kd.C Kd.string w A0_1 l0_1.length l0_1) (hc0_1 : l0_1.length ≤ c0_1) (hr0_3 : Kd.C k35 w A0_3 l0_3.length l0_3) (hc0_3 : l0_3.length ≤ c0_3) (h : ops_Check.f k a0_0 l0_1 a0_2 l0_3 a1 = some r) :
    Calls Try.prog 30 #[.agg #[.string a0_0, .slice A0_1 l0_1.length c0_1, .string a0_2, .slice A0_3 l0_3.length c0_3], .int .i64 a1] w fun e w' => e = .returned (.int .i64 r) ∧ Below w.heap.size w w' := by
  unfold ops_Check.f at h
  have HH := Aside0.mk h
  have hu := Try.underlying35
  have hu2 := Try.underlying33
  have hu3 := Try.underlying90
  have hu4 := Try.underlying86
  have HR3 := Aside0.mk hr0_3
  have HL3 := Aside0.mk hr0_3.2.1
  clear hr0_3 hc0_3 hr0_1 hc0_1 h
  have HB0 := Aside0.mk (Below.refl w.heap.size w)
  go_enter Try.func30, Try.ntmps30
  by_cases h9 : a1 < 9
  · have b9 : decide (a1 < 9) = true := decide_eq_true h9
    have HX := HH.out
    rw [if_pos h9] at HX
    have HX := Aside0.mk (Option.some.inj HX)
    clear h9
    go_wp2_with (first | (fail))
    go_ret
    exact ⟨by rw [← HX.out]; rfl, below_alloc HB0.out _⟩
  have b9 : decide (a1 < 9) = false := decide_eq_false h9
  have HH1 := HH.out
  rw [if_neg h9] at HH1
  clear HH h9
  by_cases h13 : a1 > 13
  · have b13 : decide (13 < a1) = true := decide_eq_true h13
    rw [if_pos h13] at HH1
    have HX := Aside0.mk (Option.some.inj HH1)
    clear h13 HH1
    go_wp2_with (first | (fail))
    go_ret
    exact ⟨by rw [← HX.out]; rfl, below_alloc HB0.out _⟩
  have b13 : decide (13 < a1) = false := decide_eq_false h13
  rw [if_neg h13] at HH1
  obtain ⟨⟨r1, r2, r3, r4⟩, HF, HH2⟩ := Option.bind_eq_some_iff.mp HH1
  have HF := Aside0.mk HF
  by_cases h6 : r3.length > 1000000
  · rw [if_pos h6] at HH2; cases HH2
  rw [if_neg h6] at HH2
  have HL6 := Aside0.mk h6
  clear h6
  have HH := Aside0.mk HH2
  clear HH1 HH2 h13
  go_wp2_with (first | (fail))
  have HB := Aside0.mk (below_alloc HB0.out (Obj.cells #[Value.string a0_0, Value.slice A0_1 l0_1.length c0_1, Value.string a0_2, Value.slice A0_3 l0_3.length c0_3] 33))
  have BK0 := Aside0.mk (blk_new w (Obj.cells #[Value.string a0_0, Value.slice A0_1 l0_1.length c0_1, Value.string a0_2, Value.slice A0_3 l0_3.length c0_3] 33))
  clear HB0
  generalize w.alloc (Obj.cells #[Value.string a0_0, Value.slice A0_1 l0_1.length c0_1, Value.string a0_2, Value.slice A0_3 l0_3.length c0_3] 33) = w3 at HB BK0 ⊢
  refine (ops_Find.calls k a0_0 a1 r1 r2 r3 r4 _ HF.out).mono ?_
  rintro e w8 ⟨v2, rfl, hR, hb⟩
  obtain ⟨A9, c9, rfl, hl9, hF9⟩ := hR
  have hC9 := Kd.F_now hF9
  have n0_ := Aside0.mk (below_step HB.out hb)
  have n1_ := Aside0.mk (blk_below BK0.out hb)
  have HC9 := Aside0.mk hC9
  have HL9 := Aside0.mk hl9
  clear HB BK0 hb hF9 hC9 hl9 HF
  have HB := n0_; have BK0 := n1_
  clear n0_ n1_
  have f0 : (w8.alloc (Obj.cells #[Value.int IntKind.i64 r1, Value.int IntKind.i64 r2, Value.slice A9 r3.length c9] 86)).cell? ⟨w.heap.size, 1, none⟩ = some (.slice A0_1 l0_1.length c0_1) := blk_cell (blk_alloc BK0.out _) 1
  cases r4
  · have HX := Aside0.mk (Option.some.inj HH.out)
    clear HH
    go_wp2_with (first | (fail))
    go_ret
    exact ⟨by rw [← HX.out]; rfl, below_alloc HB.out _⟩
  have HH1 := HH.out
  rw [if_neg (by decide)] at HH1
  clear HH
  by_cases h11 : (l0_1.length : Int) < r1
  · have b11 : decide ((l0_1.length : Int) < r1) = true := decide_eq_true h11
    rw [if_pos h11] at HH1
    have HX := Aside0.mk (Option.some.inj HH1)
    clear h11 HH1
    go_wp2_with (first | (fail))
    go_ret
    exact ⟨by rw [← HX.out]; rfl, below_alloc HB.out _⟩
  have b11 : decide ((l0_1.length : Int) < r1) = false := decide_eq_false h11
  rw [if_neg h11] at HH1
  clear h11
  by_cases h12 : (l0_1.length : Int) > r2
  · have b12 : decide (r2 < (l0_1.length : Int)) = true := decide_eq_true h12
    rw [if_pos h12] at HH1
    have HX := Aside0.mk (Option.some.inj HH1)
    clear h12 HH1
    go_wp2_with (first | (fail))
    go_ret
    exact ⟨by rw [← HX.out]; rfl, below_alloc HB.out _⟩
  have b12 : decide (r2 < (l0_1.length : Int)) = false := decide_eq_false h12
  rw [if_neg h12] at HH1
  have HE := Aside0.mk (Option.some.inj HH1)
  clear h12 HH1
  have fm : ∀ W : World, (Instr.makeMap 122 none).run Try.prog W = .ok (.map (some W.heap.size)) (W.alloc (.map #[] 0)) := fun W => rfl
  have f1 : ((w8.alloc (Obj.cells #[Value.int IntKind.i64 r1, Value.int IntKind.i64 r2, Value.slice A9 r3.length c9] 86)).alloc (.map #[] 0)).cell? ⟨w.heap.size, 3, none⟩ = some (.slice A0_3 l0_3.length c0_3) := blk_cell (blk_alloc (blk_alloc BK0.out _) _) 3
  go_wp2_with (first | (fail))
  have BKm := Aside0.mk (show ((w8.alloc (Obj.cells #[Value.int IntKind.i64 r1, Value.int IntKind.i64 r2, Value.slice A9 r3.length c9] 86)).alloc (.map #[] 0)).heap[w8.heap.size + 1]? = some (.map (metE []) ([] : List ByteArray).length) from by rw [← alloc_size w8 (Obj.cells #[Value.int IntKind.i64 r1, Value.int IntKind.i64 r2, Value.slice A9 r3.length c9] 86)]; exact blk_new _ _)
  have BKs := Aside0.mk (show ((w8.alloc (Obj.cells #[Value.int IntKind.i64 r1, Value.int IntKind.i64 r2, Value.slice A9 r3.length c9] 86)).alloc (.map #[] 0)).heap[w8.heap.size]? = some (.cells #[Value.int IntKind.i64 r1, Value.int IntKind.i64 r2, Value.slice A9 r3.length c9] 86 (0, 0)) from blk_alloc (blk_new _ _) _)
  have HB8 := Aside0.mk (below_alloc (below_alloc (Below.refl w8.heap.size w8) (Obj.cells #[Value.int IntKind.i64 r1, Value.int IntKind.i64 r2, Value.slice A9 r3.length c9] 86)) (.map #[] 0))
  clear f0 fm BK0
  generalize (w8.alloc (Obj.cells #[Value.int IntKind.i64 r1, Value.int IntKind.i64 r2, Value.slice A9 r3.length c9] 86)).alloc (.map #[] 0) = w10 at BKm BKs HB8 f1 ⊢
  go_loopg [48] l0_3.length (fun kq v48 w' => ∃ (i : Nat) (met : List ByteArray), v48 = .int .i64 i ∧ Aside0 (i + kq = l0_3.length) ∧ i ≤ l0_3.length ∧ Aside0 (attrsR r3 [] l0_3 = attrsR r3 met (l0_3.drop i)) ∧ Aside0 (w'.heap[w8.heap.size + 1]? = some (.map (metE met) met.length)) ∧ Aside0 (w'.heap[w8.heap.size]? = some (.cells #[Value.int IntKind.i64 r1, Value.int IntKind.i64 r2, Value.slice A9 r3.length c9] 86 (0, 0))) ∧ Aside0 (Below w8.heap.size w8 w'))
  case atStart => exact ⟨0, [], rfl, ⟨by omega⟩, Nat.zero_le _, ⟨rfl⟩, BKm, BKs, HB8⟩
  case round =>
  clear BKm BKs HB8 f1
  obtain ⟨i, met, rfl, HK, hi, HN, HM, HS, HBr⟩ := hrel
  by_cases hlt : i < l0_3.length
  · have hlt' : decide ((i : Int) < (l0_3.length : Int)) = true := by simpa using hlt
    obtain ⟨kk, rfl⟩ : ∃ m, gk = m + 1 := ⟨gk - 1, by have := HK.out; omega⟩
    have p101 : 0 ≤ (i : Int) := Int.natCast_nonneg i
    have q101 : (i : Int) < (l0_3.length : Int) := by omega
    obtain ⟨ad101, A4, c4, e101, hx101_0, hx101_1, hx101_2, hx101_3, hl4, hi4⟩ := at_T35 (Kd.C_below HR3.out (below_step HB.out HBr.out)) (i : Int) p101 q101
    cases e101
    rw [Int.toNat_natCast] at hx101_0 hx101_1 hx101_2 hx101_3
    have hr : rd_T35 l0_3 (i : Int) = l0_3[i] := by simp [rd_T35, hlt]
    obtain ⟨x, hx⟩ : ∃ x, x = l0_3[i] := ⟨_, rfl⟩
    have hn : l0_3.drop i = x :: l0_3.drop (i + 1) := by rw [List.drop_eq_getElem_cons hlt, hx]
    rw [hr, ← hx] at hx101_0 hx101_1 hx101_2 hx101_3
    replace HN := Aside0.mk (HN.out.trans (by rw [hn]))
    clear hn hr hx hl4 hi4
    have Hw : Aside0 (wrap64 ((i : Int) + 1) = (i : Int) + 1) := ⟨by have := HL3.out; exact wrap64_id (by omega) (by omega)⟩
    replace p101 := eq_true p101
    replace q101 := eq_true q101
    obtain ⟨x0, x1, x2, x3⟩ := x
    dsimp only at hx101_0 hx101_1 hx101_2 hx101_3
    have BA := Aside0.mk (blk_new wr (Obj.cells #[Value.string x0, Value.bool x1, Value.int IntKind.i64 x2, Value.slice A4 x3.length c4] 35))
    have n0_ := Aside0.mk (blk_alloc HM.out (Obj.cells #[Value.string x0, Value.bool x1, Value.int IntKind.i64 x2, Value.slice A4 x3.length c4] 35))
    have n1_ := Aside0.mk (blk_alloc HS.out (Obj.cells #[Value.string x0, Value.bool x1, Value.int IntKind.i64 x2, Value.slice A4 x3.length c4] 35))
    have n2_ := Aside0.mk (below_alloc HBr.out (Obj.cells #[Value.string x0, Value.bool x1, Value.int IntKind.i64 x2, Value.slice A4 x3.length c4] 35))
    have n3_ := Aside0.mk (show w8.heap.size + 1 < wr.heap.size from blk_lt HM.out)
    clear HM HS HBr
    have HM := n0_; have HS := n1_; have HBr := n2_
    have f52 : (wr.alloc (Obj.cells #[Value.string x0, Value.bool x1, Value.int IntKind.i64 x2, Value.slice A4 x3.length c4] 35)).cell? ⟨w8.heap.size, 2, none⟩ = some (.slice A9 r3.length c9) := blk_cell HS.out 2
    clear n0_ n1_ n2_
    go_wp2_with (first | (fail))
    refine (idxRule.calls A9 c9 r3 wr.heap.size x0 x1 x2 A4 x3.length c4 _ (Kd.C_below HC9.out HBr.out) HL9.out BA.out).mono ?_
    rintro e w11 ⟨rfl, hb⟩
    have n0_ := Aside0.mk (blk_below HM.out hb)
    have n1_ := Aside0.mk (blk_below HS.out hb)
    have n2_ := Aside0.mk (blk_below BA.out hb)
    have n4_ := Aside0.mk (below_step HBr.out hb)
    clear HM HS BA HBr hb f52 hx101_0 hx101_1 hx101_2 hx101_3
    have HM := n0_; have HS := n1_; have BA := n2_; have HBr := n4_
    clear n0_ n1_ n2_ n4_
    rcases idxS_lt (nmRule r3) x0 0 with hx | ⟨j, hj, hx⟩
    · have HX := Aside0.mk (show attrsR r3 [] l0_3 = 12 from by rw [HN.out, attrsR, if_pos (by rw [hx]; decide)])
      rw [hx]
      clear hx
      go_wp2_with (first | (fail))
      go_quiet (fail)
      go_wp2_with (first | (fail))
      go_ret
      exact ⟨by rw [← HE.out, HX.out]; rfl, below_step HB.out (pw_below_drewN HBr.out nq)⟩
    · have hx0 : idxS (nmRule r3) x0 0 = (j : Int) := by rw [hx]; simp
      have hjl : j < r3.length := by unfold nmRule at hj; rw [List.length_map] at hj; exact hj
      have hneg : decide ((j : Int) < 0) = false := decide_eq_false (by omega)
      have p62 : 0 ≤ (j : Int) := Int.natCast_nonneg j
      have q62 : (j : Int) < (r3.length : Int) := by omega
      obtain ⟨ad62, e62, hx62_0, hx62_1, hx62_2⟩ := at_T90 (Kd.C_below HC9.out HBr.out) (j : Int) p62 q62
      rw [Int.toNat_natCast] at hx62_0 hx62_1 hx62_2
      cases e62
      have HX := Aside0.mk (show attrsR r3 [] l0_3 = (if ((rd_T90 r3 (j : Int)).f1 != x1) = true then 12 else (if x0 ∈ met then 14 else attrsR r3 (met ++ [x0]) (l0_3.drop (i + 1)))) from by rw [HN.out, attrsR, hx0, if_neg (by omega)])
      generalize (rd_T90 r3 (j : Int)).f0 = z0 at hx62_0
      generalize (rd_T90 r3 (j : Int)).f1 = z1 at hx62_1 HX
      generalize (rd_T90 r3 (j : Int)).f2 = z2 at hx62_2
      rw [hx0]
      clear hx hx0 hj hjl HN
      replace p62 := eq_true p62
      replace q62 := eq_true q62
      have f52 : w11.cell? ⟨w8.heap.size, 2, none⟩ = some (.slice (some ad62) r3.length c9) := blk_cell HS.out 2
      have f65 : w11.cell? ⟨wr.heap.size, 1, none⟩ = some (.bool x1) := blk_cell BA.out 1
      have f70 : w11.cell? ⟨wr.heap.size, 0, none⟩ = some (.string x0) := blk_cell BA.out 0
      by_cases hne : (z1 != x1) = true
      · have HX2 := Aside0.mk (HX.out.trans (if_pos hne))
        have hq : (z1 == x1) = false := by revert hne; cases z1 <;> cases x1 <;> decide
        clear hne
        go_wp2_with (first | (fail))
        go_quiet (fail)
        go_wp2_with (first | (fail))
        go_ret
        exact ⟨by rw [← HE.out, HX2.out]; rfl, below_step HB.out (pw_below_drewN HBr.out nq)⟩
      · have HX2 := Aside0.mk (HX.out.trans (if_neg hne))
        have hq : (z1 == x1) = true := by revert hne; cases z1 <;> cases x1 <;> decide
        clear hne
        clear HX
        go_wp2_with (first | (fail))
        go_quiet (fail)
        have n0_ := Aside0.mk (blk_drewN HM.out nq)
        have n1_ := Aside0.mk (blk_drewN HS.out nq)
        have n2_ := Aside0.mk (blk_drewN BA.out nq)
        have n4_ := Aside0.mk (pw_below_drewN HBr.out nq)
        clear HM HS BA HBr f52 f65 f70 hx62_0 hx62_1 hx62_2
        have HM := n0_; have HS := n1_; have BA := n2_; have HBr := n4_
        clear n0_ n1_ n2_ n4_
        generalize w11.drewN nq = w12 at HM HS BA HBr ⊢
        have f70 : w12.cell? ⟨wr.heap.size, 0, none⟩ = some (.string x0) := blk_cell BA.out 0
        by_cases hm : x0 ∈ met
        · have HX := Aside0.mk (HX2.out.trans (if_pos hm))
          have hlk := lookup_met met x0 HM.out
          rw [if_pos hm] at hlk
          obtain ⟨W2, hu2', hl2, hb2, hg2⟩ := update_old met x0 2 hm HM.out (show w8.heap.size ≤ w8.heap.size + 1 by omega) HBr.out
          have f75 : W2.cell? ⟨wr.heap.size, 0, none⟩ = some (.string x0) := blk_cell ((hg2 wr.heap.size (by have := n3_.out; omega)).trans BA.out) 0
          have HB2 := Aside0.mk hb2
          clear hm hb2 hg2 HX2
          go_wp2_with (first | (fail))
          go_ret
          exact ⟨by rw [← HE.out, HX.out]; rfl, below_step HB.out HB2.out⟩
        · have HX := Aside0.mk (HX2.out.trans (if_neg hm))
          have hlk := lookup_met met x0 HM.out
          rw [if_neg hm] at hlk
          obtain ⟨W2, hu2', hm2, hb2, hg2⟩ := update_new met x0 hm HM.out (show w8.heap.size ≤ w8.heap.size + 1 by omega) HBr.out
          have hl2 := lookup_met (met ++ [x0]) x0 hm2
          rw [if_pos (by simp)] at hl2
          have f75 : W2.cell? ⟨wr.heap.size, 0, none⟩ = some (.string x0) := blk_cell ((hg2 wr.heap.size (by have := n3_.out; omega)).trans BA.out) 0
          have HS2 := Aside0.mk ((hg2 w8.heap.size (by omega)).trans HS.out)
          have HB2 := Aside0.mk hb2
          have HM2 := Aside0.mk hm2
          clear hm hb2 hg2 HX2 hm2
          go_wp2_with (first | (fail))
          go_roundg kk
          case measure => have := HK.out; omega
          case rel => exact ⟨i + 1, met ++ [x0], by rw [Hw.out]; rfl, ⟨by have := HK.out; omega⟩, by omega, HX, HM2, HS2, HB2⟩
  · have hlt' : decide ((i : Int) < (l0_3.length : Int)) = false := by simpa using hlt
    have HX := Aside0.mk (show attrsR r3 [] l0_3 = needR met r3 from by rw [HN.out, List.drop_of_length_le (by omega)]; rfl)
    have f80 : wr.cell? ⟨w8.heap.size, 2, none⟩ = some (.slice A9 r3.length c9) := blk_cell HS.out 2
    clear HN hi
    go_wp2_with (first | (fail))
    clear f80
    go_loopg [83] r3.length (fun kq v83 w' => ∃ i : Nat, v83 = .int .i64 i ∧ Aside0 (i + kq = r3.length) ∧ i ≤ r3.length ∧ Aside0 (needR met r3 = needR met (r3.drop i)) ∧ Aside0 (w'.heap[w8.heap.size + 1]? = some (.map (metE met) met.length)) ∧ Aside0 (Below w8.heap.size w8 w'))
    case atStart => exact ⟨0, rfl, ⟨by omega⟩, Nat.zero_le _, ⟨rfl⟩, HM, HBr⟩
    case round =>
    clear HM HBr HS hlt hlt' HK
    obtain ⟨i, rfl, HK, hi, HN, HM, HBr⟩ := hrel
    by_cases hlt : i < r3.length
    · have hlt' : decide ((i : Int) < (r3.length : Int)) = true := by simpa using hlt
      obtain ⟨kk, rfl⟩ : ∃ m, gk = m + 1 := ⟨gk - 1, by have := HK.out; omega⟩
      have p101 : 0 ≤ (i : Int) := Int.natCast_nonneg i
      have q101 : (i : Int) < (r3.length : Int) := by omega
      obtain ⟨ad101, e101, hx101_0, hx101_1, hx101_2⟩ := at_T90 (Kd.C_below HC9.out HBr.out) (i : Int) p101 q101
      cases e101
      rw [Int.toNat_natCast] at hx101_0 hx101_1 hx101_2
      have hr : rd_T90 r3 (i : Int) = r3[i] := by simp [rd_T90, hlt]
      obtain ⟨x, hx⟩ : ∃ x, x = r3[i] := ⟨_, rfl⟩
      have hn : r3.drop i = x :: r3.drop (i + 1) := by rw [List.drop_eq_getElem_cons hlt, hx]
      rw [hr, ← hx] at hx101_0 hx101_1 hx101_2
      replace HN := Aside0.mk (HN.out.trans (by rw [hn]))
      clear hn hr hx
      have Hw : Aside0 (wrap64 ((i : Int) + 1) = (i : Int) + 1) := ⟨by have := HL6.out; exact wrap64_id (by omega) (by omega)⟩
      replace p101 := eq_true p101
      replace q101 := eq_true q101
      obtain ⟨y0, y1, y2⟩ := x
      dsimp only at hx101_0 hx101_1 hx101_2
      have n0_ := Aside0.mk (blk_alloc HM.out (Obj.cells #[Value.string y0, Value.bool y1, Value.bool y2] 90))
      have n1_ := Aside0.mk (below_alloc HBr.out (Obj.cells #[Value.string y0, Value.bool y1, Value.bool y2] 90))
      have hlk := lookup_met met y0 n0_.out
      clear HM HBr
      cases y2
      · have HX2 := Aside0.mk (show needR met r3 = needR met (r3.drop (i + 1)) from HN.out.trans (by rw [needR, if_neg Bool.false_ne_true]))
        clear hlk
        go_wp2_with (first | (fail))
        go_roundg kk
        case measure => have := HK.out; omega
        case rel => exact ⟨i + 1, by rw [Hw.out]; rfl, ⟨by have := HK.out; omega⟩, by omega, HX2, n0_, n1_⟩
      · by_cases hm : y0 ∈ met
        · have HX2 := Aside0.mk (show needR met r3 = needR met (r3.drop (i + 1)) from HN.out.trans (by rw [needR, if_pos rfl, if_pos hm]))
          rw [if_pos hm] at hlk
          clear hm
          go_wp2_with (first | (fail))
          go_roundg kk
          case measure => have := HK.out; omega
          case rel => exact ⟨i + 1, by rw [Hw.out]; rfl, ⟨by have := HK.out; omega⟩, by omega, HX2, n0_, n1_⟩
        · have HX2 := Aside0.mk (show needR met r3 = 12 from HN.out.trans (by rw [needR, if_pos rfl, if_neg hm]))
          rw [if_neg hm] at hlk
          clear hm
          go_wp2_with (first | (fail))
          go_ret
          exact ⟨by rw [← HE.out, HX.out, HX2.out]; rfl, below_step HB.out n1_.out⟩
    · have hlt' : decide ((i : Int) < (r3.length : Int)) = false := by simpa using hlt
      have HX2 := Aside0.mk (show needR met r3 = 0 by rw [HN.out, List.drop_of_length_le (by omega)]; rfl)
      go_wp2_with (first | (fail))
      go_ret
      exact ⟨by rw [← HE.out, HX.out, HX2.out]; rfl, below_step HB.out HBr.out⟩
end Go.Proofs.Ytdemgfbolcmcdaa.X
namespace Go.Proofs.Ytdemgfbolcmcdaa.X
open Go.RowKit Go.Proofs.YtdemgfbolcmcdaaW.PrintWords Go.Proofs.YtdemgfbolcmcdaaW.PrintLast Go.Proofs.YtdemgfbolcmcdaaW.PrintMore
attribute [local go_sem] max2_int min2_int max_two min_two max_three min_three max_four min_four
set_option linter.unusedVariables false
set_option linter.unusedSimpArgs false
def agatelaw13_Awake.f (k : Nat)  : Option (Bool) := (some (([(⟨#[120]⟩ : ByteArray)] : List ByteArray) : List ByteArray)).bind fun y101 => ((agatelaw10_Awake.f).bind fun t109 => (if t109 = true then ((ops_Check.f k (⟨#[85, 110, 115, 113, 117, 101, 101, 122, 101]⟩ : ByteArray) y101 (⟨#[]⟩ : ByteArray) ([] : List (S35)) 12).bind fun t110 => (if t110 = 12 then ((ops_Check.f k (⟨#[85, 110, 115, 113, 117, 101, 101, 122, 101]⟩ : ByteArray) y101 (⟨#[]⟩ : ByteArray) ([] : List (S35)) 13).bind fun t111 => (if t111 = 11 then ((ops_Check.f k (⟨#[85, 110, 115, 113, 117, 101, 101, 122, 101]⟩ : ByteArray) (([(⟨#[120]⟩ : ByteArray), (⟨#[97]⟩ : ByteArray)] : List ByteArray)) (⟨#[]⟩ : ByteArray) ([] : List (S35)) 13).bind fun t112 => (some (t112 == 0))) else (some false))) else (some false))) else (some false)))
theorem agatelaw13_Awake.mono : ∀ k, LeO (agatelaw13_Awake.f k ) (agatelaw13_Awake.f (k + 1) ) := by
 intro  k
 unfold agatelaw13_Awake.f
 repeat' first
   | (with_reducible exact ops_Check.mono _ _ _ _ _ _)
   | (with_reducible exact LeO.refl _)
   | (with_reducible exact LeO.none _)
   | (with_reducible refine LeO.ite ?_ ?_)
   | (with_reducible refine LeO.bind ?_ (fun _ => ?_))
   | exact ops_Check.mono _ _ _ _ _ _
   | exact LeO.none _
   | refine LeO.ite ?_ ?_
   | refine LeO.bind ?_ (fun _ => ?_)
attribute [local irreducible] Calls
set_option maxHeartbeats 8000000 in
set_option maxRecDepth 100000 in
theorem agatelaw13_Awake.calls (k : Nat)  (r : Bool) (w : World) (h : agatelaw13_Awake.f k  = some r) :
  Calls Try.prog 26 #[] w fun e w' => e = .returned (.bool r) ∧ Below w.heap.size w w' := by
 have hu33 := Try.underlying33
 have HB := Aside0.mk (Below.refl w.heap.size w)
 have H : ((some (([(⟨#[120]⟩ : ByteArray)] : List ByteArray) : List ByteArray)).bind fun y101 => ((agatelaw10_Awake.f).bind fun t109 => (if t109 = true then ((ops_Check.f k (⟨#[85, 110, 115, 113, 117, 101, 101, 122, 101]⟩ : ByteArray) y101 (⟨#[]⟩ : ByteArray) ([] : List (S35)) 12).bind fun t110 => (if t110 = 12 then ((ops_Check.f k (⟨#[85, 110, 115, 113, 117, 101, 101, 122, 101]⟩ : ByteArray) y101 (⟨#[]⟩ : ByteArray) ([] : List (S35)) 13).bind fun t111 => (if t111 = 11 then ((ops_Check.f k (⟨#[85, 110, 115, 113, 117, 101, 101, 122, 101]⟩ : ByteArray) (([(⟨#[120]⟩ : ByteArray), (⟨#[97]⟩ : ByteArray)] : List ByteArray)) (⟨#[]⟩ : ByteArray) ([] : List (S35)) 13).bind fun t112 => (some (t112 == 0))) else (some false))) else (some false))) else (some false)))) = some r := h
 clear h
 obtain ⟨y101, hy101⟩ : ∃ y_ : List ByteArray, y_ = (([(⟨#[120]⟩ : ByteArray)] : List ByteArray)) := ⟨_, rfl⟩
 replace H : ((agatelaw10_Awake.f).bind fun t109 => (if t109 = true then ((ops_Check.f k (⟨#[85, 110, 115, 113, 117, 101, 101, 122, 101]⟩ : ByteArray) y101 (⟨#[]⟩ : ByteArray) ([] : List (S35)) 12).bind fun t110 => (if t110 = 12 then ((ops_Check.f k (⟨#[85, 110, 115, 113, 117, 101, 101, 122, 101]⟩ : ByteArray) y101 (⟨#[]⟩ : ByteArray) ([] : List (S35)) 13).bind fun t111 => (if t111 = 11 then ((ops_Check.f k (⟨#[85, 110, 115, 113, 117, 101, 101, 122, 101]⟩ : ByteArray) (([(⟨#[120]⟩ : ByteArray), (⟨#[97]⟩ : ByteArray)] : List ByteArray)) (⟨#[]⟩ : ByteArray) ([] : List (S35)) 13).bind fun t112 => (some (t112 == 0))) else (some false))) else (some false))) else (some false))) = some r := by first | (rw [hy101]; with_reducible exact H) | (have H2_ := (Option.bind_some _ _).symm.trans H; rw [hy101]; with_reducible exact H2_) | (have H2_ := (Option.bind_some _ _).symm.trans H; with_reducible exact H2_) | with_reducible exact H | (rw [hy101]; exact H) | exact H
 have Ny101 := Aside0.mk hy101
 clear hy101
 obtain ⟨y105, hy105⟩ : ∃ y_ : List ByteArray, y_ = (([(⟨#[120]⟩ : ByteArray), (⟨#[97]⟩ : ByteArray)] : List ByteArray)) := ⟨_, rfl⟩
 replace H : ((agatelaw10_Awake.f).bind fun t109 => (if t109 = true then ((ops_Check.f k (⟨#[85, 110, 115, 113, 117, 101, 101, 122, 101]⟩ : ByteArray) y101 (⟨#[]⟩ : ByteArray) ([] : List (S35)) 12).bind fun t110 => (if t110 = 12 then ((ops_Check.f k (⟨#[85, 110, 115, 113, 117, 101, 101, 122, 101]⟩ : ByteArray) y101 (⟨#[]⟩ : ByteArray) ([] : List (S35)) 13).bind fun t111 => (if t111 = 11 then ((ops_Check.f k (⟨#[85, 110, 115, 113, 117, 101, 101, 122, 101]⟩ : ByteArray) y105 (⟨#[]⟩ : ByteArray) ([] : List (S35)) 13).bind fun t112 => (some (t112 == 0))) else (some false))) else (some false))) else (some false))) = some r := by first | (rw [hy105]; with_reducible exact H) | (have H2_ := (Option.bind_some _ _).symm.trans H; rw [hy105]; with_reducible exact H2_) | (have H2_ := (Option.bind_some _ _).symm.trans H; with_reducible exact H2_) | with_reducible exact H | (rw [hy105]; exact H) | exact H
 have Ny105 := Aside0.mk hy105
 clear hy105
 replace H := Option.bind_eq_some_iff.mp H
 obtain ⟨t109, A10, H⟩ := H
 replace H : (if t109 = true then ((ops_Check.f k (⟨#[85, 110, 115, 113, 117, 101, 101, 122, 101]⟩ : ByteArray) y101 (⟨#[]⟩ : ByteArray) ([] : List (S35)) 12).bind fun t110 => (if t110 = 12 then ((ops_Check.f k (⟨#[85, 110, 115, 113, 117, 101, 101, 122, 101]⟩ : ByteArray) y101 (⟨#[]⟩ : ByteArray) ([] : List (S35)) 13).bind fun t111 => (if t111 = 11 then ((ops_Check.f k (⟨#[85, 110, 115, 113, 117, 101, 101, 122, 101]⟩ : ByteArray) y105 (⟨#[]⟩ : ByteArray) ([] : List (S35)) 13).bind fun t112 => (some (t112 == 0))) else (some false))) else (some false))) else (some false)) = some r := H
 have A1 := Aside0.mk A10
 clear A10
 by_cases c2 : t109 = true
 ·
  subst c2
  have H1 : ((ops_Check.f k (⟨#[85, 110, 115, 113, 117, 101, 101, 122, 101]⟩ : ByteArray) y101 (⟨#[]⟩ : ByteArray) ([] : List (S35)) 12).bind fun t110 => (if t110 = 12 then ((ops_Check.f k (⟨#[85, 110, 115, 113, 117, 101, 101, 122, 101]⟩ : ByteArray) y101 (⟨#[]⟩ : ByteArray) ([] : List (S35)) 13).bind fun t111 => (if t111 = 11 then ((ops_Check.f k (⟨#[85, 110, 115, 113, 117, 101, 101, 122, 101]⟩ : ByteArray) y105 (⟨#[]⟩ : ByteArray) ([] : List (S35)) 13).bind fun t112 => (some (t112 == 0))) else (some false))) else (some false))) = some r := by rw [if_pos rfl] at H; exact H
  clear H
  have H := H1
  clear H1
  replace H := Option.bind_eq_some_iff.mp H
  obtain ⟨t110, A30, H⟩ := H
  replace H : (if t110 = 12 then ((ops_Check.f k (⟨#[85, 110, 115, 113, 117, 101, 101, 122, 101]⟩ : ByteArray) y101 (⟨#[]⟩ : ByteArray) ([] : List (S35)) 13).bind fun t111 => (if t111 = 11 then ((ops_Check.f k (⟨#[85, 110, 115, 113, 117, 101, 101, 122, 101]⟩ : ByteArray) y105 (⟨#[]⟩ : ByteArray) ([] : List (S35)) 13).bind fun t112 => (some (t112 == 0))) else (some false))) else (some false)) = some r := H
  have A3 := Aside0.mk A30
  clear A30
  by_cases c4 : t110 = 12
  ·
   rw [if_pos c4] at H
   have c4b0 : (t110 == 12) = true := beq_iff_eq.mpr c4
   have c4b1 : (t110 != 12) = false := bne_eq_false_iff_eq.mpr c4
   clear c4
   replace H := Option.bind_eq_some_iff.mp H
   obtain ⟨t111, A50, H⟩ := H
   replace H : (if t111 = 11 then ((ops_Check.f k (⟨#[85, 110, 115, 113, 117, 101, 101, 122, 101]⟩ : ByteArray) y105 (⟨#[]⟩ : ByteArray) ([] : List (S35)) 13).bind fun t112 => (some (t112 == 0))) else (some false)) = some r := H
   have A5 := Aside0.mk A50
   clear A50
   by_cases c6 : t111 = 11
   ·
    rw [if_pos c6] at H
    have c6b0 : (t111 == 11) = true := beq_iff_eq.mpr c6
    have c6b1 : (t111 != 11) = false := bne_eq_false_iff_eq.mpr c6
    clear c6
    replace H := Option.bind_eq_some_iff.mp H
    obtain ⟨t112, A70, H⟩ := H
    replace H : (some (t112 == 0)) = some r := H
    have A7 := Aside0.mk A70
    clear A70
    obtain rfl := Option.some.inj H
    go_enter Try.func26, Try.ntmps26
    go_wp2_with (first | ((with_reducible refine gate_dst (N := 3) rfl ?_); refine Kd.R_lit Kd.string _ 9 ?hg (N := 3) ?hd (xs := ([(⟨#[120]⟩ : ByteArray)] : List ByteArray)) (inner := [.string (⟨#[120]⟩ : ByteArray)]) (ok := fun _ => True) (okp := fun _ => True) ?hr ?hp (fun _ hk => hk) trivial (Below.refl _ _) (Nat.le_refl _) (by simp) ?_; (case hd => rfl); (case hg => rfl); (case hr => first | (go_simp; done) | (go_simp; rfl)); (case hp => exact (Reps.one (show Kd.M Kd.string _ _ _ (⟨#[120]⟩ : ByteArray) [.string (⟨#[120]⟩ : ByteArray)] from rfl) (Reps.none _ _))); intro v102 w8 ho9 hb hg_ hnew_; clear hg_ hnew_; (first | rw [← Ny101.out] at ho9 | (simp only [Int.reduceToNat] at ho9; rw [← Ny101.out] at ho9)); have n0_ := Aside0.mk (Kd.R_lower ho9 (below_size (hbA HB))); have n1_ := Aside0.mk (below_step (hbA HB) hb); clear HB; have HO103 := n0_; have HB := n1_; clear n0_ n1_; clear hb ho9; obtain ⟨Ao10, co10, eo10⟩ := Kd.R_slice HO103.out; subst eo10) | ((with_reducible refine gate_dst (N := 1) rfl ?_); refine box_event ?hg (N := 1) ?hd (cs := #[.string (⟨#[]⟩ : ByteArray), .slice none 0 0, .string (⟨#[]⟩ : ByteArray), .slice none 0 0]) (t := 33) ?hr ?_; (case hd => rfl); (case hg => rfl); (case hr => first | (go_simp; done) | (go_simp; rfl)); intro gb104 hg w11 hbox hb; have n0_ := Aside0.mk (Kd.R_below (krA HO103) hb); have n1_ := Aside0.mk (below_step (hbA HB) hb); have n2_ := Aside0.mk (hbox); have n3_ := Aside0.mk ((by rw [hg]; exact (below_size (hbA HB)) : w.heap.size ≤ gb104)); have n4_ := Aside0.mk ((by rw [hg]; exact (below_size (hbA HB)) : w.heap.size ≤ gb104)); clear HO103; clear HB; have HO103 := n0_; have HB := n1_; have BK104 := n2_; have GW104 := n3_; have GE104 := n4_; clear n0_ n1_ n2_ n3_ n4_; clear hb hbox hg; have hcz12_0 : w11.cell? ⟨gb104, 0, none⟩ = some (.string (⟨#[]⟩ : ByteArray)) := bcA BK104 0; have hcz12_1 : w11.cell? ⟨gb104, 1, none⟩ = some (.slice none 0 0) := bcA BK104 1; have hcz12_2 : w11.cell? ⟨gb104, 2, none⟩ = some (.string (⟨#[]⟩ : ByteArray)) := bcA BK104 2; have hcz12_3 : w11.cell? ⟨gb104, 3, none⟩ = some (.slice none 0 0) := bcA BK104 3; have hfz12_0 := blk_frozen BK104.out 0; have hfz12_1 := blk_frozen BK104.out 1; have hfz12_2 := blk_frozen BK104.out 2; have hfz12_3 := blk_frozen BK104.out 3) | ((with_reducible refine gate_dst (N := 5) rfl ?_); refine Kd.R_lit Kd.string _ 9 ?hg (N := 5) ?hd (xs := ([(⟨#[120]⟩ : ByteArray), (⟨#[97]⟩ : ByteArray)] : List ByteArray)) (inner := [.string (⟨#[120]⟩ : ByteArray), .string (⟨#[97]⟩ : ByteArray)]) (ok := fun _ => True) (okp := fun _ => True) ?hr ?hp (fun _ hk => hk) trivial (Below.refl _ _) (Nat.le_refl _) (by simp) ?_; (case hd => rfl); (case hg => rfl); (case hr => first | (go_simp; done) | (go_simp; rfl)); (case hp => exact (Reps.one (show Kd.M Kd.string _ _ _ (⟨#[120]⟩ : ByteArray) [.string (⟨#[120]⟩ : ByteArray)] from rfl) (Reps.one (show Kd.M Kd.string _ _ _ (⟨#[97]⟩ : ByteArray) [.string (⟨#[97]⟩ : ByteArray)] from rfl) (Reps.none _ _)))); intro v106 w13 ho14 hb hg_ hnew_; clear hg_ hnew_; (first | rw [← Ny105.out] at ho14 | (simp only [Int.reduceToNat] at ho14; rw [← Ny105.out] at ho14)); have n0_ := Aside0.mk (Kd.R_elder' (by (with_reducible repeat (first | apply Kd.R_alloc | apply Kd.R_drewN | apply Kd.R_drew)); exact (Kd.R_mono (Kd.R_far (p := ⟨gb104, 3, none⟩) (Kd.R_far (p := ⟨gb104, 2, none⟩) (Kd.R_far (p := ⟨gb104, 1, none⟩) (Kd.R_far (p := ⟨gb104, 0, none⟩) (Kd.R_types HO103.out BK104.out (by decide)) (fun _ hk => hk.2) (.string (⟨#[85, 110, 115, 113, 117, 101, 101, 122, 101]⟩ : ByteArray))) (fun _ hk => hk.2) (.slice Ao10 y101.length co10)) (fun _ hk => hk.2) (.string (⟨#[]⟩ : ByteArray))) (fun _ hk => hk.2) (.slice none 0 0)) (fun _ h_ => h_.1))) (Kd.R_base ho14) hb); have n1_ := Aside0.mk (Kd.R_lower (Kd.R_new' ho14 (Kd.R_lt (by (with_reducible repeat (first | apply Kd.R_alloc | apply Kd.R_drewN | apply Kd.R_drew)); exact (Kd.R_mono (Kd.R_far (p := ⟨gb104, 3, none⟩) (Kd.R_far (p := ⟨gb104, 2, none⟩) (Kd.R_far (p := ⟨gb104, 1, none⟩) (Kd.R_far (p := ⟨gb104, 0, none⟩) (Kd.R_types HO103.out BK104.out (by decide)) (fun _ hk => hk.2) (.string (⟨#[85, 110, 115, 113, 117, 101, 101, 122, 101]⟩ : ByteArray))) (fun _ hk => hk.2) (.slice Ao10 y101.length co10)) (fun _ hk => hk.2) (.string (⟨#[]⟩ : ByteArray))) (fun _ hk => hk.2) (.slice none 0 0)) (fun _ h_ => h_.1))))) (below_size (hbA HB))); have n2_ := Aside0.mk (blk_below (g := gb104) (o := .cells #[.string (⟨#[85, 110, 115, 113, 117, 101, 101, 122, 101]⟩ : ByteArray), .slice Ao10 y101.length co10, .string (⟨#[]⟩ : ByteArray), .slice none 0 0] 33 (0, 0)) (by (with_reducible repeat (first | refine blk_drewN ?_ _ | refine blk_drew ?_ | refine blk_alloc ?_ _)); refine blk_put (cs := #[.string (⟨#[85, 110, 115, 113, 117, 101, 101, 122, 101]⟩ : ByteArray), .slice Ao10 y101.length co10, .string (⟨#[]⟩ : ByteArray), .slice none 0 0]) ?_ 3 _ rfl; (with_reducible repeat (first | refine blk_drewN ?_ _ | refine blk_drew ?_ | refine blk_alloc ?_ _)); refine blk_put (cs := #[.string (⟨#[85, 110, 115, 113, 117, 101, 101, 122, 101]⟩ : ByteArray), .slice Ao10 y101.length co10, .string (⟨#[]⟩ : ByteArray), .slice none 0 0]) ?_ 2 _ rfl; (with_reducible repeat (first | refine blk_drewN ?_ _ | refine blk_drew ?_ | refine blk_alloc ?_ _)); refine blk_put (cs := #[.string (⟨#[85, 110, 115, 113, 117, 101, 101, 122, 101]⟩ : ByteArray), .slice none 0 0, .string (⟨#[]⟩ : ByteArray), .slice none 0 0]) ?_ 1 _ rfl; (with_reducible repeat (first | refine blk_drewN ?_ _ | refine blk_drew ?_ | refine blk_alloc ?_ _)); refine blk_put (cs := #[.string (⟨#[]⟩ : ByteArray), .slice none 0 0, .string (⟨#[]⟩ : ByteArray), .slice none 0 0]) ?_ 0 _ rfl; (with_reducible repeat (first | refine blk_drewN ?_ _ | refine blk_drew ?_ | refine blk_alloc ?_ _)); exact BK104.out) hb); have n3_ := Aside0.mk (below_step (hbA HB) hb); clear HO103; clear BK104; clear HB; have HO103 := n0_; have HO107 := n1_; have BK104 := n2_; have HB := n3_; clear n0_ n1_ n2_ n3_; clear hb ho14; obtain ⟨Ao15, co15, eo15⟩ := Kd.R_slice HO107.out; subst eo15) | ((with_reducible refine gate_dst (N := 2) rfl ?_); refine box_event ?hg (N := 2) ?hd (cs := #[.string (⟨#[]⟩ : ByteArray), .slice none 0 0, .string (⟨#[]⟩ : ByteArray), .slice none 0 0]) (t := 33) ?hr ?_; (case hd => rfl); (case hg => rfl); (case hr => first | (go_simp; done) | (go_simp; rfl)); intro gb108 hg w16 hbox hb; have n0_ := Aside0.mk (Kd.R_below (krA HO103) hb); have n1_ := Aside0.mk (Kd.R_below (krA HO107) hb); have n2_ := Aside0.mk (blk_below (g := gb104) (o := .cells #[.string (⟨#[85, 110, 115, 113, 117, 101, 101, 122, 101]⟩ : ByteArray), .slice Ao10 y101.length co10, .string (⟨#[]⟩ : ByteArray), .slice none 0 0] 33 (0, 0)) (bkA BK104) hb); have n3_ := Aside0.mk (below_step (hbA HB) hb); have n4_ := Aside0.mk (hbox); have n5_ := Aside0.mk ((by rw [hg]; exact (below_size (hbA HB)) : w.heap.size ≤ gb108)); have n6_ := Aside0.mk ((by rw [hg]; exact (below_size (hbA HB)) : w.heap.size ≤ gb108)); have n7_ := Aside0.mk ((by rw [hg]; exact Nat.ne_of_lt (blk_lt (g := gb104) (o := .cells #[.string (⟨#[85, 110, 115, 113, 117, 101, 101, 122, 101]⟩ : ByteArray), .slice Ao10 y101.length co10, .string (⟨#[]⟩ : ByteArray), .slice none 0 0] 33 (0, 0)) (bkA BK104)) : gb104 ≠ gb108)); have n8_ := Aside0.mk ((by rw [hg]; exact Nat.ne_of_gt (blk_lt (g := gb104) (o := .cells #[.string (⟨#[85, 110, 115, 113, 117, 101, 101, 122, 101]⟩ : ByteArray), .slice Ao10 y101.length co10, .string (⟨#[]⟩ : ByteArray), .slice none 0 0] 33 (0, 0)) (bkA BK104)) : gb108 ≠ gb104)); clear HO103; clear HO107; clear BK104; clear HB; have HO103 := n0_; have HO107 := n1_; have BK104 := n2_; have HB := n3_; have BK108 := n4_; have GW108 := n5_; have GE108 := n6_; have NB104_108 := n7_; have NB108_104 := n8_; clear n0_ n1_ n2_ n3_ n4_ n5_ n6_ n7_ n8_; clear hb hbox hg; have hnb17 := NB108_104.out; have hnc17 := NB104_108.out; have hcz18_0 : w16.cell? ⟨gb108, 0, none⟩ = some (.string (⟨#[]⟩ : ByteArray)) := bcA BK108 0; have hcz18_1 : w16.cell? ⟨gb108, 1, none⟩ = some (.slice none 0 0) := bcA BK108 1; have hcz18_2 : w16.cell? ⟨gb108, 2, none⟩ = some (.string (⟨#[]⟩ : ByteArray)) := bcA BK108 2; have hcz18_3 : w16.cell? ⟨gb108, 3, none⟩ = some (.slice none 0 0) := bcA BK108 3; have hfz18_0 := blk_frozen BK108.out 0; have hfz18_1 := blk_frozen BK108.out 1; have hfz18_2 := blk_frozen BK108.out 2; have hfz18_3 := blk_frozen BK108.out 3) | ((with_reducible refine gate_callee (f := 8) rfl ?_); refine goesL_ (some 7) rfl rfl Try.func8 (by kernel_rfl) rfl #[] rfl (by (try simp only [List.map_toArray, List.map_cons, List.map_nil]); first | done | rfl | (simp only [List.length_drop, List.length_take]; rfl)) ?_; (with_reducible refine (agatelaw10_Awake.calls  true _ A1.out).mono ?_); rintro e w19 ⟨rfl, hb⟩; refine ⟨_, rfl, ?_⟩; have n0_ := Aside0.mk (Kd.R_below (by (with_reducible repeat (first | apply Kd.R_alloc | apply Kd.R_drewN | apply Kd.R_drew)); exact (Kd.R_mono (Kd.R_far (p := ⟨gb108, 3, none⟩) (Kd.R_far (p := ⟨gb108, 2, none⟩) (Kd.R_far (p := ⟨gb108, 1, none⟩) (Kd.R_far (p := ⟨gb108, 0, none⟩) (Kd.R_types HO103.out BK108.out (by decide)) (fun _ hk => hk.2) (.string (⟨#[85, 110, 115, 113, 117, 101, 101, 122, 101]⟩ : ByteArray))) (fun _ hk => hk.2) (.slice Ao15 y105.length co15)) (fun _ hk => hk.2) (.string (⟨#[]⟩ : ByteArray))) (fun _ hk => hk.2) (.slice none 0 0)) (fun _ h_ => h_.1))) hb); have n1_ := Aside0.mk (Kd.R_below (by (with_reducible repeat (first | apply Kd.R_alloc | apply Kd.R_drewN | apply Kd.R_drew)); exact (Kd.R_mono (Kd.R_far (p := ⟨gb108, 3, none⟩) (Kd.R_far (p := ⟨gb108, 2, none⟩) (Kd.R_far (p := ⟨gb108, 1, none⟩) (Kd.R_far (p := ⟨gb108, 0, none⟩) (Kd.R_types HO107.out BK108.out (by decide)) (fun _ hk => hk.2) (.string (⟨#[85, 110, 115, 113, 117, 101, 101, 122, 101]⟩ : ByteArray))) (fun _ hk => hk.2) (.slice Ao15 y105.length co15)) (fun _ hk => hk.2) (.string (⟨#[]⟩ : ByteArray))) (fun _ hk => hk.2) (.slice none 0 0)) (fun _ h_ => h_.1))) hb); have n2_ := Aside0.mk (blk_below (g := gb104) (o := .cells #[.string (⟨#[85, 110, 115, 113, 117, 101, 101, 122, 101]⟩ : ByteArray), .slice Ao10 y101.length co10, .string (⟨#[]⟩ : ByteArray), .slice none 0 0] 33 (0, 0)) (by (with_reducible repeat (first | refine blk_drewN ?_ _ | refine blk_drew ?_ | refine blk_alloc ?_ _)); refine blk_far ?_ NB104_108.out _; (with_reducible repeat (first | refine blk_drewN ?_ _ | refine blk_drew ?_ | refine blk_alloc ?_ _)); refine blk_far ?_ NB104_108.out _; (with_reducible repeat (first | refine blk_drewN ?_ _ | refine blk_drew ?_ | refine blk_alloc ?_ _)); refine blk_far ?_ NB104_108.out _; (with_reducible repeat (first | refine blk_drewN ?_ _ | refine blk_drew ?_ | refine blk_alloc ?_ _)); refine blk_far ?_ NB104_108.out _; (with_reducible repeat (first | refine blk_drewN ?_ _ | refine blk_drew ?_ | refine blk_alloc ?_ _)); exact BK104.out) hb); have n3_ := Aside0.mk (blk_below (g := gb108) (o := .cells #[.string (⟨#[85, 110, 115, 113, 117, 101, 101, 122, 101]⟩ : ByteArray), .slice Ao15 y105.length co15, .string (⟨#[]⟩ : ByteArray), .slice none 0 0] 33 (0, 0)) (by (with_reducible repeat (first | refine blk_drewN ?_ _ | refine blk_drew ?_ | refine blk_alloc ?_ _)); refine blk_put (cs := #[.string (⟨#[85, 110, 115, 113, 117, 101, 101, 122, 101]⟩ : ByteArray), .slice Ao15 y105.length co15, .string (⟨#[]⟩ : ByteArray), .slice none 0 0]) ?_ 3 _ rfl; (with_reducible repeat (first | refine blk_drewN ?_ _ | refine blk_drew ?_ | refine blk_alloc ?_ _)); refine blk_put (cs := #[.string (⟨#[85, 110, 115, 113, 117, 101, 101, 122, 101]⟩ : ByteArray), .slice Ao15 y105.length co15, .string (⟨#[]⟩ : ByteArray), .slice none 0 0]) ?_ 2 _ rfl; (with_reducible repeat (first | refine blk_drewN ?_ _ | refine blk_drew ?_ | refine blk_alloc ?_ _)); refine blk_put (cs := #[.string (⟨#[85, 110, 115, 113, 117, 101, 101, 122, 101]⟩ : ByteArray), .slice none 0 0, .string (⟨#[]⟩ : ByteArray), .slice none 0 0]) ?_ 1 _ rfl; (with_reducible repeat (first | refine blk_drewN ?_ _ | refine blk_drew ?_ | refine blk_alloc ?_ _)); refine blk_put (cs := #[.string (⟨#[]⟩ : ByteArray), .slice none 0 0, .string (⟨#[]⟩ : ByteArray), .slice none 0 0]) ?_ 0 _ rfl; (with_reducible repeat (first | refine blk_drewN ?_ _ | refine blk_drew ?_ | refine blk_alloc ?_ _)); exact BK108.out) hb); have n4_ := Aside0.mk (below_step (hbA HB) hb); clear HO103; clear HO107; clear BK104; clear BK108; clear HB; have HO103 := n0_; have HO107 := n1_; have BK104 := n2_; have BK108 := n3_; have HB := n4_; clear n0_ n1_ n2_ n3_ n4_; (try clear hb); (try clear hb2); (try clear hk); (try clear hi); have hcz20_0 : w19.cell? ⟨gb104, 0, none⟩ = some (.string (⟨#[85, 110, 115, 113, 117, 101, 101, 122, 101]⟩ : ByteArray)) := bcA BK104 0; have hcz20_1 : w19.cell? ⟨gb104, 1, none⟩ = some (.slice Ao10 y101.length co10) := bcA BK104 1; have hcz20_2 : w19.cell? ⟨gb104, 2, none⟩ = some (.string (⟨#[]⟩ : ByteArray)) := bcA BK104 2; have hcz20_3 : w19.cell? ⟨gb104, 3, none⟩ = some (.slice none 0 0) := bcA BK104 3; have hfz20_0 := blk_frozen BK104.out 0; have hfz20_1 := blk_frozen BK104.out 1; have hfz20_2 := blk_frozen BK104.out 2; have hfz20_3 := blk_frozen BK104.out 3) | (go_at_call 30; (refine (ops_Check.calls k (⟨#[85, 110, 115, 113, 117, 101, 101, 122, 101]⟩ : ByteArray) _ _ y101 (⟨#[]⟩ : ByteArray) _ _ ([] : List (S35)) 12 t110 _ ?side1 ?side2 ?side3 ?side4 A3.out).mono ?_); (case side1 => repeat (first | exact (Kd.R_reads' HO103.out).2.2 | (with_reducible refine Kd.C_alloc ?_ _) | (with_reducible refine Kd.C_drewN ?_ _) | (with_reducible refine Kd.C_drew ?_))); (case side2 => exact (Kd.R_reads' HO103.out).2.1); (case side3 => exact Kd.C_nil _ _); (case side4 => exact Nat.le_refl _); rintro e w21 ⟨rfl, hb⟩; have n0_ := Aside0.mk (Kd.R_below (krA HO103) hb); have n1_ := Aside0.mk (Kd.R_below (krA HO107) hb); have n2_ := Aside0.mk (blk_below (g := gb104) (o := .cells #[.string (⟨#[85, 110, 115, 113, 117, 101, 101, 122, 101]⟩ : ByteArray), .slice Ao10 y101.length co10, .string (⟨#[]⟩ : ByteArray), .slice none 0 0] 33 (0, 0)) (bkA BK104) hb); have n3_ := Aside0.mk (blk_below (g := gb108) (o := .cells #[.string (⟨#[85, 110, 115, 113, 117, 101, 101, 122, 101]⟩ : ByteArray), .slice Ao15 y105.length co15, .string (⟨#[]⟩ : ByteArray), .slice none 0 0] 33 (0, 0)) (bkA BK108) hb); have n4_ := Aside0.mk (below_step (hbA HB) hb); clear HO103; clear HO107; clear BK104; clear BK108; clear HB; have HO103 := n0_; have HO107 := n1_; have BK104 := n2_; have BK108 := n3_; have HB := n4_; clear n0_ n1_ n2_ n3_ n4_; (try clear hb); (try clear hb2); (try clear hk); (try clear hi); have hcz22_0 : w21.cell? ⟨gb104, 0, none⟩ = some (.string (⟨#[85, 110, 115, 113, 117, 101, 101, 122, 101]⟩ : ByteArray)) := bcA BK104 0; have hcz22_1 : w21.cell? ⟨gb104, 1, none⟩ = some (.slice Ao10 y101.length co10) := bcA BK104 1; have hcz22_2 : w21.cell? ⟨gb104, 2, none⟩ = some (.string (⟨#[]⟩ : ByteArray)) := bcA BK104 2; have hcz22_3 : w21.cell? ⟨gb104, 3, none⟩ = some (.slice none 0 0) := bcA BK104 3; have hfz22_0 := blk_frozen BK104.out 0; have hfz22_1 := blk_frozen BK104.out 1; have hfz22_2 := blk_frozen BK104.out 2; have hfz22_3 := blk_frozen BK104.out 3) | (go_at_call 30; (refine (ops_Check.calls k (⟨#[85, 110, 115, 113, 117, 101, 101, 122, 101]⟩ : ByteArray) _ _ y101 (⟨#[]⟩ : ByteArray) _ _ ([] : List (S35)) 13 t111 _ ?side1 ?side2 ?side3 ?side4 A5.out).mono ?_); (case side1 => repeat (first | exact (Kd.R_reads' HO103.out).2.2 | (with_reducible refine Kd.C_alloc ?_ _) | (with_reducible refine Kd.C_drewN ?_ _) | (with_reducible refine Kd.C_drew ?_))); (case side2 => exact (Kd.R_reads' HO103.out).2.1); (case side3 => exact Kd.C_nil _ _); (case side4 => exact Nat.le_refl _); rintro e w23 ⟨rfl, hb⟩; have n0_ := Aside0.mk (Kd.R_below (krA HO103) hb); have n1_ := Aside0.mk (Kd.R_below (krA HO107) hb); have n2_ := Aside0.mk (blk_below (g := gb104) (o := .cells #[.string (⟨#[85, 110, 115, 113, 117, 101, 101, 122, 101]⟩ : ByteArray), .slice Ao10 y101.length co10, .string (⟨#[]⟩ : ByteArray), .slice none 0 0] 33 (0, 0)) (bkA BK104) hb); have n3_ := Aside0.mk (blk_below (g := gb108) (o := .cells #[.string (⟨#[85, 110, 115, 113, 117, 101, 101, 122, 101]⟩ : ByteArray), .slice Ao15 y105.length co15, .string (⟨#[]⟩ : ByteArray), .slice none 0 0] 33 (0, 0)) (bkA BK108) hb); have n4_ := Aside0.mk (below_step (hbA HB) hb); clear HO103; clear HO107; clear BK104; clear BK108; clear HB; have HO103 := n0_; have HO107 := n1_; have BK104 := n2_; have BK108 := n3_; have HB := n4_; clear n0_ n1_ n2_ n3_ n4_; (try clear hb); (try clear hb2); (try clear hk); (try clear hi); have hcz24_0 : w23.cell? ⟨gb108, 0, none⟩ = some (.string (⟨#[85, 110, 115, 113, 117, 101, 101, 122, 101]⟩ : ByteArray)) := bcA BK108 0; have hcz24_1 : w23.cell? ⟨gb108, 1, none⟩ = some (.slice Ao15 y105.length co15) := bcA BK108 1; have hcz24_2 : w23.cell? ⟨gb108, 2, none⟩ = some (.string (⟨#[]⟩ : ByteArray)) := bcA BK108 2; have hcz24_3 : w23.cell? ⟨gb108, 3, none⟩ = some (.slice none 0 0) := bcA BK108 3; have hfz24_0 := blk_frozen BK108.out 0; have hfz24_1 := blk_frozen BK108.out 1; have hfz24_2 := blk_frozen BK108.out 2; have hfz24_3 := blk_frozen BK108.out 3) | (go_at_call 30; (refine (ops_Check.calls k (⟨#[85, 110, 115, 113, 117, 101, 101, 122, 101]⟩ : ByteArray) _ _ y105 (⟨#[]⟩ : ByteArray) _ _ ([] : List (S35)) 13 t112 _ ?side1 ?side2 ?side3 ?side4 A7.out).mono ?_); (case side1 => repeat (first | exact (Kd.R_reads' HO107.out).2.2 | (with_reducible refine Kd.C_alloc ?_ _) | (with_reducible refine Kd.C_drewN ?_ _) | (with_reducible refine Kd.C_drew ?_))); (case side2 => exact (Kd.R_reads' HO107.out).2.1); (case side3 => exact Kd.C_nil _ _); (case side4 => exact Nat.le_refl _); rintro e w25 ⟨rfl, hb⟩; have n0_ := Aside0.mk (Kd.R_below (krA HO103) hb); have n1_ := Aside0.mk (Kd.R_below (krA HO107) hb); have n2_ := Aside0.mk (blk_below (g := gb104) (o := .cells #[.string (⟨#[85, 110, 115, 113, 117, 101, 101, 122, 101]⟩ : ByteArray), .slice Ao10 y101.length co10, .string (⟨#[]⟩ : ByteArray), .slice none 0 0] 33 (0, 0)) (bkA BK104) hb); have n3_ := Aside0.mk (blk_below (g := gb108) (o := .cells #[.string (⟨#[85, 110, 115, 113, 117, 101, 101, 122, 101]⟩ : ByteArray), .slice Ao15 y105.length co15, .string (⟨#[]⟩ : ByteArray), .slice none 0 0] 33 (0, 0)) (bkA BK108) hb); have n4_ := Aside0.mk (below_step (hbA HB) hb); clear HO103; clear HO107; clear BK104; clear BK108; clear HB; have HO103 := n0_; have HO107 := n1_; have BK104 := n2_; have BK108 := n3_; have HB := n4_; clear n0_ n1_ n2_ n3_ n4_; (try clear hb); (try clear hb2); (try clear hk); (try clear hi)))
    go_ret
    exact ⟨by first | rfl | (simp [errW_none, errW_some] <;> rfl) | (simp [*, errW_none, errW_some] <;> rfl), hbA HB⟩
   ·
    rw [if_neg c6] at H
    have c6b0 : (t111 == 11) = false := beq_eq_false_iff_ne.mpr c6
    have c6b1 : (t111 != 11) = true := bne_iff_ne.mpr c6
    obtain rfl := Option.some.inj H
    go_enter Try.func26, Try.ntmps26
    go_wp2_with (first | ((with_reducible refine gate_dst (N := 3) rfl ?_); refine Kd.R_lit Kd.string _ 9 ?hg (N := 3) ?hd (xs := ([(⟨#[120]⟩ : ByteArray)] : List ByteArray)) (inner := [.string (⟨#[120]⟩ : ByteArray)]) (ok := fun _ => True) (okp := fun _ => True) ?hr ?hp (fun _ hk => hk) trivial (Below.refl _ _) (Nat.le_refl _) (by simp) ?_; (case hd => rfl); (case hg => rfl); (case hr => first | (go_simp; done) | (go_simp; rfl)); (case hp => exact (Reps.one (show Kd.M Kd.string _ _ _ (⟨#[120]⟩ : ByteArray) [.string (⟨#[120]⟩ : ByteArray)] from rfl) (Reps.none _ _))); intro v102 w26 ho27 hb hg_ hnew_; clear hg_ hnew_; (first | rw [← Ny101.out] at ho27 | (simp only [Int.reduceToNat] at ho27; rw [← Ny101.out] at ho27)); have n0_ := Aside0.mk (Kd.R_lower ho27 (below_size (hbA HB))); have n1_ := Aside0.mk (below_step (hbA HB) hb); clear HB; have HO103 := n0_; have HB := n1_; clear n0_ n1_; clear hb ho27; obtain ⟨Ao28, co28, eo28⟩ := Kd.R_slice HO103.out; subst eo28) | ((with_reducible refine gate_dst (N := 1) rfl ?_); refine box_event ?hg (N := 1) ?hd (cs := #[.string (⟨#[]⟩ : ByteArray), .slice none 0 0, .string (⟨#[]⟩ : ByteArray), .slice none 0 0]) (t := 33) ?hr ?_; (case hd => rfl); (case hg => rfl); (case hr => first | (go_simp; done) | (go_simp; rfl)); intro gb104 hg w29 hbox hb; have n0_ := Aside0.mk (Kd.R_below (krA HO103) hb); have n1_ := Aside0.mk (below_step (hbA HB) hb); have n2_ := Aside0.mk (hbox); have n3_ := Aside0.mk ((by rw [hg]; exact (below_size (hbA HB)) : w.heap.size ≤ gb104)); have n4_ := Aside0.mk ((by rw [hg]; exact (below_size (hbA HB)) : w.heap.size ≤ gb104)); clear HO103; clear HB; have HO103 := n0_; have HB := n1_; have BK104 := n2_; have GW104 := n3_; have GE104 := n4_; clear n0_ n1_ n2_ n3_ n4_; clear hb hbox hg; have hcz30_0 : w29.cell? ⟨gb104, 0, none⟩ = some (.string (⟨#[]⟩ : ByteArray)) := bcA BK104 0; have hcz30_1 : w29.cell? ⟨gb104, 1, none⟩ = some (.slice none 0 0) := bcA BK104 1; have hcz30_2 : w29.cell? ⟨gb104, 2, none⟩ = some (.string (⟨#[]⟩ : ByteArray)) := bcA BK104 2; have hcz30_3 : w29.cell? ⟨gb104, 3, none⟩ = some (.slice none 0 0) := bcA BK104 3; have hfz30_0 := blk_frozen BK104.out 0; have hfz30_1 := blk_frozen BK104.out 1; have hfz30_2 := blk_frozen BK104.out 2; have hfz30_3 := blk_frozen BK104.out 3) | ((with_reducible refine gate_dst (N := 5) rfl ?_); refine Kd.R_lit Kd.string _ 9 ?hg (N := 5) ?hd (xs := ([(⟨#[120]⟩ : ByteArray), (⟨#[97]⟩ : ByteArray)] : List ByteArray)) (inner := [.string (⟨#[120]⟩ : ByteArray), .string (⟨#[97]⟩ : ByteArray)]) (ok := fun _ => True) (okp := fun _ => True) ?hr ?hp (fun _ hk => hk) trivial (Below.refl _ _) (Nat.le_refl _) (by simp) ?_; (case hd => rfl); (case hg => rfl); (case hr => first | (go_simp; done) | (go_simp; rfl)); (case hp => exact (Reps.one (show Kd.M Kd.string _ _ _ (⟨#[120]⟩ : ByteArray) [.string (⟨#[120]⟩ : ByteArray)] from rfl) (Reps.one (show Kd.M Kd.string _ _ _ (⟨#[97]⟩ : ByteArray) [.string (⟨#[97]⟩ : ByteArray)] from rfl) (Reps.none _ _)))); intro v106 w31 ho32 hb hg_ hnew_; clear hg_ hnew_; (first | rw [← Ny105.out] at ho32 | (simp only [Int.reduceToNat] at ho32; rw [← Ny105.out] at ho32)); have n0_ := Aside0.mk (Kd.R_elder' (by (with_reducible repeat (first | apply Kd.R_alloc | apply Kd.R_drewN | apply Kd.R_drew)); exact (Kd.R_mono (Kd.R_far (p := ⟨gb104, 3, none⟩) (Kd.R_far (p := ⟨gb104, 2, none⟩) (Kd.R_far (p := ⟨gb104, 1, none⟩) (Kd.R_far (p := ⟨gb104, 0, none⟩) (Kd.R_types HO103.out BK104.out (by decide)) (fun _ hk => hk.2) (.string (⟨#[85, 110, 115, 113, 117, 101, 101, 122, 101]⟩ : ByteArray))) (fun _ hk => hk.2) (.slice Ao28 y101.length co28)) (fun _ hk => hk.2) (.string (⟨#[]⟩ : ByteArray))) (fun _ hk => hk.2) (.slice none 0 0)) (fun _ h_ => h_.1))) (Kd.R_base ho32) hb); have n1_ := Aside0.mk (Kd.R_lower (Kd.R_new' ho32 (Kd.R_lt (by (with_reducible repeat (first | apply Kd.R_alloc | apply Kd.R_drewN | apply Kd.R_drew)); exact (Kd.R_mono (Kd.R_far (p := ⟨gb104, 3, none⟩) (Kd.R_far (p := ⟨gb104, 2, none⟩) (Kd.R_far (p := ⟨gb104, 1, none⟩) (Kd.R_far (p := ⟨gb104, 0, none⟩) (Kd.R_types HO103.out BK104.out (by decide)) (fun _ hk => hk.2) (.string (⟨#[85, 110, 115, 113, 117, 101, 101, 122, 101]⟩ : ByteArray))) (fun _ hk => hk.2) (.slice Ao28 y101.length co28)) (fun _ hk => hk.2) (.string (⟨#[]⟩ : ByteArray))) (fun _ hk => hk.2) (.slice none 0 0)) (fun _ h_ => h_.1))))) (below_size (hbA HB))); have n2_ := Aside0.mk (blk_below (g := gb104) (o := .cells #[.string (⟨#[85, 110, 115, 113, 117, 101, 101, 122, 101]⟩ : ByteArray), .slice Ao28 y101.length co28, .string (⟨#[]⟩ : ByteArray), .slice none 0 0] 33 (0, 0)) (by (with_reducible repeat (first | refine blk_drewN ?_ _ | refine blk_drew ?_ | refine blk_alloc ?_ _)); refine blk_put (cs := #[.string (⟨#[85, 110, 115, 113, 117, 101, 101, 122, 101]⟩ : ByteArray), .slice Ao28 y101.length co28, .string (⟨#[]⟩ : ByteArray), .slice none 0 0]) ?_ 3 _ rfl; (with_reducible repeat (first | refine blk_drewN ?_ _ | refine blk_drew ?_ | refine blk_alloc ?_ _)); refine blk_put (cs := #[.string (⟨#[85, 110, 115, 113, 117, 101, 101, 122, 101]⟩ : ByteArray), .slice Ao28 y101.length co28, .string (⟨#[]⟩ : ByteArray), .slice none 0 0]) ?_ 2 _ rfl; (with_reducible repeat (first | refine blk_drewN ?_ _ | refine blk_drew ?_ | refine blk_alloc ?_ _)); refine blk_put (cs := #[.string (⟨#[85, 110, 115, 113, 117, 101, 101, 122, 101]⟩ : ByteArray), .slice none 0 0, .string (⟨#[]⟩ : ByteArray), .slice none 0 0]) ?_ 1 _ rfl; (with_reducible repeat (first | refine blk_drewN ?_ _ | refine blk_drew ?_ | refine blk_alloc ?_ _)); refine blk_put (cs := #[.string (⟨#[]⟩ : ByteArray), .slice none 0 0, .string (⟨#[]⟩ : ByteArray), .slice none 0 0]) ?_ 0 _ rfl; (with_reducible repeat (first | refine blk_drewN ?_ _ | refine blk_drew ?_ | refine blk_alloc ?_ _)); exact BK104.out) hb); have n3_ := Aside0.mk (below_step (hbA HB) hb); clear HO103; clear BK104; clear HB; have HO103 := n0_; have HO107 := n1_; have BK104 := n2_; have HB := n3_; clear n0_ n1_ n2_ n3_; clear hb ho32; obtain ⟨Ao33, co33, eo33⟩ := Kd.R_slice HO107.out; subst eo33) | ((with_reducible refine gate_dst (N := 2) rfl ?_); refine box_event ?hg (N := 2) ?hd (cs := #[.string (⟨#[]⟩ : ByteArray), .slice none 0 0, .string (⟨#[]⟩ : ByteArray), .slice none 0 0]) (t := 33) ?hr ?_; (case hd => rfl); (case hg => rfl); (case hr => first | (go_simp; done) | (go_simp; rfl)); intro gb108 hg w34 hbox hb; have n0_ := Aside0.mk (Kd.R_below (krA HO103) hb); have n1_ := Aside0.mk (Kd.R_below (krA HO107) hb); have n2_ := Aside0.mk (blk_below (g := gb104) (o := .cells #[.string (⟨#[85, 110, 115, 113, 117, 101, 101, 122, 101]⟩ : ByteArray), .slice Ao28 y101.length co28, .string (⟨#[]⟩ : ByteArray), .slice none 0 0] 33 (0, 0)) (bkA BK104) hb); have n3_ := Aside0.mk (below_step (hbA HB) hb); have n4_ := Aside0.mk (hbox); have n5_ := Aside0.mk ((by rw [hg]; exact (below_size (hbA HB)) : w.heap.size ≤ gb108)); have n6_ := Aside0.mk ((by rw [hg]; exact (below_size (hbA HB)) : w.heap.size ≤ gb108)); have n7_ := Aside0.mk ((by rw [hg]; exact Nat.ne_of_lt (blk_lt (g := gb104) (o := .cells #[.string (⟨#[85, 110, 115, 113, 117, 101, 101, 122, 101]⟩ : ByteArray), .slice Ao28 y101.length co28, .string (⟨#[]⟩ : ByteArray), .slice none 0 0] 33 (0, 0)) (bkA BK104)) : gb104 ≠ gb108)); have n8_ := Aside0.mk ((by rw [hg]; exact Nat.ne_of_gt (blk_lt (g := gb104) (o := .cells #[.string (⟨#[85, 110, 115, 113, 117, 101, 101, 122, 101]⟩ : ByteArray), .slice Ao28 y101.length co28, .string (⟨#[]⟩ : ByteArray), .slice none 0 0] 33 (0, 0)) (bkA BK104)) : gb108 ≠ gb104)); clear HO103; clear HO107; clear BK104; clear HB; have HO103 := n0_; have HO107 := n1_; have BK104 := n2_; have HB := n3_; have BK108 := n4_; have GW108 := n5_; have GE108 := n6_; have NB104_108 := n7_; have NB108_104 := n8_; clear n0_ n1_ n2_ n3_ n4_ n5_ n6_ n7_ n8_; clear hb hbox hg; have hnb35 := NB108_104.out; have hnc35 := NB104_108.out; have hcz36_0 : w34.cell? ⟨gb108, 0, none⟩ = some (.string (⟨#[]⟩ : ByteArray)) := bcA BK108 0; have hcz36_1 : w34.cell? ⟨gb108, 1, none⟩ = some (.slice none 0 0) := bcA BK108 1; have hcz36_2 : w34.cell? ⟨gb108, 2, none⟩ = some (.string (⟨#[]⟩ : ByteArray)) := bcA BK108 2; have hcz36_3 : w34.cell? ⟨gb108, 3, none⟩ = some (.slice none 0 0) := bcA BK108 3; have hfz36_0 := blk_frozen BK108.out 0; have hfz36_1 := blk_frozen BK108.out 1; have hfz36_2 := blk_frozen BK108.out 2; have hfz36_3 := blk_frozen BK108.out 3) | ((with_reducible refine gate_callee (f := 8) rfl ?_); refine goesL_ (some 7) rfl rfl Try.func8 (by kernel_rfl) rfl #[] rfl (by (try simp only [List.map_toArray, List.map_cons, List.map_nil]); first | done | rfl | (simp only [List.length_drop, List.length_take]; rfl)) ?_; (with_reducible refine (agatelaw10_Awake.calls  true _ A1.out).mono ?_); rintro e w37 ⟨rfl, hb⟩; refine ⟨_, rfl, ?_⟩; have n0_ := Aside0.mk (Kd.R_below (by (with_reducible repeat (first | apply Kd.R_alloc | apply Kd.R_drewN | apply Kd.R_drew)); exact (Kd.R_mono (Kd.R_far (p := ⟨gb108, 3, none⟩) (Kd.R_far (p := ⟨gb108, 2, none⟩) (Kd.R_far (p := ⟨gb108, 1, none⟩) (Kd.R_far (p := ⟨gb108, 0, none⟩) (Kd.R_types HO103.out BK108.out (by decide)) (fun _ hk => hk.2) (.string (⟨#[85, 110, 115, 113, 117, 101, 101, 122, 101]⟩ : ByteArray))) (fun _ hk => hk.2) (.slice Ao33 y105.length co33)) (fun _ hk => hk.2) (.string (⟨#[]⟩ : ByteArray))) (fun _ hk => hk.2) (.slice none 0 0)) (fun _ h_ => h_.1))) hb); have n1_ := Aside0.mk (Kd.R_below (by (with_reducible repeat (first | apply Kd.R_alloc | apply Kd.R_drewN | apply Kd.R_drew)); exact (Kd.R_mono (Kd.R_far (p := ⟨gb108, 3, none⟩) (Kd.R_far (p := ⟨gb108, 2, none⟩) (Kd.R_far (p := ⟨gb108, 1, none⟩) (Kd.R_far (p := ⟨gb108, 0, none⟩) (Kd.R_types HO107.out BK108.out (by decide)) (fun _ hk => hk.2) (.string (⟨#[85, 110, 115, 113, 117, 101, 101, 122, 101]⟩ : ByteArray))) (fun _ hk => hk.2) (.slice Ao33 y105.length co33)) (fun _ hk => hk.2) (.string (⟨#[]⟩ : ByteArray))) (fun _ hk => hk.2) (.slice none 0 0)) (fun _ h_ => h_.1))) hb); have n2_ := Aside0.mk (blk_below (g := gb104) (o := .cells #[.string (⟨#[85, 110, 115, 113, 117, 101, 101, 122, 101]⟩ : ByteArray), .slice Ao28 y101.length co28, .string (⟨#[]⟩ : ByteArray), .slice none 0 0] 33 (0, 0)) (by (with_reducible repeat (first | refine blk_drewN ?_ _ | refine blk_drew ?_ | refine blk_alloc ?_ _)); refine blk_far ?_ NB104_108.out _; (with_reducible repeat (first | refine blk_drewN ?_ _ | refine blk_drew ?_ | refine blk_alloc ?_ _)); refine blk_far ?_ NB104_108.out _; (with_reducible repeat (first | refine blk_drewN ?_ _ | refine blk_drew ?_ | refine blk_alloc ?_ _)); refine blk_far ?_ NB104_108.out _; (with_reducible repeat (first | refine blk_drewN ?_ _ | refine blk_drew ?_ | refine blk_alloc ?_ _)); refine blk_far ?_ NB104_108.out _; (with_reducible repeat (first | refine blk_drewN ?_ _ | refine blk_drew ?_ | refine blk_alloc ?_ _)); exact BK104.out) hb); have n3_ := Aside0.mk (blk_below (g := gb108) (o := .cells #[.string (⟨#[85, 110, 115, 113, 117, 101, 101, 122, 101]⟩ : ByteArray), .slice Ao33 y105.length co33, .string (⟨#[]⟩ : ByteArray), .slice none 0 0] 33 (0, 0)) (by (with_reducible repeat (first | refine blk_drewN ?_ _ | refine blk_drew ?_ | refine blk_alloc ?_ _)); refine blk_put (cs := #[.string (⟨#[85, 110, 115, 113, 117, 101, 101, 122, 101]⟩ : ByteArray), .slice Ao33 y105.length co33, .string (⟨#[]⟩ : ByteArray), .slice none 0 0]) ?_ 3 _ rfl; (with_reducible repeat (first | refine blk_drewN ?_ _ | refine blk_drew ?_ | refine blk_alloc ?_ _)); refine blk_put (cs := #[.string (⟨#[85, 110, 115, 113, 117, 101, 101, 122, 101]⟩ : ByteArray), .slice Ao33 y105.length co33, .string (⟨#[]⟩ : ByteArray), .slice none 0 0]) ?_ 2 _ rfl; (with_reducible repeat (first | refine blk_drewN ?_ _ | refine blk_drew ?_ | refine blk_alloc ?_ _)); refine blk_put (cs := #[.string (⟨#[85, 110, 115, 113, 117, 101, 101, 122, 101]⟩ : ByteArray), .slice none 0 0, .string (⟨#[]⟩ : ByteArray), .slice none 0 0]) ?_ 1 _ rfl; (with_reducible repeat (first | refine blk_drewN ?_ _ | refine blk_drew ?_ | refine blk_alloc ?_ _)); refine blk_put (cs := #[.string (⟨#[]⟩ : ByteArray), .slice none 0 0, .string (⟨#[]⟩ : ByteArray), .slice none 0 0]) ?_ 0 _ rfl; (with_reducible repeat (first | refine blk_drewN ?_ _ | refine blk_drew ?_ | refine blk_alloc ?_ _)); exact BK108.out) hb); have n4_ := Aside0.mk (below_step (hbA HB) hb); clear HO103; clear HO107; clear BK104; clear BK108; clear HB; have HO103 := n0_; have HO107 := n1_; have BK104 := n2_; have BK108 := n3_; have HB := n4_; clear n0_ n1_ n2_ n3_ n4_; (try clear hb); (try clear hb2); (try clear hk); (try clear hi); have hcz38_0 : w37.cell? ⟨gb104, 0, none⟩ = some (.string (⟨#[85, 110, 115, 113, 117, 101, 101, 122, 101]⟩ : ByteArray)) := bcA BK104 0; have hcz38_1 : w37.cell? ⟨gb104, 1, none⟩ = some (.slice Ao28 y101.length co28) := bcA BK104 1; have hcz38_2 : w37.cell? ⟨gb104, 2, none⟩ = some (.string (⟨#[]⟩ : ByteArray)) := bcA BK104 2; have hcz38_3 : w37.cell? ⟨gb104, 3, none⟩ = some (.slice none 0 0) := bcA BK104 3; have hfz38_0 := blk_frozen BK104.out 0; have hfz38_1 := blk_frozen BK104.out 1; have hfz38_2 := blk_frozen BK104.out 2; have hfz38_3 := blk_frozen BK104.out 3) | (go_at_call 30; (refine (ops_Check.calls k (⟨#[85, 110, 115, 113, 117, 101, 101, 122, 101]⟩ : ByteArray) _ _ y101 (⟨#[]⟩ : ByteArray) _ _ ([] : List (S35)) 12 t110 _ ?side1 ?side2 ?side3 ?side4 A3.out).mono ?_); (case side1 => repeat (first | exact (Kd.R_reads' HO103.out).2.2 | (with_reducible refine Kd.C_alloc ?_ _) | (with_reducible refine Kd.C_drewN ?_ _) | (with_reducible refine Kd.C_drew ?_))); (case side2 => exact (Kd.R_reads' HO103.out).2.1); (case side3 => exact Kd.C_nil _ _); (case side4 => exact Nat.le_refl _); rintro e w39 ⟨rfl, hb⟩; have n0_ := Aside0.mk (Kd.R_below (krA HO103) hb); have n1_ := Aside0.mk (Kd.R_below (krA HO107) hb); have n2_ := Aside0.mk (blk_below (g := gb104) (o := .cells #[.string (⟨#[85, 110, 115, 113, 117, 101, 101, 122, 101]⟩ : ByteArray), .slice Ao28 y101.length co28, .string (⟨#[]⟩ : ByteArray), .slice none 0 0] 33 (0, 0)) (bkA BK104) hb); have n3_ := Aside0.mk (blk_below (g := gb108) (o := .cells #[.string (⟨#[85, 110, 115, 113, 117, 101, 101, 122, 101]⟩ : ByteArray), .slice Ao33 y105.length co33, .string (⟨#[]⟩ : ByteArray), .slice none 0 0] 33 (0, 0)) (bkA BK108) hb); have n4_ := Aside0.mk (below_step (hbA HB) hb); clear HO103; clear HO107; clear BK104; clear BK108; clear HB; have HO103 := n0_; have HO107 := n1_; have BK104 := n2_; have BK108 := n3_; have HB := n4_; clear n0_ n1_ n2_ n3_ n4_; (try clear hb); (try clear hb2); (try clear hk); (try clear hi); have hcz40_0 : w39.cell? ⟨gb104, 0, none⟩ = some (.string (⟨#[85, 110, 115, 113, 117, 101, 101, 122, 101]⟩ : ByteArray)) := bcA BK104 0; have hcz40_1 : w39.cell? ⟨gb104, 1, none⟩ = some (.slice Ao28 y101.length co28) := bcA BK104 1; have hcz40_2 : w39.cell? ⟨gb104, 2, none⟩ = some (.string (⟨#[]⟩ : ByteArray)) := bcA BK104 2; have hcz40_3 : w39.cell? ⟨gb104, 3, none⟩ = some (.slice none 0 0) := bcA BK104 3; have hfz40_0 := blk_frozen BK104.out 0; have hfz40_1 := blk_frozen BK104.out 1; have hfz40_2 := blk_frozen BK104.out 2; have hfz40_3 := blk_frozen BK104.out 3) | (go_at_call 30; (refine (ops_Check.calls k (⟨#[85, 110, 115, 113, 117, 101, 101, 122, 101]⟩ : ByteArray) _ _ y101 (⟨#[]⟩ : ByteArray) _ _ ([] : List (S35)) 13 t111 _ ?side1 ?side2 ?side3 ?side4 A5.out).mono ?_); (case side1 => repeat (first | exact (Kd.R_reads' HO103.out).2.2 | (with_reducible refine Kd.C_alloc ?_ _) | (with_reducible refine Kd.C_drewN ?_ _) | (with_reducible refine Kd.C_drew ?_))); (case side2 => exact (Kd.R_reads' HO103.out).2.1); (case side3 => exact Kd.C_nil _ _); (case side4 => exact Nat.le_refl _); rintro e w41 ⟨rfl, hb⟩; have n0_ := Aside0.mk (Kd.R_below (krA HO103) hb); have n1_ := Aside0.mk (Kd.R_below (krA HO107) hb); have n2_ := Aside0.mk (blk_below (g := gb104) (o := .cells #[.string (⟨#[85, 110, 115, 113, 117, 101, 101, 122, 101]⟩ : ByteArray), .slice Ao28 y101.length co28, .string (⟨#[]⟩ : ByteArray), .slice none 0 0] 33 (0, 0)) (bkA BK104) hb); have n3_ := Aside0.mk (blk_below (g := gb108) (o := .cells #[.string (⟨#[85, 110, 115, 113, 117, 101, 101, 122, 101]⟩ : ByteArray), .slice Ao33 y105.length co33, .string (⟨#[]⟩ : ByteArray), .slice none 0 0] 33 (0, 0)) (bkA BK108) hb); have n4_ := Aside0.mk (below_step (hbA HB) hb); clear HO103; clear HO107; clear BK104; clear BK108; clear HB; have HO103 := n0_; have HO107 := n1_; have BK104 := n2_; have BK108 := n3_; have HB := n4_; clear n0_ n1_ n2_ n3_ n4_; (try clear hb); (try clear hb2); (try clear hk); (try clear hi)))
    go_ret
    exact ⟨by first | rfl | (simp [errW_none, errW_some] <;> rfl) | (simp [*, errW_none, errW_some] <;> rfl), hbA HB⟩
  ·
   rw [if_neg c4] at H
   have c4b0 : (t110 == 12) = false := beq_eq_false_iff_ne.mpr c4
   have c4b1 : (t110 != 12) = true := bne_iff_ne.mpr c4
   obtain rfl := Option.some.inj H
   go_enter Try.func26, Try.ntmps26
   go_wp2_with (first | ((with_reducible refine gate_dst (N := 3) rfl ?_); refine Kd.R_lit Kd.string _ 9 ?hg (N := 3) ?hd (xs := ([(⟨#[120]⟩ : ByteArray)] : List ByteArray)) (inner := [.string (⟨#[120]⟩ : ByteArray)]) (ok := fun _ => True) (okp := fun _ => True) ?hr ?hp (fun _ hk => hk) trivial (Below.refl _ _) (Nat.le_refl _) (by simp) ?_; (case hd => rfl); (case hg => rfl); (case hr => first | (go_simp; done) | (go_simp; rfl)); (case hp => exact (Reps.one (show Kd.M Kd.string _ _ _ (⟨#[120]⟩ : ByteArray) [.string (⟨#[120]⟩ : ByteArray)] from rfl) (Reps.none _ _))); intro v102 w42 ho43 hb hg_ hnew_; clear hg_ hnew_; (first | rw [← Ny101.out] at ho43 | (simp only [Int.reduceToNat] at ho43; rw [← Ny101.out] at ho43)); have n0_ := Aside0.mk (Kd.R_lower ho43 (below_size (hbA HB))); have n1_ := Aside0.mk (below_step (hbA HB) hb); clear HB; have HO103 := n0_; have HB := n1_; clear n0_ n1_; clear hb ho43; obtain ⟨Ao44, co44, eo44⟩ := Kd.R_slice HO103.out; subst eo44) | ((with_reducible refine gate_dst (N := 1) rfl ?_); refine box_event ?hg (N := 1) ?hd (cs := #[.string (⟨#[]⟩ : ByteArray), .slice none 0 0, .string (⟨#[]⟩ : ByteArray), .slice none 0 0]) (t := 33) ?hr ?_; (case hd => rfl); (case hg => rfl); (case hr => first | (go_simp; done) | (go_simp; rfl)); intro gb104 hg w45 hbox hb; have n0_ := Aside0.mk (Kd.R_below (krA HO103) hb); have n1_ := Aside0.mk (below_step (hbA HB) hb); have n2_ := Aside0.mk (hbox); have n3_ := Aside0.mk ((by rw [hg]; exact (below_size (hbA HB)) : w.heap.size ≤ gb104)); have n4_ := Aside0.mk ((by rw [hg]; exact (below_size (hbA HB)) : w.heap.size ≤ gb104)); clear HO103; clear HB; have HO103 := n0_; have HB := n1_; have BK104 := n2_; have GW104 := n3_; have GE104 := n4_; clear n0_ n1_ n2_ n3_ n4_; clear hb hbox hg; have hcz46_0 : w45.cell? ⟨gb104, 0, none⟩ = some (.string (⟨#[]⟩ : ByteArray)) := bcA BK104 0; have hcz46_1 : w45.cell? ⟨gb104, 1, none⟩ = some (.slice none 0 0) := bcA BK104 1; have hcz46_2 : w45.cell? ⟨gb104, 2, none⟩ = some (.string (⟨#[]⟩ : ByteArray)) := bcA BK104 2; have hcz46_3 : w45.cell? ⟨gb104, 3, none⟩ = some (.slice none 0 0) := bcA BK104 3; have hfz46_0 := blk_frozen BK104.out 0; have hfz46_1 := blk_frozen BK104.out 1; have hfz46_2 := blk_frozen BK104.out 2; have hfz46_3 := blk_frozen BK104.out 3) | ((with_reducible refine gate_dst (N := 5) rfl ?_); refine Kd.R_lit Kd.string _ 9 ?hg (N := 5) ?hd (xs := ([(⟨#[120]⟩ : ByteArray), (⟨#[97]⟩ : ByteArray)] : List ByteArray)) (inner := [.string (⟨#[120]⟩ : ByteArray), .string (⟨#[97]⟩ : ByteArray)]) (ok := fun _ => True) (okp := fun _ => True) ?hr ?hp (fun _ hk => hk) trivial (Below.refl _ _) (Nat.le_refl _) (by simp) ?_; (case hd => rfl); (case hg => rfl); (case hr => first | (go_simp; done) | (go_simp; rfl)); (case hp => exact (Reps.one (show Kd.M Kd.string _ _ _ (⟨#[120]⟩ : ByteArray) [.string (⟨#[120]⟩ : ByteArray)] from rfl) (Reps.one (show Kd.M Kd.string _ _ _ (⟨#[97]⟩ : ByteArray) [.string (⟨#[97]⟩ : ByteArray)] from rfl) (Reps.none _ _)))); intro v106 w47 ho48 hb hg_ hnew_; clear hg_ hnew_; (first | rw [← Ny105.out] at ho48 | (simp only [Int.reduceToNat] at ho48; rw [← Ny105.out] at ho48)); have n0_ := Aside0.mk (Kd.R_elder' (by (with_reducible repeat (first | apply Kd.R_alloc | apply Kd.R_drewN | apply Kd.R_drew)); exact (Kd.R_mono (Kd.R_far (p := ⟨gb104, 3, none⟩) (Kd.R_far (p := ⟨gb104, 2, none⟩) (Kd.R_far (p := ⟨gb104, 1, none⟩) (Kd.R_far (p := ⟨gb104, 0, none⟩) (Kd.R_types HO103.out BK104.out (by decide)) (fun _ hk => hk.2) (.string (⟨#[85, 110, 115, 113, 117, 101, 101, 122, 101]⟩ : ByteArray))) (fun _ hk => hk.2) (.slice Ao44 y101.length co44)) (fun _ hk => hk.2) (.string (⟨#[]⟩ : ByteArray))) (fun _ hk => hk.2) (.slice none 0 0)) (fun _ h_ => h_.1))) (Kd.R_base ho48) hb); have n1_ := Aside0.mk (Kd.R_lower (Kd.R_new' ho48 (Kd.R_lt (by (with_reducible repeat (first | apply Kd.R_alloc | apply Kd.R_drewN | apply Kd.R_drew)); exact (Kd.R_mono (Kd.R_far (p := ⟨gb104, 3, none⟩) (Kd.R_far (p := ⟨gb104, 2, none⟩) (Kd.R_far (p := ⟨gb104, 1, none⟩) (Kd.R_far (p := ⟨gb104, 0, none⟩) (Kd.R_types HO103.out BK104.out (by decide)) (fun _ hk => hk.2) (.string (⟨#[85, 110, 115, 113, 117, 101, 101, 122, 101]⟩ : ByteArray))) (fun _ hk => hk.2) (.slice Ao44 y101.length co44)) (fun _ hk => hk.2) (.string (⟨#[]⟩ : ByteArray))) (fun _ hk => hk.2) (.slice none 0 0)) (fun _ h_ => h_.1))))) (below_size (hbA HB))); have n2_ := Aside0.mk (blk_below (g := gb104) (o := .cells #[.string (⟨#[85, 110, 115, 113, 117, 101, 101, 122, 101]⟩ : ByteArray), .slice Ao44 y101.length co44, .string (⟨#[]⟩ : ByteArray), .slice none 0 0] 33 (0, 0)) (by (with_reducible repeat (first | refine blk_drewN ?_ _ | refine blk_drew ?_ | refine blk_alloc ?_ _)); refine blk_put (cs := #[.string (⟨#[85, 110, 115, 113, 117, 101, 101, 122, 101]⟩ : ByteArray), .slice Ao44 y101.length co44, .string (⟨#[]⟩ : ByteArray), .slice none 0 0]) ?_ 3 _ rfl; (with_reducible repeat (first | refine blk_drewN ?_ _ | refine blk_drew ?_ | refine blk_alloc ?_ _)); refine blk_put (cs := #[.string (⟨#[85, 110, 115, 113, 117, 101, 101, 122, 101]⟩ : ByteArray), .slice Ao44 y101.length co44, .string (⟨#[]⟩ : ByteArray), .slice none 0 0]) ?_ 2 _ rfl; (with_reducible repeat (first | refine blk_drewN ?_ _ | refine blk_drew ?_ | refine blk_alloc ?_ _)); refine blk_put (cs := #[.string (⟨#[85, 110, 115, 113, 117, 101, 101, 122, 101]⟩ : ByteArray), .slice none 0 0, .string (⟨#[]⟩ : ByteArray), .slice none 0 0]) ?_ 1 _ rfl; (with_reducible repeat (first | refine blk_drewN ?_ _ | refine blk_drew ?_ | refine blk_alloc ?_ _)); refine blk_put (cs := #[.string (⟨#[]⟩ : ByteArray), .slice none 0 0, .string (⟨#[]⟩ : ByteArray), .slice none 0 0]) ?_ 0 _ rfl; (with_reducible repeat (first | refine blk_drewN ?_ _ | refine blk_drew ?_ | refine blk_alloc ?_ _)); exact BK104.out) hb); have n3_ := Aside0.mk (below_step (hbA HB) hb); clear HO103; clear BK104; clear HB; have HO103 := n0_; have HO107 := n1_; have BK104 := n2_; have HB := n3_; clear n0_ n1_ n2_ n3_; clear hb ho48; obtain ⟨Ao49, co49, eo49⟩ := Kd.R_slice HO107.out; subst eo49) | ((with_reducible refine gate_dst (N := 2) rfl ?_); refine box_event ?hg (N := 2) ?hd (cs := #[.string (⟨#[]⟩ : ByteArray), .slice none 0 0, .string (⟨#[]⟩ : ByteArray), .slice none 0 0]) (t := 33) ?hr ?_; (case hd => rfl); (case hg => rfl); (case hr => first | (go_simp; done) | (go_simp; rfl)); intro gb108 hg w50 hbox hb; have n0_ := Aside0.mk (Kd.R_below (krA HO103) hb); have n1_ := Aside0.mk (Kd.R_below (krA HO107) hb); have n2_ := Aside0.mk (blk_below (g := gb104) (o := .cells #[.string (⟨#[85, 110, 115, 113, 117, 101, 101, 122, 101]⟩ : ByteArray), .slice Ao44 y101.length co44, .string (⟨#[]⟩ : ByteArray), .slice none 0 0] 33 (0, 0)) (bkA BK104) hb); have n3_ := Aside0.mk (below_step (hbA HB) hb); have n4_ := Aside0.mk (hbox); have n5_ := Aside0.mk ((by rw [hg]; exact (below_size (hbA HB)) : w.heap.size ≤ gb108)); have n6_ := Aside0.mk ((by rw [hg]; exact (below_size (hbA HB)) : w.heap.size ≤ gb108)); have n7_ := Aside0.mk ((by rw [hg]; exact Nat.ne_of_lt (blk_lt (g := gb104) (o := .cells #[.string (⟨#[85, 110, 115, 113, 117, 101, 101, 122, 101]⟩ : ByteArray), .slice Ao44 y101.length co44, .string (⟨#[]⟩ : ByteArray), .slice none 0 0] 33 (0, 0)) (bkA BK104)) : gb104 ≠ gb108)); have n8_ := Aside0.mk ((by rw [hg]; exact Nat.ne_of_gt (blk_lt (g := gb104) (o := .cells #[.string (⟨#[85, 110, 115, 113, 117, 101, 101, 122, 101]⟩ : ByteArray), .slice Ao44 y101.length co44, .string (⟨#[]⟩ : ByteArray), .slice none 0 0] 33 (0, 0)) (bkA BK104)) : gb108 ≠ gb104)); clear HO103; clear HO107; clear BK104; clear HB; have HO103 := n0_; have HO107 := n1_; have BK104 := n2_; have HB := n3_; have BK108 := n4_; have GW108 := n5_; have GE108 := n6_; have NB104_108 := n7_; have NB108_104 := n8_; clear n0_ n1_ n2_ n3_ n4_ n5_ n6_ n7_ n8_; clear hb hbox hg; have hnb51 := NB108_104.out; have hnc51 := NB104_108.out; have hcz52_0 : w50.cell? ⟨gb108, 0, none⟩ = some (.string (⟨#[]⟩ : ByteArray)) := bcA BK108 0; have hcz52_1 : w50.cell? ⟨gb108, 1, none⟩ = some (.slice none 0 0) := bcA BK108 1; have hcz52_2 : w50.cell? ⟨gb108, 2, none⟩ = some (.string (⟨#[]⟩ : ByteArray)) := bcA BK108 2; have hcz52_3 : w50.cell? ⟨gb108, 3, none⟩ = some (.slice none 0 0) := bcA BK108 3; have hfz52_0 := blk_frozen BK108.out 0; have hfz52_1 := blk_frozen BK108.out 1; have hfz52_2 := blk_frozen BK108.out 2; have hfz52_3 := blk_frozen BK108.out 3) | ((with_reducible refine gate_callee (f := 8) rfl ?_); refine goesL_ (some 7) rfl rfl Try.func8 (by kernel_rfl) rfl #[] rfl (by (try simp only [List.map_toArray, List.map_cons, List.map_nil]); first | done | rfl | (simp only [List.length_drop, List.length_take]; rfl)) ?_; (with_reducible refine (agatelaw10_Awake.calls  true _ A1.out).mono ?_); rintro e w53 ⟨rfl, hb⟩; refine ⟨_, rfl, ?_⟩; have n0_ := Aside0.mk (Kd.R_below (by (with_reducible repeat (first | apply Kd.R_alloc | apply Kd.R_drewN | apply Kd.R_drew)); exact (Kd.R_mono (Kd.R_far (p := ⟨gb108, 3, none⟩) (Kd.R_far (p := ⟨gb108, 2, none⟩) (Kd.R_far (p := ⟨gb108, 1, none⟩) (Kd.R_far (p := ⟨gb108, 0, none⟩) (Kd.R_types HO103.out BK108.out (by decide)) (fun _ hk => hk.2) (.string (⟨#[85, 110, 115, 113, 117, 101, 101, 122, 101]⟩ : ByteArray))) (fun _ hk => hk.2) (.slice Ao49 y105.length co49)) (fun _ hk => hk.2) (.string (⟨#[]⟩ : ByteArray))) (fun _ hk => hk.2) (.slice none 0 0)) (fun _ h_ => h_.1))) hb); have n1_ := Aside0.mk (Kd.R_below (by (with_reducible repeat (first | apply Kd.R_alloc | apply Kd.R_drewN | apply Kd.R_drew)); exact (Kd.R_mono (Kd.R_far (p := ⟨gb108, 3, none⟩) (Kd.R_far (p := ⟨gb108, 2, none⟩) (Kd.R_far (p := ⟨gb108, 1, none⟩) (Kd.R_far (p := ⟨gb108, 0, none⟩) (Kd.R_types HO107.out BK108.out (by decide)) (fun _ hk => hk.2) (.string (⟨#[85, 110, 115, 113, 117, 101, 101, 122, 101]⟩ : ByteArray))) (fun _ hk => hk.2) (.slice Ao49 y105.length co49)) (fun _ hk => hk.2) (.string (⟨#[]⟩ : ByteArray))) (fun _ hk => hk.2) (.slice none 0 0)) (fun _ h_ => h_.1))) hb); have n2_ := Aside0.mk (blk_below (g := gb104) (o := .cells #[.string (⟨#[85, 110, 115, 113, 117, 101, 101, 122, 101]⟩ : ByteArray), .slice Ao44 y101.length co44, .string (⟨#[]⟩ : ByteArray), .slice none 0 0] 33 (0, 0)) (by (with_reducible repeat (first | refine blk_drewN ?_ _ | refine blk_drew ?_ | refine blk_alloc ?_ _)); refine blk_far ?_ NB104_108.out _; (with_reducible repeat (first | refine blk_drewN ?_ _ | refine blk_drew ?_ | refine blk_alloc ?_ _)); refine blk_far ?_ NB104_108.out _; (with_reducible repeat (first | refine blk_drewN ?_ _ | refine blk_drew ?_ | refine blk_alloc ?_ _)); refine blk_far ?_ NB104_108.out _; (with_reducible repeat (first | refine blk_drewN ?_ _ | refine blk_drew ?_ | refine blk_alloc ?_ _)); refine blk_far ?_ NB104_108.out _; (with_reducible repeat (first | refine blk_drewN ?_ _ | refine blk_drew ?_ | refine blk_alloc ?_ _)); exact BK104.out) hb); have n3_ := Aside0.mk (blk_below (g := gb108) (o := .cells #[.string (⟨#[85, 110, 115, 113, 117, 101, 101, 122, 101]⟩ : ByteArray), .slice Ao49 y105.length co49, .string (⟨#[]⟩ : ByteArray), .slice none 0 0] 33 (0, 0)) (by (with_reducible repeat (first | refine blk_drewN ?_ _ | refine blk_drew ?_ | refine blk_alloc ?_ _)); refine blk_put (cs := #[.string (⟨#[85, 110, 115, 113, 117, 101, 101, 122, 101]⟩ : ByteArray), .slice Ao49 y105.length co49, .string (⟨#[]⟩ : ByteArray), .slice none 0 0]) ?_ 3 _ rfl; (with_reducible repeat (first | refine blk_drewN ?_ _ | refine blk_drew ?_ | refine blk_alloc ?_ _)); refine blk_put (cs := #[.string (⟨#[85, 110, 115, 113, 117, 101, 101, 122, 101]⟩ : ByteArray), .slice Ao49 y105.length co49, .string (⟨#[]⟩ : ByteArray), .slice none 0 0]) ?_ 2 _ rfl; (with_reducible repeat (first | refine blk_drewN ?_ _ | refine blk_drew ?_ | refine blk_alloc ?_ _)); refine blk_put (cs := #[.string (⟨#[85, 110, 115, 113, 117, 101, 101, 122, 101]⟩ : ByteArray), .slice none 0 0, .string (⟨#[]⟩ : ByteArray), .slice none 0 0]) ?_ 1 _ rfl; (with_reducible repeat (first | refine blk_drewN ?_ _ | refine blk_drew ?_ | refine blk_alloc ?_ _)); refine blk_put (cs := #[.string (⟨#[]⟩ : ByteArray), .slice none 0 0, .string (⟨#[]⟩ : ByteArray), .slice none 0 0]) ?_ 0 _ rfl; (with_reducible repeat (first | refine blk_drewN ?_ _ | refine blk_drew ?_ | refine blk_alloc ?_ _)); exact BK108.out) hb); have n4_ := Aside0.mk (below_step (hbA HB) hb); clear HO103; clear HO107; clear BK104; clear BK108; clear HB; have HO103 := n0_; have HO107 := n1_; have BK104 := n2_; have BK108 := n3_; have HB := n4_; clear n0_ n1_ n2_ n3_ n4_; (try clear hb); (try clear hb2); (try clear hk); (try clear hi); have hcz54_0 : w53.cell? ⟨gb104, 0, none⟩ = some (.string (⟨#[85, 110, 115, 113, 117, 101, 101, 122, 101]⟩ : ByteArray)) := bcA BK104 0; have hcz54_1 : w53.cell? ⟨gb104, 1, none⟩ = some (.slice Ao44 y101.length co44) := bcA BK104 1; have hcz54_2 : w53.cell? ⟨gb104, 2, none⟩ = some (.string (⟨#[]⟩ : ByteArray)) := bcA BK104 2; have hcz54_3 : w53.cell? ⟨gb104, 3, none⟩ = some (.slice none 0 0) := bcA BK104 3; have hfz54_0 := blk_frozen BK104.out 0; have hfz54_1 := blk_frozen BK104.out 1; have hfz54_2 := blk_frozen BK104.out 2; have hfz54_3 := blk_frozen BK104.out 3) | (go_at_call 30; (refine (ops_Check.calls k (⟨#[85, 110, 115, 113, 117, 101, 101, 122, 101]⟩ : ByteArray) _ _ y101 (⟨#[]⟩ : ByteArray) _ _ ([] : List (S35)) 12 t110 _ ?side1 ?side2 ?side3 ?side4 A3.out).mono ?_); (case side1 => repeat (first | exact (Kd.R_reads' HO103.out).2.2 | (with_reducible refine Kd.C_alloc ?_ _) | (with_reducible refine Kd.C_drewN ?_ _) | (with_reducible refine Kd.C_drew ?_))); (case side2 => exact (Kd.R_reads' HO103.out).2.1); (case side3 => exact Kd.C_nil _ _); (case side4 => exact Nat.le_refl _); rintro e w55 ⟨rfl, hb⟩; have n0_ := Aside0.mk (Kd.R_below (krA HO103) hb); have n1_ := Aside0.mk (Kd.R_below (krA HO107) hb); have n2_ := Aside0.mk (blk_below (g := gb104) (o := .cells #[.string (⟨#[85, 110, 115, 113, 117, 101, 101, 122, 101]⟩ : ByteArray), .slice Ao44 y101.length co44, .string (⟨#[]⟩ : ByteArray), .slice none 0 0] 33 (0, 0)) (bkA BK104) hb); have n3_ := Aside0.mk (blk_below (g := gb108) (o := .cells #[.string (⟨#[85, 110, 115, 113, 117, 101, 101, 122, 101]⟩ : ByteArray), .slice Ao49 y105.length co49, .string (⟨#[]⟩ : ByteArray), .slice none 0 0] 33 (0, 0)) (bkA BK108) hb); have n4_ := Aside0.mk (below_step (hbA HB) hb); clear HO103; clear HO107; clear BK104; clear BK108; clear HB; have HO103 := n0_; have HO107 := n1_; have BK104 := n2_; have BK108 := n3_; have HB := n4_; clear n0_ n1_ n2_ n3_ n4_; (try clear hb); (try clear hb2); (try clear hk); (try clear hi)))
   go_ret
   exact ⟨by first | rfl | (simp [errW_none, errW_some] <;> rfl) | (simp [*, errW_none, errW_some] <;> rfl), hbA HB⟩
 ·
  replace c2 := Bool.eq_false_iff.mpr c2
  subst c2
  have H1 : (some false) = some r := by rw [if_neg (show ¬ (false = true) by decide)] at H; exact H
  clear H
  have H := H1
  clear H1
  obtain rfl := Option.some.inj H
  go_enter Try.func26, Try.ntmps26
  go_wp2_with (first | ((with_reducible refine gate_dst (N := 3) rfl ?_); refine Kd.R_lit Kd.string _ 9 ?hg (N := 3) ?hd (xs := ([(⟨#[120]⟩ : ByteArray)] : List ByteArray)) (inner := [.string (⟨#[120]⟩ : ByteArray)]) (ok := fun _ => True) (okp := fun _ => True) ?hr ?hp (fun _ hk => hk) trivial (Below.refl _ _) (Nat.le_refl _) (by simp) ?_; (case hd => rfl); (case hg => rfl); (case hr => first | (go_simp; done) | (go_simp; rfl)); (case hp => exact (Reps.one (show Kd.M Kd.string _ _ _ (⟨#[120]⟩ : ByteArray) [.string (⟨#[120]⟩ : ByteArray)] from rfl) (Reps.none _ _))); intro v102 w56 ho57 hb hg_ hnew_; clear hg_ hnew_; (first | rw [← Ny101.out] at ho57 | (simp only [Int.reduceToNat] at ho57; rw [← Ny101.out] at ho57)); have n0_ := Aside0.mk (Kd.R_lower ho57 (below_size (hbA HB))); have n1_ := Aside0.mk (below_step (hbA HB) hb); clear HB; have HO103 := n0_; have HB := n1_; clear n0_ n1_; clear hb ho57; obtain ⟨Ao58, co58, eo58⟩ := Kd.R_slice HO103.out; subst eo58) | ((with_reducible refine gate_dst (N := 1) rfl ?_); refine box_event ?hg (N := 1) ?hd (cs := #[.string (⟨#[]⟩ : ByteArray), .slice none 0 0, .string (⟨#[]⟩ : ByteArray), .slice none 0 0]) (t := 33) ?hr ?_; (case hd => rfl); (case hg => rfl); (case hr => first | (go_simp; done) | (go_simp; rfl)); intro gb104 hg w59 hbox hb; have n0_ := Aside0.mk (Kd.R_below (krA HO103) hb); have n1_ := Aside0.mk (below_step (hbA HB) hb); have n2_ := Aside0.mk (hbox); have n3_ := Aside0.mk ((by rw [hg]; exact (below_size (hbA HB)) : w.heap.size ≤ gb104)); have n4_ := Aside0.mk ((by rw [hg]; exact (below_size (hbA HB)) : w.heap.size ≤ gb104)); clear HO103; clear HB; have HO103 := n0_; have HB := n1_; have BK104 := n2_; have GW104 := n3_; have GE104 := n4_; clear n0_ n1_ n2_ n3_ n4_; clear hb hbox hg; have hcz60_0 : w59.cell? ⟨gb104, 0, none⟩ = some (.string (⟨#[]⟩ : ByteArray)) := bcA BK104 0; have hcz60_1 : w59.cell? ⟨gb104, 1, none⟩ = some (.slice none 0 0) := bcA BK104 1; have hcz60_2 : w59.cell? ⟨gb104, 2, none⟩ = some (.string (⟨#[]⟩ : ByteArray)) := bcA BK104 2; have hcz60_3 : w59.cell? ⟨gb104, 3, none⟩ = some (.slice none 0 0) := bcA BK104 3; have hfz60_0 := blk_frozen BK104.out 0; have hfz60_1 := blk_frozen BK104.out 1; have hfz60_2 := blk_frozen BK104.out 2; have hfz60_3 := blk_frozen BK104.out 3) | ((with_reducible refine gate_dst (N := 5) rfl ?_); refine Kd.R_lit Kd.string _ 9 ?hg (N := 5) ?hd (xs := ([(⟨#[120]⟩ : ByteArray), (⟨#[97]⟩ : ByteArray)] : List ByteArray)) (inner := [.string (⟨#[120]⟩ : ByteArray), .string (⟨#[97]⟩ : ByteArray)]) (ok := fun _ => True) (okp := fun _ => True) ?hr ?hp (fun _ hk => hk) trivial (Below.refl _ _) (Nat.le_refl _) (by simp) ?_; (case hd => rfl); (case hg => rfl); (case hr => first | (go_simp; done) | (go_simp; rfl)); (case hp => exact (Reps.one (show Kd.M Kd.string _ _ _ (⟨#[120]⟩ : ByteArray) [.string (⟨#[120]⟩ : ByteArray)] from rfl) (Reps.one (show Kd.M Kd.string _ _ _ (⟨#[97]⟩ : ByteArray) [.string (⟨#[97]⟩ : ByteArray)] from rfl) (Reps.none _ _)))); intro v106 w61 ho62 hb hg_ hnew_; clear hg_ hnew_; (first | rw [← Ny105.out] at ho62 | (simp only [Int.reduceToNat] at ho62; rw [← Ny105.out] at ho62)); have n0_ := Aside0.mk (Kd.R_elder' (by (with_reducible repeat (first | apply Kd.R_alloc | apply Kd.R_drewN | apply Kd.R_drew)); exact (Kd.R_mono (Kd.R_far (p := ⟨gb104, 3, none⟩) (Kd.R_far (p := ⟨gb104, 2, none⟩) (Kd.R_far (p := ⟨gb104, 1, none⟩) (Kd.R_far (p := ⟨gb104, 0, none⟩) (Kd.R_types HO103.out BK104.out (by decide)) (fun _ hk => hk.2) (.string (⟨#[85, 110, 115, 113, 117, 101, 101, 122, 101]⟩ : ByteArray))) (fun _ hk => hk.2) (.slice Ao58 y101.length co58)) (fun _ hk => hk.2) (.string (⟨#[]⟩ : ByteArray))) (fun _ hk => hk.2) (.slice none 0 0)) (fun _ h_ => h_.1))) (Kd.R_base ho62) hb); have n1_ := Aside0.mk (Kd.R_lower (Kd.R_new' ho62 (Kd.R_lt (by (with_reducible repeat (first | apply Kd.R_alloc | apply Kd.R_drewN | apply Kd.R_drew)); exact (Kd.R_mono (Kd.R_far (p := ⟨gb104, 3, none⟩) (Kd.R_far (p := ⟨gb104, 2, none⟩) (Kd.R_far (p := ⟨gb104, 1, none⟩) (Kd.R_far (p := ⟨gb104, 0, none⟩) (Kd.R_types HO103.out BK104.out (by decide)) (fun _ hk => hk.2) (.string (⟨#[85, 110, 115, 113, 117, 101, 101, 122, 101]⟩ : ByteArray))) (fun _ hk => hk.2) (.slice Ao58 y101.length co58)) (fun _ hk => hk.2) (.string (⟨#[]⟩ : ByteArray))) (fun _ hk => hk.2) (.slice none 0 0)) (fun _ h_ => h_.1))))) (below_size (hbA HB))); have n2_ := Aside0.mk (blk_below (g := gb104) (o := .cells #[.string (⟨#[85, 110, 115, 113, 117, 101, 101, 122, 101]⟩ : ByteArray), .slice Ao58 y101.length co58, .string (⟨#[]⟩ : ByteArray), .slice none 0 0] 33 (0, 0)) (by (with_reducible repeat (first | refine blk_drewN ?_ _ | refine blk_drew ?_ | refine blk_alloc ?_ _)); refine blk_put (cs := #[.string (⟨#[85, 110, 115, 113, 117, 101, 101, 122, 101]⟩ : ByteArray), .slice Ao58 y101.length co58, .string (⟨#[]⟩ : ByteArray), .slice none 0 0]) ?_ 3 _ rfl; (with_reducible repeat (first | refine blk_drewN ?_ _ | refine blk_drew ?_ | refine blk_alloc ?_ _)); refine blk_put (cs := #[.string (⟨#[85, 110, 115, 113, 117, 101, 101, 122, 101]⟩ : ByteArray), .slice Ao58 y101.length co58, .string (⟨#[]⟩ : ByteArray), .slice none 0 0]) ?_ 2 _ rfl; (with_reducible repeat (first | refine blk_drewN ?_ _ | refine blk_drew ?_ | refine blk_alloc ?_ _)); refine blk_put (cs := #[.string (⟨#[85, 110, 115, 113, 117, 101, 101, 122, 101]⟩ : ByteArray), .slice none 0 0, .string (⟨#[]⟩ : ByteArray), .slice none 0 0]) ?_ 1 _ rfl; (with_reducible repeat (first | refine blk_drewN ?_ _ | refine blk_drew ?_ | refine blk_alloc ?_ _)); refine blk_put (cs := #[.string (⟨#[]⟩ : ByteArray), .slice none 0 0, .string (⟨#[]⟩ : ByteArray), .slice none 0 0]) ?_ 0 _ rfl; (with_reducible repeat (first | refine blk_drewN ?_ _ | refine blk_drew ?_ | refine blk_alloc ?_ _)); exact BK104.out) hb); have n3_ := Aside0.mk (below_step (hbA HB) hb); clear HO103; clear BK104; clear HB; have HO103 := n0_; have HO107 := n1_; have BK104 := n2_; have HB := n3_; clear n0_ n1_ n2_ n3_; clear hb ho62; obtain ⟨Ao63, co63, eo63⟩ := Kd.R_slice HO107.out; subst eo63) | ((with_reducible refine gate_dst (N := 2) rfl ?_); refine box_event ?hg (N := 2) ?hd (cs := #[.string (⟨#[]⟩ : ByteArray), .slice none 0 0, .string (⟨#[]⟩ : ByteArray), .slice none 0 0]) (t := 33) ?hr ?_; (case hd => rfl); (case hg => rfl); (case hr => first | (go_simp; done) | (go_simp; rfl)); intro gb108 hg w64 hbox hb; have n0_ := Aside0.mk (Kd.R_below (krA HO103) hb); have n1_ := Aside0.mk (Kd.R_below (krA HO107) hb); have n2_ := Aside0.mk (blk_below (g := gb104) (o := .cells #[.string (⟨#[85, 110, 115, 113, 117, 101, 101, 122, 101]⟩ : ByteArray), .slice Ao58 y101.length co58, .string (⟨#[]⟩ : ByteArray), .slice none 0 0] 33 (0, 0)) (bkA BK104) hb); have n3_ := Aside0.mk (below_step (hbA HB) hb); have n4_ := Aside0.mk (hbox); have n5_ := Aside0.mk ((by rw [hg]; exact (below_size (hbA HB)) : w.heap.size ≤ gb108)); have n6_ := Aside0.mk ((by rw [hg]; exact (below_size (hbA HB)) : w.heap.size ≤ gb108)); have n7_ := Aside0.mk ((by rw [hg]; exact Nat.ne_of_lt (blk_lt (g := gb104) (o := .cells #[.string (⟨#[85, 110, 115, 113, 117, 101, 101, 122, 101]⟩ : ByteArray), .slice Ao58 y101.length co58, .string (⟨#[]⟩ : ByteArray), .slice none 0 0] 33 (0, 0)) (bkA BK104)) : gb104 ≠ gb108)); have n8_ := Aside0.mk ((by rw [hg]; exact Nat.ne_of_gt (blk_lt (g := gb104) (o := .cells #[.string (⟨#[85, 110, 115, 113, 117, 101, 101, 122, 101]⟩ : ByteArray), .slice Ao58 y101.length co58, .string (⟨#[]⟩ : ByteArray), .slice none 0 0] 33 (0, 0)) (bkA BK104)) : gb108 ≠ gb104)); clear HO103; clear HO107; clear BK104; clear HB; have HO103 := n0_; have HO107 := n1_; have BK104 := n2_; have HB := n3_; have BK108 := n4_; have GW108 := n5_; have GE108 := n6_; have NB104_108 := n7_; have NB108_104 := n8_; clear n0_ n1_ n2_ n3_ n4_ n5_ n6_ n7_ n8_; clear hb hbox hg; have hnb65 := NB108_104.out; have hnc65 := NB104_108.out; have hcz66_0 : w64.cell? ⟨gb108, 0, none⟩ = some (.string (⟨#[]⟩ : ByteArray)) := bcA BK108 0; have hcz66_1 : w64.cell? ⟨gb108, 1, none⟩ = some (.slice none 0 0) := bcA BK108 1; have hcz66_2 : w64.cell? ⟨gb108, 2, none⟩ = some (.string (⟨#[]⟩ : ByteArray)) := bcA BK108 2; have hcz66_3 : w64.cell? ⟨gb108, 3, none⟩ = some (.slice none 0 0) := bcA BK108 3; have hfz66_0 := blk_frozen BK108.out 0; have hfz66_1 := blk_frozen BK108.out 1; have hfz66_2 := blk_frozen BK108.out 2; have hfz66_3 := blk_frozen BK108.out 3) | ((with_reducible refine gate_callee (f := 8) rfl ?_); refine goesL_ (some 7) rfl rfl Try.func8 (by kernel_rfl) rfl #[] rfl (by (try simp only [List.map_toArray, List.map_cons, List.map_nil]); first | done | rfl | (simp only [List.length_drop, List.length_take]; rfl)) ?_; (with_reducible refine (agatelaw10_Awake.calls  false _ A1.out).mono ?_); rintro e w67 ⟨rfl, hb⟩; refine ⟨_, rfl, ?_⟩; have n0_ := Aside0.mk (Kd.R_below (by (with_reducible repeat (first | apply Kd.R_alloc | apply Kd.R_drewN | apply Kd.R_drew)); exact (Kd.R_mono (Kd.R_far (p := ⟨gb108, 3, none⟩) (Kd.R_far (p := ⟨gb108, 2, none⟩) (Kd.R_far (p := ⟨gb108, 1, none⟩) (Kd.R_far (p := ⟨gb108, 0, none⟩) (Kd.R_types HO103.out BK108.out (by decide)) (fun _ hk => hk.2) (.string (⟨#[85, 110, 115, 113, 117, 101, 101, 122, 101]⟩ : ByteArray))) (fun _ hk => hk.2) (.slice Ao63 y105.length co63)) (fun _ hk => hk.2) (.string (⟨#[]⟩ : ByteArray))) (fun _ hk => hk.2) (.slice none 0 0)) (fun _ h_ => h_.1))) hb); have n1_ := Aside0.mk (Kd.R_below (by (with_reducible repeat (first | apply Kd.R_alloc | apply Kd.R_drewN | apply Kd.R_drew)); exact (Kd.R_mono (Kd.R_far (p := ⟨gb108, 3, none⟩) (Kd.R_far (p := ⟨gb108, 2, none⟩) (Kd.R_far (p := ⟨gb108, 1, none⟩) (Kd.R_far (p := ⟨gb108, 0, none⟩) (Kd.R_types HO107.out BK108.out (by decide)) (fun _ hk => hk.2) (.string (⟨#[85, 110, 115, 113, 117, 101, 101, 122, 101]⟩ : ByteArray))) (fun _ hk => hk.2) (.slice Ao63 y105.length co63)) (fun _ hk => hk.2) (.string (⟨#[]⟩ : ByteArray))) (fun _ hk => hk.2) (.slice none 0 0)) (fun _ h_ => h_.1))) hb); have n2_ := Aside0.mk (blk_below (g := gb104) (o := .cells #[.string (⟨#[85, 110, 115, 113, 117, 101, 101, 122, 101]⟩ : ByteArray), .slice Ao58 y101.length co58, .string (⟨#[]⟩ : ByteArray), .slice none 0 0] 33 (0, 0)) (by (with_reducible repeat (first | refine blk_drewN ?_ _ | refine blk_drew ?_ | refine blk_alloc ?_ _)); refine blk_far ?_ NB104_108.out _; (with_reducible repeat (first | refine blk_drewN ?_ _ | refine blk_drew ?_ | refine blk_alloc ?_ _)); refine blk_far ?_ NB104_108.out _; (with_reducible repeat (first | refine blk_drewN ?_ _ | refine blk_drew ?_ | refine blk_alloc ?_ _)); refine blk_far ?_ NB104_108.out _; (with_reducible repeat (first | refine blk_drewN ?_ _ | refine blk_drew ?_ | refine blk_alloc ?_ _)); refine blk_far ?_ NB104_108.out _; (with_reducible repeat (first | refine blk_drewN ?_ _ | refine blk_drew ?_ | refine blk_alloc ?_ _)); exact BK104.out) hb); have n3_ := Aside0.mk (blk_below (g := gb108) (o := .cells #[.string (⟨#[85, 110, 115, 113, 117, 101, 101, 122, 101]⟩ : ByteArray), .slice Ao63 y105.length co63, .string (⟨#[]⟩ : ByteArray), .slice none 0 0] 33 (0, 0)) (by (with_reducible repeat (first | refine blk_drewN ?_ _ | refine blk_drew ?_ | refine blk_alloc ?_ _)); refine blk_put (cs := #[.string (⟨#[85, 110, 115, 113, 117, 101, 101, 122, 101]⟩ : ByteArray), .slice Ao63 y105.length co63, .string (⟨#[]⟩ : ByteArray), .slice none 0 0]) ?_ 3 _ rfl; (with_reducible repeat (first | refine blk_drewN ?_ _ | refine blk_drew ?_ | refine blk_alloc ?_ _)); refine blk_put (cs := #[.string (⟨#[85, 110, 115, 113, 117, 101, 101, 122, 101]⟩ : ByteArray), .slice Ao63 y105.length co63, .string (⟨#[]⟩ : ByteArray), .slice none 0 0]) ?_ 2 _ rfl; (with_reducible repeat (first | refine blk_drewN ?_ _ | refine blk_drew ?_ | refine blk_alloc ?_ _)); refine blk_put (cs := #[.string (⟨#[85, 110, 115, 113, 117, 101, 101, 122, 101]⟩ : ByteArray), .slice none 0 0, .string (⟨#[]⟩ : ByteArray), .slice none 0 0]) ?_ 1 _ rfl; (with_reducible repeat (first | refine blk_drewN ?_ _ | refine blk_drew ?_ | refine blk_alloc ?_ _)); refine blk_put (cs := #[.string (⟨#[]⟩ : ByteArray), .slice none 0 0, .string (⟨#[]⟩ : ByteArray), .slice none 0 0]) ?_ 0 _ rfl; (with_reducible repeat (first | refine blk_drewN ?_ _ | refine blk_drew ?_ | refine blk_alloc ?_ _)); exact BK108.out) hb); have n4_ := Aside0.mk (below_step (hbA HB) hb); clear HO103; clear HO107; clear BK104; clear BK108; clear HB; have HO103 := n0_; have HO107 := n1_; have BK104 := n2_; have BK108 := n3_; have HB := n4_; clear n0_ n1_ n2_ n3_ n4_; (try clear hb); (try clear hb2); (try clear hk); (try clear hi)))
  go_ret
  exact ⟨by first | rfl | (simp [errW_none, errW_some] <;> rfl) | (simp [*, errW_none, errW_some] <;> rfl), hbA HB⟩
end Go.Proofs.Ytdemgfbolcmcdaa.X
