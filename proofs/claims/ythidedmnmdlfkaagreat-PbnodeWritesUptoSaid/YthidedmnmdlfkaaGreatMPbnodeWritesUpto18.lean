import Derived.Test.YthidedmnmdlfkaaGreatMPbnodeWritesUpto2
import Derived.WalkLawsBesides
import Derived.MapKept
import Derived.Test.YthidedmnmdlfkaaGreatMPbnodeWritesUpto17
import Derived.Test.YthidedmnmdlfkaaGreatMPbnodeWritesUpto9
import Derived.Test.YthidedmnmdlfkaaGreatMPbnodeWritesUpto4
import Derived.Test.YthidedmnmdlfkaaGreatMPbnodeWritesUpto3
import Derived.Test.YthidedmnmdlfkaaGreatMPbnodeWritesUpto7
import Derived.Test.YthidedmnmdlfkaaGreatMPbnodeWritesUpto5
namespace Go.Proofs.YthidedmnmdlfkaaGreat.X
open Go.RowKit Go.Proofs.YthidedmnmdlfkaaGreatW.PrintWords Go.Proofs.YthidedmnmdlfkaaGreatW.PrintLast Go.Proofs.YthidedmnmdlfkaaGreatW.PrintMore
attribute [local go_sem] max2_int min2_int max_two min_two max_three min_three max_four min_four
set_option linter.unusedVariables false
set_option linter.unusedSimpArgs false
instance lawfulBytes : LawfulBEq ByteArray where
  eq_of_beq h := (MapKept.bytes_beq _ _).1 h
  rfl := (MapKept.bytes_beq _ _).2 rfl
def metL : List ByteArray → Nat → List MapEntry
  | [], _ => []
  | x :: t, i => { key := .string x, val := .int .i64 1, born := i } :: metL t (i + 1)
def metE (l : List ByteArray) : Array MapEntry := (metL l 0).toArray
theorem metL_append (x : ByteArray) : ∀ (l : List ByteArray) (i : Nat), metL (l ++ [x]) i = metL l i ++ [{ key := .string x, val := .int .i64 1, born := i + l.length }]
  | [], i => rfl
  | y :: t, i => by
    rw [List.cons_append, metL, metL_append x t (i + 1), metL, List.cons_append, List.length_cons]
    congr 4; omega
theorem metE_push (l : List ByteArray) (x : ByteArray) : (metE l).push { key := .string x, val := .int .i64 1, born := l.length } = metE (l ++ [x]) := by
  unfold metE
  rw [metL_append, List.push_toArray, Nat.zero_add]
theorem same_str (a b : ByteArray) : Instr.sameNow .string (.string a) (.string b) = some (a == b) := by simp [Instr.sameNow]
theorem self_beq (a : ByteArray) : (a == a) = true := (MapKept.bytes_beq a a).2 rfl
theorem find_met (nm : ByteArray) : ∀ (l : List ByteArray) (i j : Nat),
    (nm ∉ l → Instr.findNow .string (.string nm) (metL l i) j = some none) ∧ (nm ∈ l → ∃ q, Instr.findNow .string (.string nm) (metL l i) j = some (some (j + q, .int .i64 1)) ∧ (metL l i)[q]?.map (·.key) = some (.string nm))
  | [], i, j => ⟨fun _ => rfl, fun h => by cases h⟩
  | x :: t, i, j => by
    obtain ⟨h1, h2⟩ := find_met nm t (i + 1) (j + 1)
    by_cases hx : nm = x
    · subst hx
      refine ⟨fun h => absurd (List.mem_cons_self ..) h, fun _ => ⟨0, ?_, rfl⟩⟩
      rw [metL]
      simp only [Instr.findNow, same_str, self_beq]
      rfl
    · have hb : (nm == x) = false := by
        cases hq : (nm == x) with
        | false => rfl
        | true => exact absurd ((MapKept.bytes_beq nm x).1 hq) hx
      refine ⟨fun h => ?_, fun h => ?_⟩
      · rw [metL]
        simp only [Instr.findNow, same_str, hb]
        exact h1 (fun hm => h (List.mem_cons_of_mem _ hm))
      · rcases List.mem_cons.1 h with h | h
        · exact absurd h hx
        · obtain ⟨q, hq1, hq2⟩ := h2 h
          refine ⟨q + 1, ?_, hq2⟩
          rw [metL]
          simp only [Instr.findNow, same_str, hb]
          rw [hq1]; congr 3; omega
set_option maxRecDepth 100000 in
theorem lookup_met {W : World} {r c : Nat} (met : List ByteArray) (nm : ByteArray) (hb : W.heap[r]? = some (.map (metE met) c)) : (Instr.lookup 82 (.map (some r)) (.string nm) false).run Tryz.prog W = .ok (.int .i64 (if nm ∈ met then 1 else 0)) W := by
  have hk : MapKept.IsKey .string (.string nm) := by simp [MapKept.IsKey]
  have hd : Tryz.prog.underlying 9 = some .string := Tryz.underlying9
  have hz : (zeroValue 3).run Tryz.prog W = .ok (.int .i64 0) W := rfl
  obtain ⟨h1, h2⟩ := find_met nm met 0 0
  by_cases hm : nm ∈ met
  · obtain ⟨q, hq, _⟩ := h2 hm
    have hf : Instr.findNow .string (.string nm) (metE met).toList 0 = some (some (0 + q, .int .i64 1)) := hq
    rw [if_pos hm]
    simp [Instr.lookup, run_underlying Tryz.underlying82, MapKept.run_getObj_map hb, MapKept.run_checkKey hd hk, MapKept.run_findKey hd hf, Result.andThen]
  · have hf : Instr.findNow .string (.string nm) (metE met).toList 0 = some none := h1 hm
    rw [if_neg hm]
    simp [Instr.lookup, run_underlying Tryz.underlying82, MapKept.run_getObj_map hb, MapKept.run_checkKey hd hk, MapKept.run_findKey hd hf, Result.andThen, hz]
theorem below_setObj2 {w W : World} {r : Nat} {o : Obj} (h : Below w.heap.size w W) (hr : w.heap.size ≤ r) : Below w.heap.size w { W with heap := W.heap.setIfInBounds r o } :=
  ⟨h.os, h.tape, h.output, by show _ ≤ (W.heap.setIfInBounds r o).size; rw [Array.size_setIfInBounds]; exact h.size, fun i hi => by
    show (W.heap.setIfInBounds r o)[i]? = _
    rw [Array.getElem?_setIfInBounds_ne (by omega)]; exact h.block i hi⟩
theorem update_new {w W : World} {r : Nat} (met : List ByteArray) (nm : ByteArray) (hn : nm ∉ met) (hb : W.heap[r]? = some (.map (metE met) met.length)) (hr : w.heap.size ≤ r) (hB : Below w.heap.size w W) :
    ∃ W2, (Instr.mapUpdate 82 (.map (some r)) (.string nm) (.int .i64 1)).run Tryz.prog W = .ok () W2 ∧ W2.heap[r]? = some (.map (metE (met ++ [nm])) (met ++ [nm]).length) ∧ Below w.heap.size w W2 ∧ ∀ g, g ≠ r → W2.heap[g]? = W.heap[g]? := by
  have hk : MapKept.IsKey .string (.string nm) := by simp [MapKept.IsKey]
  have hd : Tryz.prog.underlying 9 = some .string := Tryz.underlying9
  have hf : Instr.findNow .string (.string nm) (metE met).toList 0 = some none := (find_met nm met 0 0).1 hn
  have hp := metE_push met nm
  have h2 := MapKept.heap_set (o' := .map (metE (met ++ [nm])) (met.length + 1)) hb
  refine ⟨{ W with heap := W.heap.setIfInBounds r (.map (metE (met ++ [nm])) (met.length + 1)) }, ?_, by rw [List.length_append]; exact h2.1, below_setObj2 hB hr, h2.2⟩
  simp [Instr.mapUpdate, run_underlying Tryz.underlying82, MapKept.run_getObj_map hb, MapKept.run_checkKey hd hk, MapKept.run_findKey hd hf, MapKept.run_setObj_map _ hb, Result.andThen, hp]
structure NodeMsg (b : ByteArray) (outv : ByteArray) (ins ats : List ByteArray) (op dom : Option S75) (al : List S65) : Prop where
  size : b.size ≤ 140737488351232
  code : (fieldsS b).2 = 0
  len : (fieldsS b).1.length ≤ 3518437208883
  t2 : textsL ((((fieldsS b).1.map toP).filter fun x => x.f0 == 2).map flP) [] = ([outv], 0)
  t5 : textsL ((((fieldsS b).1.map toP).filter fun x => x.f0 == 5).map flP) [] = (ats, 0)
  t1 : textsL ((((fieldsS b).1.map toP).filter fun x => x.f0 == 1).map flP) [] = (ins, 0)
  o4 : (((fieldsS b).1.map toP).filter fun x => x.f0 == 4).getLast? = op
  o4t : ∀ y, op = some y → y.f1 = 2
  o7 : (((fieldsS b).1.map toP).filter fun x => x.f0 == 7).getLast? = dom
  o7t : ∀ y, dom = some y → y.f1 = 2
  dm : (lastTup dom).2.2.2.1 = ⟨#[]⟩
  il : ins.length ≤ 64
  atl : ats.length ≤ 1000000
  as_ : al.length = ats.length
  each : ∀ (j : Nat) (hj : j < ats.length) (hj2 : j < al.length), ∃ n i k row, AttrMsg ats[j] n i k row ∧ attrOf n i k row = al[j]
  di : ∀ (j : Nat) (hj : j < al.length), al[j].f0 ∉ (al.map (fun x => x.f0)).take j
set_option maxHeartbeats 4000000 in
set_option maxRecDepth 100000 in
theorem pbReadNode.calls (b : ByteArray) (outv : ByteArray) (ins ats : List ByteArray) (op dom : Option S75) (al : List S65) (h : NodeMsg b outv ins ats op dom al) (w : World) :
    Calls Tryz.prog 14 #[.string b] w fun en w' => ∃ A1 c1 A3 c3, en = .returned (.tuple #[.agg #[.string (lastTup op).2.2.2.1, .slice A1 ins.length c1, .string outv, .slice A3 al.length c3], .int .i64 0]) ∧ Kd.V Kd.string 9 w' w.heap.size (fun k_ => w.heap.size ≤ k_) (.slice A1 ins.length c1) ins ∧ Kd.V k65 65 w' w.heap.size (fun k_ => w.heap.size ≤ k_) (.slice A3 al.length c3) al ∧ Below w.heap.size w w' := by
  have hu := Tryz.underlying81
  have hu2 := Tryz.underlying75
  have hu3 := Tryz.underlying65
  have hu4 := Tryz.underlying25
  obtain ⟨h1, h2, h3, h4, h5, h6, h7, h8, h9, ha, hb, hc, hd, he, hf, hg⟩ := h
  have HO := Aside0.mk (msgOpen.calls b h1 h2)
  have HL := Aside0.mk (show ((fieldsS b).1.map toP).length ≤ 3518437208883 by rw [List.length_map]; exact h3)
  generalize (fieldsS b).1.map toP = L at HO HL h4 h5 h6 h7 h9
  have HT2 := Aside0.mk h4
  have HT5 := Aside0.mk h5
  have HT1 := Aside0.mk h6
  have HO4 := Aside0.mk h7
  have HO4t := Aside0.mk h8
  have HO7 := Aside0.mk h9
  have HO7t := Aside0.mk ha
  have HDM := Aside0.mk hb
  have HIL := Aside0.mk hc
  have HAL := Aside0.mk hd
  have HAS := Aside0.mk he
  have HEA := Aside0.mk hf
  have HDI := Aside0.mk hg
  clear h1 h2 h3 h4 h5 h6 h7 h8 h9 ha hb hc hd he hf hg
  have HB := Aside0.mk (below_alloc (Below.refl w.heap.size w) (Obj.cells #[.string ⟨#[]⟩, .slice none 0 0, .string ⟨#[]⟩, .slice none 0 0] 25))
  have BK0 := Aside0.mk (blk_new w (Obj.cells #[.string ⟨#[]⟩, .slice none 0 0, .string ⟨#[]⟩, .slice none 0 0] 25))
  go_enter Tryz.func14, Tryz.ntmps14
  go_wp2_with (first | (fail))
  generalize w.alloc (Obj.cells #[.string ⟨#[]⟩, .slice none 0 0, .string ⟨#[]⟩, .slice none 0 0] 25) = w0 at HB BK0 ⊢
  have HG := Aside0.mk (show w.heap.size < w0.heap.size from blk_lt BK0.out)
  refine (HO.out w0).mono ?_
  rintro en u ⟨g, rfl, hM, hB⟩
  have n0_ := Aside0.mk (below_step HB.out hB)
  have n1_ := Aside0.mk (blk_below BK0.out hB)
  clear HB BK0
  have HB := n0_
  have BK0 := n1_
  clear n0_ n1_
  have HM := Aside0.mk hM
  have n0_ := Aside0.mk (Nat.lt_of_lt_of_le HG.out hB.size)
  clear hM hB HO HG
  have HG := n0_
  clear n0_
  go_wp2_with (first | (fail))
  refine (msgTexts.calls g L 2 [outv] _ HM.out HL.out HT2.out).mono ?_
  rintro en u ⟨Ao, co, rfl, hR, hB⟩
  have n0_ := Aside0.mk (below_step HB.out hB)
  have n1_ := Aside0.mk (blk_below BK0.out hB)
  have n2_ := Aside0.mk (HM.out.below hB)
  clear HB BK0 HM
  have HB := n0_
  have BK0 := n1_
  have HM := n2_
  clear n0_ n1_ n2_
  rw [show [outv].length = 1 from rfl]
  have HCo := Aside0.mk (Kd.R_reads' hR).2.2
  have n0_ := Aside0.mk (Nat.lt_of_lt_of_le HG.out hB.size)
  clear hR hB HG
  have HG := n0_
  clear n0_
  go_wp2_with (first | (fail))
  refine (msgTexts.calls g L 5 ats _ HM.out HL.out HT5.out).mono ?_
  rintro en u ⟨At, ct, rfl, hR, hB⟩
  have n0_ := Aside0.mk (below_step HB.out hB)
  have n1_ := Aside0.mk (blk_below BK0.out hB)
  have n2_ := Aside0.mk (HM.out.below hB)
  have n3_ := Aside0.mk (Kd.C_below HCo.out hB)
  clear HB BK0 HM HCo
  have HB := n0_
  have BK0 := n1_
  have HM := n2_
  have HCo := n3_
  clear n0_ n1_ n2_ n3_
  have HFt := Aside0.mk (Kd.R_F (Kd.R_mono (ok' := fun k_ => w.heap.size < k_) (Kd.R_bound hR) (fun k_ hk => Nat.lt_of_lt_of_le HG.out hk.2.1)))
  have HFtl := Aside0.mk (Kd.R_reads' hR).2.1
  have n0_ := Aside0.mk (Nat.lt_of_lt_of_le HG.out hB.size)
  clear hR hB HG
  have HG := n0_
  clear n0_
  go_wp2_with (first | (fail))
  refine (msgTexts.calls g L 1 ins _ HM.out HL.out HT1.out).mono ?_
  rintro en u ⟨Ai, ci, rfl, hR, hB⟩
  have n0_ := Aside0.mk (below_step HB.out hB)
  have n1_ := Aside0.mk (blk_below BK0.out hB)
  have n2_ := Aside0.mk (HM.out.below hB)
  have n3_ := Aside0.mk (Kd.C_below HCo.out hB)
  have n4_ := Aside0.mk (F_below HFt.out hB)
  clear HB BK0 HM HCo HFt
  have HB := n0_
  have BK0 := n1_
  have HM := n2_
  have HCo := n3_
  have HFt := n4_
  clear n0_ n1_ n2_ n3_ n4_
  have HFi := Aside0.mk (Kd.R_F (Kd.R_mono (ok' := fun k_ => w.heap.size < k_) (Kd.R_bound hR) (fun k_ hk => Nat.lt_of_lt_of_le HG.out hk.2.1)))
  have HFil := Aside0.mk (Kd.R_reads' hR).2.1
  have n0_ := Aside0.mk (Nat.lt_of_lt_of_le HG.out hB.size)
  clear hR hB HG
  have HG := n0_
  clear n0_
  go_wp2_with (first | (fail))
  have hil2 : decide (64 < (ins.length : Int)) = false := decide_eq_false (by have := HIL.out; omega)
  refine (msgLast.calls g L 4 2 op _ HM.out HL.out HO4.out HO4t.out).mono ?_
  rintro en u2 ⟨rfl, hB⟩
  have n0_ := Aside0.mk (below_step HB.out hB)
  have n1_ := Aside0.mk (blk_below BK0.out hB)
  have n2_ := Aside0.mk (HM.out.below hB)
  have n3_ := Aside0.mk (Kd.C_below HCo.out hB)
  have n4_ := Aside0.mk (F_below HFt.out hB)
  have n5_ := Aside0.mk (F_below HFi.out hB)
  clear HB BK0 HM HCo HFt HFi
  have HB := n0_
  have BK0 := n1_
  have HM := n2_
  have HCo := n3_
  have HFt := n4_
  have HFi := n5_
  clear n0_ n1_ n2_ n3_ n4_ n5_
  clear hB HG
  have n0_ := Aside0.mk (below_step HB.out (below_alloc (Below.refl u2.heap.size u2) (Obj.cells #[.int .i64 (lastTup op).1, .int .i64 (lastTup op).2.1, .int .u64 (lastTup op).2.2.1, .string (lastTup op).2.2.2.1] 75)))
  have n1_ := Aside0.mk (blk_below BK0.out (below_alloc (Below.refl u2.heap.size u2) (Obj.cells #[.int .i64 (lastTup op).1, .int .i64 (lastTup op).2.1, .int .u64 (lastTup op).2.2.1, .string (lastTup op).2.2.2.1] 75)))
  have n2_ := Aside0.mk (HM.out.below (below_alloc (Below.refl u2.heap.size u2) (Obj.cells #[.int .i64 (lastTup op).1, .int .i64 (lastTup op).2.1, .int .u64 (lastTup op).2.2.1, .string (lastTup op).2.2.2.1] 75)))
  have n3_ := Aside0.mk (Kd.C_below HCo.out (below_alloc (Below.refl u2.heap.size u2) (Obj.cells #[.int .i64 (lastTup op).1, .int .i64 (lastTup op).2.1, .int .u64 (lastTup op).2.2.1, .string (lastTup op).2.2.2.1] 75)))
  have n4_ := Aside0.mk (F_below HFt.out (below_alloc (Below.refl u2.heap.size u2) (Obj.cells #[.int .i64 (lastTup op).1, .int .i64 (lastTup op).2.1, .int .u64 (lastTup op).2.2.1, .string (lastTup op).2.2.2.1] 75)))
  have n5_ := Aside0.mk (F_below HFi.out (below_alloc (Below.refl u2.heap.size u2) (Obj.cells #[.int .i64 (lastTup op).1, .int .i64 (lastTup op).2.1, .int .u64 (lastTup op).2.2.1, .string (lastTup op).2.2.2.1] 75)))
  clear HB BK0 HM HCo HFt HFi
  have HB := n0_
  have BK0 := n1_
  have HM := n2_
  have HCo := n3_
  have HFt := n4_
  have HFi := n5_
  clear n0_ n1_ n2_ n3_ n4_ n5_
  have BK8 := Aside0.mk (blk_new u2 (Obj.cells #[.int .i64 (lastTup op).1, .int .i64 (lastTup op).2.1, .int .u64 (lastTup op).2.2.1, .string (lastTup op).2.2.2.1] 75))
  have HG := Aside0.mk (show w.heap.size < (u2.alloc (Obj.cells #[.int .i64 (lastTup op).1, .int .i64 (lastTup op).2.1, .int .u64 (lastTup op).2.2.1, .string (lastTup op).2.2.2.1] 75)).heap.size from Nat.lt_of_lt_of_le (blk_lt BK0.out) (Nat.le_refl _))
  go_wp2_with (first | (fail))
  generalize u2.alloc (Obj.cells #[.int .i64 (lastTup op).1, .int .i64 (lastTup op).2.1, .int .u64 (lastTup op).2.2.1, .string (lastTup op).2.2.2.1] 75) = u at HG HB BK0 HM HCo HFt HFi BK8 ⊢
  generalize u2.heap.size = g8 at BK8 ⊢
  refine (msgLast.calls g L 7 2 dom _ HM.out HL.out HO7.out HO7t.out).mono ?_
  rintro en u2 ⟨rfl, hB⟩
  have n0_ := Aside0.mk (below_step HB.out hB)
  have n1_ := Aside0.mk (blk_below BK0.out hB)
  have n2_ := Aside0.mk (HM.out.below hB)
  have n3_ := Aside0.mk (Kd.C_below HCo.out hB)
  have n4_ := Aside0.mk (F_below HFt.out hB)
  have n5_ := Aside0.mk (F_below HFi.out hB)
  have n6_ := Aside0.mk (blk_below BK8.out hB)
  clear HB BK0 HM HCo HFt HFi BK8
  have HB := n0_
  have BK0 := n1_
  have HM := n2_
  have HCo := n3_
  have HFt := n4_
  have HFi := n5_
  have BK8 := n6_
  clear n0_ n1_ n2_ n3_ n4_ n5_ n6_
  clear hB HG
  have n0_ := Aside0.mk (below_step HB.out (below_alloc (Below.refl u2.heap.size u2) (Obj.cells #[.int .i64 (lastTup dom).1, .int .i64 (lastTup dom).2.1, .int .u64 (lastTup dom).2.2.1, .string (lastTup dom).2.2.2.1] 75)))
  have n1_ := Aside0.mk (blk_below BK0.out (below_alloc (Below.refl u2.heap.size u2) (Obj.cells #[.int .i64 (lastTup dom).1, .int .i64 (lastTup dom).2.1, .int .u64 (lastTup dom).2.2.1, .string (lastTup dom).2.2.2.1] 75)))
  have n2_ := Aside0.mk (HM.out.below (below_alloc (Below.refl u2.heap.size u2) (Obj.cells #[.int .i64 (lastTup dom).1, .int .i64 (lastTup dom).2.1, .int .u64 (lastTup dom).2.2.1, .string (lastTup dom).2.2.2.1] 75)))
  have n3_ := Aside0.mk (Kd.C_below HCo.out (below_alloc (Below.refl u2.heap.size u2) (Obj.cells #[.int .i64 (lastTup dom).1, .int .i64 (lastTup dom).2.1, .int .u64 (lastTup dom).2.2.1, .string (lastTup dom).2.2.2.1] 75)))
  have n4_ := Aside0.mk (F_below HFt.out (below_alloc (Below.refl u2.heap.size u2) (Obj.cells #[.int .i64 (lastTup dom).1, .int .i64 (lastTup dom).2.1, .int .u64 (lastTup dom).2.2.1, .string (lastTup dom).2.2.2.1] 75)))
  have n5_ := Aside0.mk (F_below HFi.out (below_alloc (Below.refl u2.heap.size u2) (Obj.cells #[.int .i64 (lastTup dom).1, .int .i64 (lastTup dom).2.1, .int .u64 (lastTup dom).2.2.1, .string (lastTup dom).2.2.2.1] 75)))
  have n6_ := Aside0.mk (blk_below BK8.out (below_alloc (Below.refl u2.heap.size u2) (Obj.cells #[.int .i64 (lastTup dom).1, .int .i64 (lastTup dom).2.1, .int .u64 (lastTup dom).2.2.1, .string (lastTup dom).2.2.2.1] 75)))
  clear HB BK0 HM HCo HFt HFi BK8
  have HB := n0_
  have BK0 := n1_
  have HM := n2_
  have HCo := n3_
  have HFt := n4_
  have HFi := n5_
  have BK8 := n6_
  clear n0_ n1_ n2_ n3_ n4_ n5_ n6_
  have BK10 := Aside0.mk (blk_new u2 (Obj.cells #[.int .i64 (lastTup dom).1, .int .i64 (lastTup dom).2.1, .int .u64 (lastTup dom).2.2.1, .string (lastTup dom).2.2.2.1] 75))
  have HG := Aside0.mk (show w.heap.size < (u2.alloc (Obj.cells #[.int .i64 (lastTup dom).1, .int .i64 (lastTup dom).2.1, .int .u64 (lastTup dom).2.2.1, .string (lastTup dom).2.2.2.1] 75)).heap.size from Nat.lt_of_lt_of_le (blk_lt BK0.out) (Nat.le_refl _))
  go_wp2_with (first | (fail))
  generalize u2.alloc (Obj.cells #[.int .i64 (lastTup dom).1, .int .i64 (lastTup dom).2.1, .int .u64 (lastTup dom).2.2.1, .string (lastTup dom).2.2.2.1] 75) = u at HG HB BK0 HM HCo HFt HFi BK8 BK10 ⊢
  generalize u2.heap.size = g10 at BK10 ⊢
  refine (msgWrong.calls g 11 _).mono ?_
  rintro en u ⟨rfl, rfl⟩
  clear hil2
  rw [HDM.out] at BK10
  have c103 : u.cell? ⟨g10, 3, none⟩ = some (.string ⟨#[]⟩) := blk_cell BK10.out 3
  go_wp2_with (first | (fail))
  refine (msgWrong.calls g 10 _).mono ?_
  rintro en u ⟨rfl, rfl⟩
  clear c103
  obtain ⟨Am, cm, -, hbm, -⟩ := HM.out
  have BKm := Aside0.mk hbm
  clear hbm HM
  have cm1 : u.cell? ⟨g, 1, none⟩ = some (.int .i64 0) := blk_cell BKm.out 1
  have c83 : u.cell? ⟨g8, 3, none⟩ = some (.string (lastTup op).2.2.2.1) := blk_cell BK8.out 3
  obtain ⟨ado, eo, hxo⟩ := Kd.at_string HCo.out 0 (by decide) (show (0 : Int) < ((1 : Nat) : Int) by decide)
  cases eo
  replace hxo : u.cell? ado = some (.string outv) := hxo
  go_wp2_with (first | (fail))
  clear cm1
  go_region_held3 (fun w' => w'.cell? ⟨g8, 3, none⟩ = some (.string (lastTup op).2.2.2.1) ∧ w'.cell? ado = some (.string outv)) (first | assumption | go_keep) (first | (fail))
  clear c83 hxo HG
  have n0_ := Aside0.mk (Kd.F_mono (ok' := fun k_ => w.heap.size < k_ ∧ k_ < u.heap.size) (Kd.F_bound HFt.out) (fun _ hk => hk))
  have n1_ := Aside0.mk (Kd.F_mono (ok' := fun k_ => w.heap.size < k_ ∧ k_ < u.heap.size) (Kd.F_bound HFi.out) (fun _ hk => hk))
  have n2_ := Aside0.mk (blk_lt BKm.out)
  have n3_ := Aside0.mk (blk_lt BK0.out)
  clear HFt HFi
  have HFt := n0_; have HFi := n1_; have HLm := n2_; have HL0 := n3_
  clear n0_ n1_ n2_ n3_ HCo BK8 BK10
  have n0_ := Aside0.mk (below_step HB.out ((below_alloc (Below.refl u.heap.size u) (Obj.cells #[.string (lastTup op).2.2.2.1, .slice Ai ins.length ci, .string outv, .slice none 0 0] 25)).drew))
  have n1_ := Aside0.mk (blk_below BK0.out ((below_alloc (Below.refl u.heap.size u) (Obj.cells #[.string (lastTup op).2.2.2.1, .slice Ai ins.length ci, .string outv, .slice none 0 0] 25)).drew))
  have n2_ := Aside0.mk (F_below HFt.out ((below_alloc (Below.refl u.heap.size u) (Obj.cells #[.string (lastTup op).2.2.2.1, .slice Ai ins.length ci, .string outv, .slice none 0 0] 25)).drew))
  have n3_ := Aside0.mk (F_below HFi.out ((below_alloc (Below.refl u.heap.size u) (Obj.cells #[.string (lastTup op).2.2.2.1, .slice Ai ins.length ci, .string outv, .slice none 0 0] 25)).drew))
  have n4_ := Aside0.mk (blk_below BKm.out ((below_alloc (Below.refl u.heap.size u) (Obj.cells #[.string (lastTup op).2.2.2.1, .slice Ai ins.length ci, .string outv, .slice none 0 0] 25)).drew))
  clear HB BK0 HFt HFi BKm
  have HB := n0_
  have BK0 := n1_
  have HFt := n2_
  have HFi := n3_
  have BKm := n4_
  clear n0_ n1_ n2_ n3_ n4_
  have BKn := Aside0.mk (show ((u.alloc (Obj.cells #[.string (lastTup op).2.2.2.1, .slice Ai ins.length ci, .string outv, .slice none 0 0] 25)).drew).heap[u.heap.size]? = some (Obj.cells #[.string (lastTup op).2.2.2.1, .slice Ai ins.length ci, .string outv, .slice none 0 0] 25) from blk_new u (Obj.cells #[.string (lastTup op).2.2.2.1, .slice Ai ins.length ci, .string outv, .slice none 0 0] 25))
  generalize (u.alloc (Obj.cells #[.string (lastTup op).2.2.2.1, .slice Ai ins.length ci, .string outv, .slice none 0 0] 25)).drew = u2 at HB BK0 HFt HFi BKm BKn ⊢
  generalize u.heap.size = gn at BKn HFt HFi HLm HL0 ⊢
  have fm : ∀ W : World, (Instr.makeMap 82 none).run Tryz.prog W = .ok (.map (some W.heap.size)) (W.alloc (.map #[] 0)) := fun W => rfl
  have HLn := Aside0.mk (blk_lt BKn.out)
  have n0_ := Aside0.mk (below_step HB.out (below_alloc (Below.refl u2.heap.size u2) (.map #[] 0)))
  have n1_ := Aside0.mk (blk_below BK0.out (below_alloc (Below.refl u2.heap.size u2) (.map #[] 0)))
  have n2_ := Aside0.mk (F_below HFt.out (below_alloc (Below.refl u2.heap.size u2) (.map #[] 0)))
  have n3_ := Aside0.mk (F_below HFi.out (below_alloc (Below.refl u2.heap.size u2) (.map #[] 0)))
  have n4_ := Aside0.mk (blk_below BKm.out (below_alloc (Below.refl u2.heap.size u2) (.map #[] 0)))
  have n5_ := Aside0.mk (blk_below BKn.out (below_alloc (Below.refl u2.heap.size u2) (.map #[] 0)))
  clear HB BK0 HFt HFi BKm BKn
  have HB := n0_
  have BK0 := n1_
  have HFt := n2_
  have HFi := n3_
  have BKm := n4_
  have BKn := n5_
  clear n0_ n1_ n2_ n3_ n4_ n5_
  have BKp := Aside0.mk (show (u2.alloc (.map #[] 0)).heap[u2.heap.size]? = some (.map (metE []) ([] : List ByteArray).length) from blk_new u2 _)
  go_wp2_with (first | (fail))
  generalize u2.alloc (.map #[] 0) = u3 at BKp HB BK0 HFt HFi BKm BKn ⊢
  generalize u2.heap.size = gm at BKp HLn ⊢
  clear fm
  go_loopg [73] ats.length (fun kq v73 w' => ∃ (i : Nat) (v : Value) (xs : List S65), v73 = .int .i64 i ∧ Aside0 (xs = al.take i) ∧ Aside0 (i + kq = ats.length) ∧ i ≤ ats.length ∧ Aside0 (Below w.heap.size w w') ∧ Aside0 (w'.heap[w.heap.size]? = some (.cells #[.string ⟨#[]⟩, .slice none 0 0, .string ⟨#[]⟩, .slice none 0 0] 25 (0, 0))) ∧ Aside0 (w'.heap[g]? = some (.cells #[.slice Am L.length cm, .int .i64 0] 81 (0, 0))) ∧ Aside0 (w'.heap[gn]? = some (.cells #[.string (lastTup op).2.2.2.1, .slice Ai ins.length ci, .string outv, v] 25 (0, 0))) ∧ Aside0 (w'.heap[gm]? = some (.map (metE []) ([] : List ByteArray).length)) ∧ Aside0 (Kd.F Kd.string w' (fun k_ => w.heap.size < k_ ∧ k_ < gn) At ats.length ats) ∧ Aside0 (Kd.F Kd.string w' (fun k_ => w.heap.size < k_ ∧ k_ < gn) Ai ins.length ins) ∧ Aside0 (Kd.N k65 65 w' w.heap.size (fun k_ => gm < k_) v xs))
  case atStart => exact ⟨0, .slice none 0 0, [], rfl, ⟨rfl⟩, ⟨by omega⟩, Nat.zero_le _, HB, BK0, BKm, BKn, BKp, HFt, HFi, ⟨Kd.N_nil _ _ _ _ _⟩⟩
  case round =>
  clear HB BK0 BKm BKn BKp HFt HFi
  obtain ⟨i, v, xs, rfl, HXS, HK, hi, HB, BK0, BKm, BKn, BKp, HFt, HFi, HNv⟩ := hrel
  obtain ⟨Av, cv, rfl⟩ := Kd.N_slice HNv.out
  by_cases hlt : i < ats.length
  · have hlt' : decide ((i : Int) < (ats.length : Int)) = true := by simpa using hlt
    obtain ⟨kk, rfl⟩ : ∃ m, gk = m + 1 := ⟨gk - 1, by have := HK.out; omega⟩
    have p101 : 0 ≤ (i : Int) := Int.natCast_nonneg i
    have q101 : (i : Int) < (ats.length : Int) := by omega
    obtain ⟨ad101, e101, hx101⟩ := Kd.at_string (Kd.F_now HFt.out) (i : Int) p101 q101
    cases e101
    have hr : rdOf ByteArray.empty ats (i : Int) = ats[i] := by simp [rdOf, hlt]
    rw [Int.toNat_natCast, hr] at hx101
    have hla : i < al.length := by have := HAS.out; omega
    obtain ⟨an, ai, ak, row, hA, hE⟩ := HEA.out i hlt hla
    have HC := Aside0.mk (pbAttr.calls ats[i] an ai ak row hA)
    rw [hE] at HC
    have HT := Aside0.mk (List.take_succ_eq_append_getElem hla)
    generalize al[i] = x at HC HT
    generalize ats[i] = tx at HC hx101
    have Hw : Aside0 (wrap64 ((i : Int) + 1) = (i : Int) + 1) := ⟨by have := HAL.out; exact wrap64_id (by omega) (by omega)⟩
    have HSm := Aside0.mk (show gm < wr.heap.size from blk_lt BKp.out)
    have HO1 := Aside0.mk (Kd.N_lt HNv.out)
    have HO2 := Aside0.mk HNv.out.1
    have HXL := Aside0.mk (show xs.length ≤ i by rw [HXS.out]; exact List.length_take_le _ _)
    clear hr hA hE hla
    replace p101 := eq_true p101
    replace q101 := eq_true q101
    go_wp2_with (first | (fail))
    refine (HC.out wr).mono ?_
    rintro en u ⟨Ar, cr, rfl, hl, hF, hB⟩
    have n0_ := Aside0.mk (below_step HB.out hB)
    have n1_ := Aside0.mk (blk_below BK0.out hB)
    have n2_ := Aside0.mk (blk_below BKm.out hB)
    have n3_ := Aside0.mk (blk_below BKn.out hB)
    have n4_ := Aside0.mk (blk_below BKp.out hB)
    have n5_ := Aside0.mk (F_below HFt.out hB)
    have n6_ := Aside0.mk (F_below HFi.out hB)
    have n7_ := Aside0.mk (Kd.N_below HNv.out hB)
    clear HB BK0 BKm BKn BKp HFt HFi HNv
    have HB := n0_
    have BK0 := n1_
    have BKm := n2_
    have BKn := n3_
    have BKp := n4_
    have HFt := n5_
    have HFi := n6_
    have HNv := n7_
    clear n0_ n1_ n2_ n3_ n4_ n5_ n6_ n7_
    have HFr := Aside0.mk (show Kd.F (Kd.int .i64) u (fun k_ => gm < k_ ∧ some k_ ≠ (Value.slice Av xs.length cv).ownBlock) Ar x.f3.length x.f3 from Kd.F_mono hF (fun k_ hk => ⟨by have := HSm.out; omega, fun e => by have := HO1.out k_ e.symm; omega⟩))
    have HFl := Aside0.mk hl
    clear hl hF hB hx101 HC HSm HO1
    have n0_ := Aside0.mk (below_step HB.out (below_alloc (Below.refl u.heap.size u) (Obj.cells #[.string x.f0, .bool x.f1, .int .i64 x.f2, .slice Ar x.f3.length cr] 65)))
    have n1_ := Aside0.mk (blk_below BK0.out (below_alloc (Below.refl u.heap.size u) (Obj.cells #[.string x.f0, .bool x.f1, .int .i64 x.f2, .slice Ar x.f3.length cr] 65)))
    have n2_ := Aside0.mk (blk_below BKm.out (below_alloc (Below.refl u.heap.size u) (Obj.cells #[.string x.f0, .bool x.f1, .int .i64 x.f2, .slice Ar x.f3.length cr] 65)))
    have n3_ := Aside0.mk (blk_below BKn.out (below_alloc (Below.refl u.heap.size u) (Obj.cells #[.string x.f0, .bool x.f1, .int .i64 x.f2, .slice Ar x.f3.length cr] 65)))
    have n4_ := Aside0.mk (blk_below BKp.out (below_alloc (Below.refl u.heap.size u) (Obj.cells #[.string x.f0, .bool x.f1, .int .i64 x.f2, .slice Ar x.f3.length cr] 65)))
    have n5_ := Aside0.mk (F_below HFt.out (below_alloc (Below.refl u.heap.size u) (Obj.cells #[.string x.f0, .bool x.f1, .int .i64 x.f2, .slice Ar x.f3.length cr] 65)))
    have n6_ := Aside0.mk (F_below HFi.out (below_alloc (Below.refl u.heap.size u) (Obj.cells #[.string x.f0, .bool x.f1, .int .i64 x.f2, .slice Ar x.f3.length cr] 65)))
    have n7_ := Aside0.mk (Kd.N_below HNv.out (below_alloc (Below.refl u.heap.size u) (Obj.cells #[.string x.f0, .bool x.f1, .int .i64 x.f2, .slice Ar x.f3.length cr] 65)))
    have n8_ := Aside0.mk (F_below HFr.out (below_alloc (Below.refl u.heap.size u) (Obj.cells #[.string x.f0, .bool x.f1, .int .i64 x.f2, .slice Ar x.f3.length cr] 65)))
    clear HB BK0 BKm BKn BKp HFt HFi HNv HFr
    have HB := n0_
    have BK0 := n1_
    have BKm := n2_
    have BKn := n3_
    have BKp := n4_
    have HFt := n5_
    have HFi := n6_
    have HNv := n7_
    have HFr := n8_
    clear n0_ n1_ n2_ n3_ n4_ n5_ n6_ n7_ n8_
    have BKx := Aside0.mk (blk_new u (Obj.cells #[.string x.f0, .bool x.f1, .int .i64 x.f2, .slice Ar x.f3.length cr] 65))
    go_wp2_with (first | (fail))
    generalize u.alloc (Obj.cells #[.string x.f0, .bool x.f1, .int .i64 x.f2, .slice Ar x.f3.length cr] 65) = u4 at HB BK0 BKm BKn BKp HFt HFi HNv HFr BKx ⊢
    generalize u.heap.size = gx at BKx ⊢
    refine (msgWrong.calls g 0 _).mono ?_
    rintro en u4 ⟨rfl, rfl⟩
    have x0 : u4.cell? ⟨gx, 0, none⟩ = some (.string x.f0) := blk_cell BKx.out 0
    have x1 : u4.cell? ⟨gx, 1, none⟩ = some (.bool x.f1) := blk_cell BKx.out 1
    have x2 : u4.cell? ⟨gx, 2, none⟩ = some (.int .i64 x.f2) := blk_cell BKx.out 2
    have x3 : u4.cell? ⟨gx, 3, none⟩ = some (.slice Ar x.f3.length cr) := blk_cell BKx.out 3
    have xn : u4.cell? ⟨gn, 3, none⟩ = some (.slice Av xs.length cv) := blk_cell BKn.out 3
    go_wp2_with (first | ((with_reducible refine gate_builtin (b := .append) (xs := #[.tmp 88, .tmp 90]) rfl ?_); at_builtin; refine Kd.N_append k65 (w0 := w) w.heap.size rfl (.tmp 88) (.tmp 90) 23 65 (.agg #[(.string ⟨#[]⟩), (.bool false), (.int .i64 0), (.slice none 0 0)]) 56 rfl Tryz.underlying23 info65 rfl (by decide) (by omega) (.slice Av xs.length cv) xs x [.string x.f0, .bool x.f1, .int .i64 x.f2, .slice Ar x.f3.length cr] (fun k_ => gm < k_) (fun k_ => gm < k_ ∧ some k_ ≠ (Value.slice Av xs.length cv).ownBlock) rfl rfl ?aP (fun _ hk => hk) ?aF ?aO ?aB ?aS ?aL ?_; (case aP => exact k65_mkF _ _ x HFl.out HFr.out); (case aF => intro k_ hk; have h_ : gm < u4.heap.size := blk_lt BKp.out; omega); (case aO => exact HNv.out); (case aB => exact HB.out); (case aS => exact HB.out.size); (case aL => have h_ := HAL.out; have h2_ := HXL.out; omega); intro v1 w25 ho hb hg hat; obtain ⟨A1, c1, rfl⟩ := Kd.N_slice ho; have n0_ := Aside0.mk hb; have n1_ := Aside0.mk ((hg.block _ (blk_lt BK0.out) (fun e => by have h1_ := HO2.out _ e.symm; have h2_ := HLn.out; have h3_ := HL0.out; omega)).trans BK0.out); have n2_ := Aside0.mk ((hg.block _ (blk_lt BKm.out) (fun e => by have h1_ := HO2.out _ e.symm; have h2_ := HLn.out; have h3_ := HLm.out; omega)).trans BKm.out); have n3_ := Aside0.mk ((hg.block _ (blk_lt BKn.out) (fun e => by have h1_ := HO2.out _ e.symm; have h2_ := HLn.out; omega)).trans BKn.out); have n4_ := Aside0.mk ((hg.block _ (blk_lt BKp.out) (fun e => by have h1_ := HO2.out _ e.symm; omega)).trans BKp.out); have n5_ := Aside0.mk (Kd.F_step HFt.out (fun k_ hk hl_ => hg.block k_ hl_ (fun e => by have h1_ := HO2.out _ e.symm; have h2_ := HLn.out; omega))); have n6_ := Aside0.mk (Kd.F_step HFi.out (fun k_ hk hl_ => hg.block k_ hl_ (fun e => by have h1_ := HO2.out _ e.symm; have h2_ := HLn.out; omega))); have n7_ := Aside0.mk ho; clear HB BK0 BKm BKn BKp HFt HFi HNv HFr BKx x0 x1 x2 x3 xn hg hat ho hb; have HB := n0_; have BK0 := n1_; have BKm := n2_; have BKn := n3_; have BKp := n4_; have HFt := n5_; have HFi := n6_; have HNv := n7_; clear n0_ n1_ n2_ n3_ n4_ n5_ n6_ n7_; have z3 : w25.cell? ⟨gn, 3, none⟩ = some (.slice Av xs.length cv) := blk_cell BKn.out 3; have y3 := blk_frozen BKn.out 3))
    go_roundg kk
    case measure => have := HK.out; omega
    case rel => exact ⟨i + 1, _, xs ++ [x], by rw [Hw.out]; rfl, ⟨by rw [HXS.out]; exact HT.out.symm⟩, ⟨by have := HK.out; omega⟩, by omega, ⟨below_set HB.out (by have := HL0.out; omega)⟩, ⟨blk_far BK0.out (by have := HL0.out; show w.heap.size ≠ gn; omega) _⟩, ⟨blk_far BKm.out (by have := HLm.out; show g ≠ gn; omega) _⟩, ⟨blk_put BKn.out 3 _ rfl⟩, ⟨(Below.heap_setCell _ _ _ gm (by have := HLn.out; show gm ≠ gn; omega)).trans BKp.out⟩, ⟨Kd.F_step HFt.out (fun k_ hk _ => Below.heap_setCell _ _ _ k_ (by show k_ ≠ gn; omega))⟩, ⟨Kd.F_step HFi.out (fun k_ hk _ => Below.heap_setCell _ _ _ k_ (by show k_ ≠ gn; omega))⟩, ⟨by have h_ := Kd.N_far (p := ⟨gn, 3, none⟩) HNv.out (fun k_ hk => by have := HLn.out; show k_ ≠ gn; omega) (.slice A1 (xs ++ [x]).length c1); rw [List.length_append] at h_; exact h_⟩⟩
  · have hlt' : decide ((i : Int) < (ats.length : Int)) = false := by simpa using hlt
    obtain rfl : xs = al := HXS.out.trans (List.take_of_length_le (by have := HAS.out; omega))
    have xn : wr.cell? ⟨gn, 3, none⟩ = some (.slice Av xs.length cv) := blk_cell BKn.out 3
    clear HXS hi HK HFt
    go_wp2_with (first | (fail))
    clear xn
    have HXA := Aside0.mk (Kd.N_reads' HNv.out).2.2
    go_loopg [97] xs.length (fun kq v97 w' => ∃ (i : Nat) (met : List ByteArray), v97 = .int .i64 i ∧ Aside0 (met = (xs.map (fun x => x.f0)).take i) ∧ Aside0 (i + kq = xs.length) ∧ i ≤ xs.length ∧ Aside0 (Below w.heap.size w w') ∧ Aside0 (w'.heap[w.heap.size]? = some (.cells #[.string ⟨#[]⟩, .slice none 0 0, .string ⟨#[]⟩, .slice none 0 0] 25 (0, 0))) ∧ Aside0 (w'.heap[g]? = some (.cells #[.slice Am L.length cm, .int .i64 0] 81 (0, 0))) ∧ Aside0 (w'.heap[gn]? = some (.cells #[.string (lastTup op).2.2.2.1, .slice Ai ins.length ci, .string outv, .slice Av xs.length cv] 25 (0, 0))) ∧ Aside0 (w'.heap[gm]? = some (.map (metE met) met.length)) ∧ Aside0 (Kd.F Kd.string w' (fun k_ => w.heap.size < k_ ∧ k_ < gn) Ai ins.length ins) ∧ Aside0 (Kd.N k65 65 w' w.heap.size (fun k_ => gm < k_) (.slice Av xs.length cv) xs))
    case atStart => exact ⟨0, [], rfl, ⟨rfl⟩, ⟨by omega⟩, Nat.zero_le _, HB, BK0, BKm, BKn, BKp, HFi, HNv⟩
    case round =>
    clear HB BK0 BKm BKn BKp HFi HNv HXA hlt hlt'
    obtain ⟨i, met, rfl, HXS, HK, hi, HB, BK0, BKm, BKn, BKp, HFi, HNv⟩ := hrel
    by_cases hlt : i < xs.length
    · have hlt' : decide ((i : Int) < (xs.length : Int)) = true := by simpa using hlt
      obtain ⟨kk, rfl⟩ : ∃ m, gk = m + 1 := ⟨gk - 1, by have := HK.out; omega⟩
      have p101 : 0 ≤ (i : Int) := Int.natCast_nonneg i
      have q101 : (i : Int) < (xs.length : Int) := by omega
      obtain ⟨ad101, A4, c4, e101, hx101_0, hx101_1, hx101_2, hx101_3, hl4, hi4⟩ := at_T65 (Kd.N_reads' HNv.out).2.2 (i : Int) p101 q101
      cases e101
      rw [Int.toNat_natCast] at hx101_0 hx101_1 hx101_2 hx101_3
      have hr : rd_T65 xs (i : Int) = xs[i] := by simp [rd_T65, hlt]
      rw [hr] at hx101_0 hx101_1 hx101_2 hx101_3
      have HD := Aside0.mk (HDI.out i hlt)
      have hml : i < (xs.map (fun x => x.f0)).length := by rw [List.length_map]; exact hlt
      have HT := Aside0.mk ((List.take_succ_eq_append_getElem hml).trans (by rw [List.getElem_map]))
      rw [← HXS.out] at HD HT
      generalize xs[i] = x at HD HT hx101_0 hx101_1 hx101_2 hx101_3
      have Hw : Aside0 (wrap64 ((i : Int) + 1) = (i : Int) + 1) := ⟨by have := HAL.out; have := HAS.out; exact wrap64_id (by omega) (by omega)⟩
      clear hr hml hl4 hi4
      replace p101 := eq_true p101
      replace q101 := eq_true q101
      obtain ⟨x0, x1, x2, x3⟩ := x
      dsimp only at HD HT hx101_0 hx101_1 hx101_2 hx101_3
      have n0_ := Aside0.mk (below_step HB.out (below_alloc (Below.refl wr.heap.size wr) (Obj.cells #[.string x0, .bool x1, .int .i64 x2, .slice A4 x3.length c4] 65)))
      have n1_ := Aside0.mk (blk_below BK0.out (below_alloc (Below.refl wr.heap.size wr) (Obj.cells #[.string x0, .bool x1, .int .i64 x2, .slice A4 x3.length c4] 65)))
      have n2_ := Aside0.mk (blk_below BKm.out (below_alloc (Below.refl wr.heap.size wr) (Obj.cells #[.string x0, .bool x1, .int .i64 x2, .slice A4 x3.length c4] 65)))
      have n3_ := Aside0.mk (blk_below BKn.out (below_alloc (Below.refl wr.heap.size wr) (Obj.cells #[.string x0, .bool x1, .int .i64 x2, .slice A4 x3.length c4] 65)))
      have n4_ := Aside0.mk (blk_below BKp.out (below_alloc (Below.refl wr.heap.size wr) (Obj.cells #[.string x0, .bool x1, .int .i64 x2, .slice A4 x3.length c4] 65)))
      have n5_ := Aside0.mk (F_below HFi.out (below_alloc (Below.refl wr.heap.size wr) (Obj.cells #[.string x0, .bool x1, .int .i64 x2, .slice A4 x3.length c4] 65)))
      have n6_ := Aside0.mk (Kd.N_below HNv.out (below_alloc (Below.refl wr.heap.size wr) (Obj.cells #[.string x0, .bool x1, .int .i64 x2, .slice A4 x3.length c4] 65)))
      clear HB BK0 BKm BKn BKp HFi HNv
      have HB := n0_
      have BK0 := n1_
      have BKm := n2_
      have BKn := n3_
      have BKp := n4_
      have HFi := n5_
      have HNv := n6_
      clear n0_ n1_ n2_ n3_ n4_ n5_ n6_
      have BKx := Aside0.mk (blk_new wr (Obj.cells #[.string x0, .bool x1, .int .i64 x2, .slice A4 x3.length c4] 65))
      have HLp := Aside0.mk (show gm < wr.heap.size from by have h_ : gm < (wr.alloc (Obj.cells #[.string x0, .bool x1, .int .i64 x2, .slice A4 x3.length c4] 65)).heap.size := blk_lt BKp.out; rw [alloc_size] at h_; have h2_ := HLn.out; have h3_ : gm ≠ wr.heap.size := fun e => (by have h4_ := BKp.out; have h5_ := BKx.out; rw [← e] at h5_; rw [h4_] at h5_; cases h5_); omega)
      generalize hu6 : wr.alloc (Obj.cells #[.string x0, .bool x1, .int .i64 x2, .slice A4 x3.length c4] 65) = u6 at HB BK0 BKm BKn BKp HFi HNv BKx
      have hlk := lookup_met met x0 BKp.out
      rw [if_neg HD.out] at hlk
      obtain ⟨W2, hup, hm2, hb2, hg2⟩ := update_new met x0 HD.out BKp.out (show w.heap.size ≤ gm by have := HLn.out; have := HL0.out; omega) HB.out
      have hl2 := lookup_met (met ++ [x0]) x0 hm2
      rw [if_pos (by simp)] at hl2
      have f70 : u6.cell? ⟨wr.heap.size, 0, none⟩ = some (.string x0) := blk_cell BKx.out 0
      have f75 : W2.cell? ⟨wr.heap.size, 0, none⟩ = some (.string x0) := blk_cell ((hg2 wr.heap.size (by have := HLp.out; omega)).trans BKx.out) 0
      have n0_ := Aside0.mk hb2
      have n1_ := Aside0.mk ((hg2 _ (by have := HL0.out; have := HLn.out; omega)).trans BK0.out)
      have n2_ := Aside0.mk ((hg2 _ (by have := HLm.out; have := HLn.out; omega)).trans BKm.out)
      have n3_ := Aside0.mk ((hg2 _ (by have := HLn.out; omega)).trans BKn.out)
      have n4_ := Aside0.mk hm2
      have n5_ := Aside0.mk (Kd.F_step HFi.out (fun k_ hk hl_ => hg2 k_ (by have := HLn.out; omega)))
      have n6_ := Aside0.mk (Kd.N_step HNv.out (fun k_ hk hl_ => hg2 k_ (by omega)))
      clear hm2 hb2 hg2 HB BK0 BKm BKn BKp HFi HNv BKx HD
      have HB := n0_; have BK0 := n1_; have BKm := n2_; have BKn := n3_; have BKp := n4_; have HFi := n5_; have HNv := n6_
      clear n0_ n1_ n2_ n3_ n4_ n5_ n6_
      subst hu6
      go_wp2_with (first | (fail))
      refine (msgWrong.calls g 14 _).mono ?_
      rintro en W2 ⟨rfl, rfl⟩
      go_wp2_with (first | (fail))
      go_roundg kk
      case measure => have := HK.out; omega
      case rel => exact ⟨i + 1, met ++ [x0], by rw [Hw.out]; rfl, ⟨HT.out.symm⟩, ⟨by have := HK.out; omega⟩, by omega, HB, BK0, BKm, BKn, BKp, HFi, HNv⟩
    · have hlt' : decide ((i : Int) < (xs.length : Int)) = false := by simpa using hlt
      have cm1 : wr.cell? ⟨g, 1, none⟩ = some (.int .i64 0) := blk_cell BKm.out 1
      have x0 : wr.cell? ⟨gn, 0, none⟩ = some (.string (lastTup op).2.2.2.1) := blk_cell BKn.out 0
      have z0 : wr.cell? ⟨w.heap.size, 0, none⟩ = some (.string ⟨#[]⟩) := blk_cell BK0.out 0
      have y0 := blk_frozen BK0.out 0
      have x1 : wr.cell? ⟨gn, 1, none⟩ = some (.slice Ai ins.length ci) := blk_cell BKn.out 1
      have z1 : wr.cell? ⟨w.heap.size, 1, none⟩ = some (.slice none 0 0) := blk_cell BK0.out 1
      have y1 := blk_frozen BK0.out 1
      have x2 : wr.cell? ⟨gn, 2, none⟩ = some (.string outv) := blk_cell BKn.out 2
      have z2 : wr.cell? ⟨w.heap.size, 2, none⟩ = some (.string ⟨#[]⟩) := blk_cell BK0.out 2
      have y2 := blk_frozen BK0.out 2
      have x3 : wr.cell? ⟨gn, 3, none⟩ = some (.slice Av xs.length cv) := blk_cell BKn.out 3
      have z3 : wr.cell? ⟨w.heap.size, 3, none⟩ = some (.slice none 0 0) := blk_cell BK0.out 3
      have y3 := blk_frozen BK0.out 3
      clear HXS hi HK
      go_wp2_with (first | (fail))
      refine bodyPost_ret (results_cell_tmp_row rfl _ _ w.heap.size 25 #[.string (lastTup op).2.2.2.1, .slice Ai ins.length ci, .string outv, .slice Av xs.length cv] (0, 0) _ rfl (by refine blk_put (cs := #[.string (lastTup op).2.2.2.1, .slice Ai ins.length ci, .string outv, .slice none 0 0]) ?_ 3 _ rfl; refine blk_put (cs := #[.string (lastTup op).2.2.2.1, .slice Ai ins.length ci, .string ⟨#[]⟩, .slice none 0 0]) ?_ 2 _ rfl; refine blk_put (cs := #[.string (lastTup op).2.2.2.1, .slice none 0 0, .string ⟨#[]⟩, .slice none 0 0]) ?_ 1 _ rfl; refine blk_put (cs := #[.string ⟨#[]⟩, .slice none 0 0, .string ⟨#[]⟩, .slice none 0 0]) ?_ 0 _ rfl; exact BK0.out) Tryz.underlying25 rfl (by kernel_rfl)) rfl ?_
      have HZ := Aside0.mk (Kd.N_reads' HNv.out).2.1
      refine ⟨Ai, ci, Av, cv, rfl, Kd.V_mk HFil.out (Kd.F_mono (Kd.F_step HFi.out (fun k_ hk hlt => ?_)) (fun k_ hk => by omega)), Kd.V_mk HZ.out (Kd.F_mono (Kd.F_step (Kd.N_F HNv.out) (fun k_ hk hlt => ?_)) (fun k_ hk => by have := HLn.out; have := HL0.out; omega)), below_set (below_set (below_set (below_set HB.out (Nat.le_refl _)) (Nat.le_refl _)) (Nat.le_refl _)) (Nat.le_refl _)⟩
      · have hne : k_ ≠ w.heap.size := by omega
        rw [Below.heap_setCell _ _ _ k_ hne, Below.heap_setCell _ _ _ k_ hne, Below.heap_setCell _ _ _ k_ hne, Below.heap_setCell _ _ _ k_ hne]
      · have hne : k_ ≠ w.heap.size := by have := HLn.out; have := HL0.out; omega
        rw [Below.heap_setCell _ _ _ k_ hne, Below.heap_setCell _ _ _ k_ hne, Below.heap_setCell _ _ _ k_ hne, Below.heap_setCell _ _ _ k_ hne]
end Go.Proofs.YthidedmnmdlfkaaGreat.X
namespace Go.Proofs.YthidedmnmdlfkaaGreat.X
open Go.RowKit Go.Proofs.YthidedmnmdlfkaaGreatW.PrintWords Go.Proofs.YthidedmnmdlfkaaGreatW.PrintLast Go.Proofs.YthidedmnmdlfkaaGreatW.PrintMore
attribute [local go_sem] max2_int min2_int max_two min_two max_three min_three max_four min_four
set_option linter.unusedVariables false
set_option linter.unusedSimpArgs false
def msgL (b : ByteArray) : List S75 := (fieldsS b).1.map toP
def lastL (b : ByteArray) (num : Int) : Option S75 := ((msgL b).filter fun x => x.f0 == num).getLast?
def textsOf (b : ByteArray) (num : Int) : List ByteArray := (textsL (((msgL b).filter fun x => x.f0 == num).map flP) []).1
def attrC (b : ByteArray) : S65 := attrOf (lastL b 1) (lastL b 3) (lastL b 20) (intsL (((msgL b).filter fun x => x.f0 == 8).map flP) []).1
def nodeP (b : ByteArray) : Prop := NodeMsg b ((textsOf b 2).headD ⟨#[]⟩) (textsOf b 1) (textsOf b 5) (lastL b 4) (lastL b 7) ((textsOf b 5).map attrC)
open Classical in
noncomputable def pbnode_ReadNode.f (b : ByteArray) : Option (ByteArray × (List ByteArray) × ByteArray × (List S65) × Int) :=
  if nodeP b then some ((lastTup (lastL b 4)).2.2.2.1, textsOf b 1, (textsOf b 2).headD ⟨#[]⟩, (textsOf b 5).map attrC, 0) else none
theorem pbnode_ReadNode.calls (a0 : ByteArray) (r1 : ByteArray) (r2 : List ByteArray) (r3 : ByteArray) (r4 : List S65) (r5 : Int) (w : World) (h : pbnode_ReadNode.f a0 = some (r1, r2, r3, r4, r5)) :
    Calls Tryz.prog 14 #[.string a0] w fun e w' => ∃ v1_ v3_ : Value, e = .returned (.tuple #[.agg #[.string r1, v1_, .string r3, v3_], .int .i64 r5]) ∧ Kd.V Kd.string 9 w' w.heap.size (fun k_ => (w.heap.size ≤ k_)) v1_ r2 ∧ Kd.V k65 65 w' w.heap.size (fun k_ => (w.heap.size ≤ k_)) v3_ r4 ∧ Below w.heap.size w w' := by
  unfold pbnode_ReadNode.f at h
  split at h
  · rename_i hn
    obtain ⟨rfl, rfl, rfl, rfl, rfl⟩ : _ ∧ _ ∧ _ ∧ _ ∧ _ := by simpa only [Option.some.injEq, Prod.mk.injEq] using h
    refine (pbReadNode.calls a0 _ _ _ _ _ _ hn w).mono ?_
    rintro e w' ⟨A1, c1, A3, c3, rfl, h1, h2, h3⟩
    exact ⟨_, _, rfl, h1, h2, h3⟩
  · cases h
end Go.Proofs.YthidedmnmdlfkaaGreat.X
namespace Go.Proofs.YthidedmnmdlfkaaGreat.X
open Go.RowKit Go.Proofs.YthidedmnmdlfkaaGreatW.PrintWords Go.Proofs.YthidedmnmdlfkaaGreatW.PrintLast Go.Proofs.YthidedmnmdlfkaaGreatW.PrintMore
attribute [local go_sem] max2_int min2_int max_two min_two max_three min_three max_four min_four
set_option linter.unusedVariables false
set_option linter.unusedSimpArgs false
def catT : List ByteArray → ByteArray
  | [] => ⟨#[]⟩
  | x :: t => x ++ catT t
theorem bytes_nil_append (x : ByteArray) : (⟨#[]⟩ : ByteArray) ++ x = x := ns_inj (by rw [ns_append]; rfl)
theorem bytes_append_nil (x : ByteArray) : x ++ (⟨#[]⟩ : ByteArray) = x := ns_inj (by rw [ns_append]; exact List.append_nil _)
theorem bytes_assoc (x y z : ByteArray) : x ++ y ++ z = x ++ (y ++ z) := ns_inj (by rw [ns_append, ns_append, ns_append, ns_append, List.append_assoc])
set_option maxHeartbeats 1000000 in
set_option maxRecDepth 100000 in
theorem pbDim.calls (b : ByteArray) (hb : b.size ≤ 140737488351232) (h0 : (fieldsS b).2 = 0) (hl : (fieldsS b).1.length ≤ 3518437208883) (y : S75) (hx : (((fieldsS b).1.map toP).filter fun x => x.f0 == 1).getLast? = some y) (hk : y.f1 = 0) (w : World) :
    Calls Tryz.prog 34 #[.string b] w fun en w' => en = .returned (.tuple #[.int .i64 (wrap64 y.f2), .int .i64 0]) ∧ Below w.heap.size w w' := by
  have hu := Tryz.underlying81
  have hu2 := Tryz.underlying75
  have HO := Aside0.mk (msgOpen.calls b hb h0)
  have hl2 : ((fieldsS b).1.map toP).length ≤ 3518437208883 := by rw [List.length_map]; exact hl
  generalize (fieldsS b).1.map toP = L at HO hx hl2
  have HX := Aside0.mk hx
  have HL := Aside0.mk hl2
  have HK := Aside0.mk hk
  clear hx hk hb h0 hl hl2
  go_enter Tryz.func34, Tryz.ntmps34
  go_wp2_with (first | (fail))
  refine (HO.out w).mono ?_
  rintro en w1 ⟨g, rfl, hM, hB⟩
  have HM := Aside0.mk hM
  have HB := Aside0.mk hB
  clear hM hB HO
  go_wp2_with (first | (fail))
  refine (msgLast.calls g L 1 0 (some y) _ HM.out HL.out HX.out (fun z hz => by cases hz; exact HK.out)).mono ?_
  rintro en w2 ⟨rfl, hB⟩
  have n0_ := Aside0.mk (HM.out.below hB)
  have n1_ := Aside0.mk (below_step HB.out hB)
  clear hB HM HB HX HL HK
  have HM := n0_; have HB := n1_
  clear n0_ n1_
  obtain ⟨y0, y1, y2, y3⟩ := y
  dsimp only [lastTup]
  have n0_ := Aside0.mk (HM.out.below (below_alloc (Below.refl _ _) (Obj.cells #[.int .i64 y0, .int .i64 y1, .int .u64 y2, .string y3] 75)))
  have n1_ := Aside0.mk (below_alloc HB.out (Obj.cells #[.int .i64 y0, .int .i64 y1, .int .u64 y2, .string y3] 75))
  have BK := Aside0.mk (blk_new w2 (Obj.cells #[.int .i64 y0, .int .i64 y1, .int .u64 y2, .string y3] 75))
  clear HM HB
  go_wp2_with (first | (fail))
  refine (msgWrong.calls g 6 _).mono ?_
  rintro en w3 ⟨rfl, rfl⟩
  have hc := n0_.out.code
  have hn : (w2.alloc (Obj.cells #[.int .i64 y0, .int .i64 y1, .int .u64 y2, .string y3] 75)).cell? ⟨w2.heap.size, 2, none⟩ = some (.int .u64 y2) := blk_cell BK.out 2
  go_wp2_with (first | (fail))
  go_quiet (fail)
  go_wp2_with (first | (fail))
  go_ret2
  exact ⟨rfl, pw_below_drewN n1_.out nq⟩
set_option maxHeartbeats 1000000 in
set_option maxRecDepth 100000 in
theorem msgWhole.calls (g : Nat) (l : List S75) (num : Int) (q : List ByteArray) (w : World) (h : Msg w g l) (hl : l.length ≤ 3518437208883) (hq : textsL ((l.filter fun x => x.f0 == num).map flP) [] = (q, 0)) (hs : (catT q).size ≤ 140737488351232) (hn : q.length ≤ 1000000) (h0 : (fieldsS (catT q)).2 = 0) :
    Calls Tryz.prog 33 #[.pointer (some ⟨g, 0, none⟩), .int .i64 num] w fun en w' => ∃ g', en = .returned (.pointer (some ⟨g', 0, none⟩)) ∧ Msg w' g' ((fieldsS (catT q)).1.map toP) ∧ Below w.heap.size w w' := by
  have hu := Tryz.underlying81
  have HM := Aside0.mk h
  have HT := Aside0.mk (msgTexts.calls g l num q w h hl hq)
  have HO := Aside0.mk (msgOpen.calls (catT q) hs h0)
  have HS := Aside0.mk hs
  have HN := Aside0.mk hn
  clear h hl hq hs h0 hn
  go_enter Tryz.func33, Tryz.ntmps33
  go_wp2_with (first | (fail))
  refine HT.out.mono ?_
  rintro en w1 ⟨A, c, rfl, hR, hB⟩
  have HC := Aside0.mk (Kd.R_reads' hR).2.2
  have HB := Aside0.mk hB
  have n0_ := Aside0.mk (HM.out.below hB)
  clear hR hB HT HM
  have HM := n0_
  clear n0_
  go_wp2_with (first | (fail))
  go_loopg [5, 12] q.length (fun kq v5 v12 w' => ∃ (i : Nat) (s : ByteArray), v5 = .string s ∧ v12 = .int .i64 i ∧ Aside0 (i + kq = q.length) ∧ i ≤ q.length ∧ Aside0 (s ++ catT (q.drop i) = catT q) ∧ w' = w1)
  case atStart => exact ⟨0, ⟨#[]⟩, rfl, rfl, ⟨by omega⟩, Nat.zero_le _, ⟨by rw [List.drop_zero]; exact bytes_nil_append _⟩, rfl⟩
  case round =>
    obtain ⟨i, s, rfl, rfl, HK, hi, HI, hw_⟩ := hrel
    replace hw_ := hw_.symm
    subst hw_
    by_cases hlt : i < q.length
    · have hlt' : decide ((i : Int) < (q.length : Int)) = true := by simpa using hlt
      obtain ⟨kk, rfl⟩ : ∃ m, gk = m + 1 := ⟨gk - 1, by have := HK.out; omega⟩
      have p101 : 0 ≤ (i : Int) := Int.natCast_nonneg i
      have q101 : (i : Int) < (q.length : Int) := by omega
      obtain ⟨ad101, e101, hx101⟩ := Kd.at_string HC.out (i : Int) p101 q101
      cases e101
      have hr : rdOf ByteArray.empty q (i : Int) = q[i] := by simp [rdOf, hlt]
      rw [Int.toNat_natCast, hr] at hx101
      obtain ⟨x, hx⟩ : ∃ x, x = q[i] := ⟨_, rfl⟩
      rw [← hx] at hx101
      replace HI := Aside0.mk (show (s ++ x) ++ catT (q.drop (i + 1)) = catT q by rw [← HI.out, List.drop_eq_getElem_cons hlt, catT, ← hx, bytes_assoc])
      have hsz : (9223372036854775807 < s.size + x.size) = False := eq_false (by
        have h1 := congrArg ByteArray.size HI.out
        rw [ByteArray.size_append, ByteArray.size_append] at h1
        have := HS.out
        omega)
      have Hw : Aside0 (wrap64 ((i : Int) + 1) = (i : Int) + 1) := ⟨by have := HN.out; exact wrap64_id (by omega) (by omega)⟩
      clear hr hx
      replace p101 := eq_true p101
      replace q101 := eq_true q101
      go_wp2_with (first | (fail))
      go_roundg kk
      case measure => have := HK.out; omega
      case rel => exact ⟨i + 1, s ++ x, rfl, by rw [Hw.out]; rfl, ⟨by have := HK.out; omega⟩, by omega, HI, rfl⟩
    · have hlt' : decide ((i : Int) < (q.length : Int)) = false := by simpa using hlt
      have hs2 : s = catT q := by rw [← HI.out, List.drop_of_length_le (by omega)]; exact (bytes_append_nil s).symm
      have hc := HM.out.code
      clear HI
      subst hs2
      go_wp2_with (first | (fail))
      refine (HO.out w1).mono ?_
      rintro en w2 ⟨g', rfl, hM, hB2⟩
      have HM2 := Aside0.mk hM
      have HB2 := Aside0.mk (below_step HB.out hB2)
      clear hM hB2 hc
      go_wp2_with (first | (fail))
      go_ret
      exact ⟨g', rfl, HM2.out, HB2.out⟩
structure InfoMsg (b : ByteArray) (n kf : Option S75) (s1 s2 s3 : ByteArray) (ds : List ByteArray) (dims : List Int) : Prop where
  size : b.size ≤ 140737488351232
  code : (fieldsS b).2 = 0
  len : (fieldsS b).1.length ≤ 3518437208883
  hn : (((fieldsS b).1.map toP).filter fun x => x.f0 == 1).getLast? = n
  hn2 : ∀ y, n = some y → y.f1 = 2
  t1 : textsL ((((fieldsS b).1.map toP).filter fun x => x.f0 == 2).map flP) [] = ([s1], 0)
  size1 : s1.size ≤ 140737488351232
  code1 : (fieldsS s1).2 = 0
  len1 : (fieldsS s1).1.length ≤ 3518437208883
  t2 : textsL ((((fieldsS s1).1.map toP).filter fun x => x.f0 == 1).map flP) [] = ([s2], 0)
  size2 : s2.size ≤ 140737488351232
  code2 : (fieldsS s2).2 = 0
  len2 : (fieldsS s2).1.length ≤ 3518437208883
  hk : (((fieldsS s2).1.map toP).filter fun x => x.f0 == 1).getLast? = kf
  hk2 : ∀ y, kf = some y → y.f1 = 0
  t3 : textsL ((((fieldsS s2).1.map toP).filter fun x => x.f0 == 2).map flP) [] = ([s3], 0)
  size3 : s3.size ≤ 140737488351232
  code3 : (fieldsS s3).2 = 0
  len3 : (fieldsS s3).1.length ≤ 3518437208883
  t4 : textsL ((((fieldsS s3).1.map toP).filter fun x => x.f0 == 1).map flP) [] = (ds, 0)
  dl : ds.length ≤ 1000000
  dims_ : dims.length = ds.length
  each : ∀ (j : Nat) (hj : j < ds.length) (hj2 : j < dims.length), ds[j].size ≤ 140737488351232 ∧ (fieldsS ds[j]).2 = 0 ∧ (fieldsS ds[j]).1.length ≤ 3518437208883 ∧ ∃ y, (((fieldsS ds[j]).1.map toP).filter fun x => x.f0 == 1).getLast? = some y ∧ y.f1 = 0 ∧ wrap64 y.f2 = dims[j]
  name : ∃ K, tensor_Name.f K (lastTup n).2.2.2.1 = some true
  k0 : 0 ≤ (lastTup kf).2.2.1
  k1 : (lastTup kf).2.2.1 ≤ 1048576
  ks : sizeK (lastTup kf).2.2.1 ≠ 0
theorem catT_one (s : ByteArray) : catT [s] = s := bytes_append_nil s
set_option maxHeartbeats 4000000 in
set_option maxRecDepth 100000 in
theorem pbReadInfo.calls (b : ByteArray) (n kf : Option S75) (s1 s2 s3 : ByteArray) (ds : List ByteArray) (dims : List Int) (h : InfoMsg b n kf s1 s2 s3 ds dims) (w : World) :
    Calls Tryz.prog 17 #[.string b] w fun en w' => ∃ A1 c1, en = .returned (.tuple #[.agg #[.string (lastTup n).2.2.2.1, .int .i64 (lastTup kf).2.2.1, .slice A1 dims.length c1], .int .i64 0]) ∧ Kd.V (Kd.int .i64) 2 w' w.heap.size (fun k_ => w.heap.size ≤ k_) (.slice A1 dims.length c1) dims ∧ Below w.heap.size w w' := by
  have hu := Tryz.underlying81
  have hu2 := Tryz.underlying75
  have hu4 := Tryz.underlying29
  obtain ⟨h1, h2, h3, h4, h5, h6, g1, g2, g3, h7, g4, g5, g6, h8, h9, ha, g7, g8, g9, hb, hc, hd, he, ⟨K, hf⟩, hg, hh, hi⟩ := h
  have HO := Aside0.mk (msgOpen.calls b h1 h2)
  have HL := Aside0.mk (show ((fieldsS b).1.map toP).length ≤ 3518437208883 by rw [List.length_map]; exact h3)
  have HL1 := Aside0.mk (show ((fieldsS s1).1.map toP).length ≤ 3518437208883 by rw [List.length_map]; exact g3)
  have HL2 := Aside0.mk (show ((fieldsS s2).1.map toP).length ≤ 3518437208883 by rw [List.length_map]; exact g6)
  have HL3 := Aside0.mk (show ((fieldsS s3).1.map toP).length ≤ 3518437208883 by rw [List.length_map]; exact g9)
  generalize (fieldsS b).1.map toP = L at HO HL h4 h6
  have HW0 := Aside0.mk (fun g u (h : Msg u g L) => msgWhole.calls g L 2 [s1] u h HL.out h6 (by rw [catT_one]; exact g1) (by simp) (by rw [catT_one]; exact g2))
  rw [catT_one] at HW0
  have HW1 := Aside0.mk (fun g u (h : Msg u g ((fieldsS s1).1.map toP)) => msgWhole.calls g ((fieldsS s1).1.map toP) 1 [s2] u h HL1.out h7 (by rw [catT_one]; exact g4) (by simp) (by rw [catT_one]; exact g5))
  rw [catT_one] at HW1
  have HW2 := Aside0.mk (fun g u (h : Msg u g ((fieldsS s2).1.map toP)) => msgWhole.calls g ((fieldsS s2).1.map toP) 2 [s3] u h HL2.out ha (by rw [catT_one]; exact g7) (by simp) (by rw [catT_one]; exact g8))
  rw [catT_one] at HW2
  generalize (fieldsS s1).1.map toP = L1 at *
  generalize (fieldsS s2).1.map toP = L2 at *
  generalize (fieldsS s3).1.map toP = L3 at *
  have H1 := Aside0.mk h4
  have H1t := Aside0.mk h5
  have HK1 := Aside0.mk h8
  have HK1t := Aside0.mk h9
  have HT4 := Aside0.mk hb
  have HDL := Aside0.mk hc
  have HDS := Aside0.mk hd
  have HEA := Aside0.mk he
  have HN := Aside0.mk hf
  have HK0 := Aside0.mk hg
  have HKm := Aside0.mk hh
  have HKs := Aside0.mk hi
  clear h1 h2 h3 h4 h5 h6 g1 g2 g3 h7 g4 g5 g6 h8 h9 ha g7 g8 g9 hb hc hd he hf hg hh hi
  have HB := Aside0.mk (below_alloc (Below.refl w.heap.size w) (Obj.cells #[.string ⟨#[]⟩, .int .i64 0, .slice none 0 0] 29))
  have BK0 := Aside0.mk (blk_new w (Obj.cells #[.string ⟨#[]⟩, .int .i64 0, .slice none 0 0] 29))
  go_enter Tryz.func17, Tryz.ntmps17
  go_wp2_with (first | (fail))
  generalize w.alloc (Obj.cells #[.string ⟨#[]⟩, .int .i64 0, .slice none 0 0] 29) = w0 at HB BK0 ⊢
  refine (HO.out w0).mono ?_
  rintro en u ⟨g, rfl, hM, hB⟩
  have n0_ := Aside0.mk (below_step HB.out hB)
  have n1_ := Aside0.mk (blk_below BK0.out hB)
  clear HB BK0
  have HB := n0_
  have BK0 := n1_
  clear n0_ n1_
  have HM := Aside0.mk hM
  clear hM hB HO
  go_wp2_with (first | (fail))
  refine (msgLast.calls g L 1 2 n _ HM.out HL.out H1.out H1t.out).mono ?_
  rintro en u ⟨rfl, hB⟩
  have n0_ := Aside0.mk (below_step HB.out hB)
  have n1_ := Aside0.mk (blk_below BK0.out hB)
  have n2_ := Aside0.mk (HM.out.below hB)
  clear HB BK0 HM
  have HB := n0_
  have BK0 := n1_
  have HM := n2_
  clear n0_ n1_ n2_
  clear hB
  have n0_ := Aside0.mk (below_step HB.out (below_alloc (Below.refl u.heap.size u) (Obj.cells #[.int .i64 (lastTup n).1, .int .i64 (lastTup n).2.1, .int .u64 (lastTup n).2.2.1, .string (lastTup n).2.2.2.1] 75)))
  have n1_ := Aside0.mk (blk_below BK0.out (below_alloc (Below.refl u.heap.size u) (Obj.cells #[.int .i64 (lastTup n).1, .int .i64 (lastTup n).2.1, .int .u64 (lastTup n).2.2.1, .string (lastTup n).2.2.2.1] 75)))
  have n2_ := Aside0.mk (HM.out.below (below_alloc (Below.refl u.heap.size u) (Obj.cells #[.int .i64 (lastTup n).1, .int .i64 (lastTup n).2.1, .int .u64 (lastTup n).2.2.1, .string (lastTup n).2.2.2.1] 75)))
  clear HB BK0 HM
  have HB := n0_
  have BK0 := n1_
  have HM := n2_
  clear n0_ n1_ n2_
  have BK5 := Aside0.mk (blk_new u (Obj.cells #[.int .i64 (lastTup n).1, .int .i64 (lastTup n).2.1, .int .u64 (lastTup n).2.2.1, .string (lastTup n).2.2.2.1] 75))
  go_wp2_with (first | (fail))
  generalize u.alloc (Obj.cells #[.int .i64 (lastTup n).1, .int .i64 (lastTup n).2.1, .int .u64 (lastTup n).2.2.1, .string (lastTup n).2.2.2.1] 75) = u2 at HB BK0 HM BK5 ⊢
  generalize u.heap.size = g5 at BK5 ⊢
  refine (HW0.out g u2 HM.out).mono ?_
  rintro en u ⟨ga, rfl, hM, hB⟩
  have n0_ := Aside0.mk (below_step HB.out hB)
  have n1_ := Aside0.mk (blk_below BK0.out hB)
  have n2_ := Aside0.mk (HM.out.below hB)
  have n3_ := Aside0.mk (blk_below BK5.out hB)
  clear HB BK0 HM BK5
  have HB := n0_
  have BK0 := n1_
  have HM := n2_
  have BK5 := n3_
  clear n0_ n1_ n2_ n3_
  have HMa := Aside0.mk hM
  clear hM hB
  go_wp2_with (first | (fail))
  refine (HW1.out ga u HMa.out).mono ?_
  rintro en u ⟨gt, rfl, hM, hB⟩
  have n0_ := Aside0.mk (below_step HB.out hB)
  have n1_ := Aside0.mk (blk_below BK0.out hB)
  have n2_ := Aside0.mk (HM.out.below hB)
  have n3_ := Aside0.mk (blk_below BK5.out hB)
  have n4_ := Aside0.mk (HMa.out.below hB)
  clear HB BK0 HM BK5 HMa
  have HB := n0_
  have BK0 := n1_
  have HM := n2_
  have BK5 := n3_
  have HMa := n4_
  clear n0_ n1_ n2_ n3_ n4_
  have HMt := Aside0.mk hM
  clear hM hB
  go_wp2_with (first | (fail))
  refine (msgLast.calls gt L2 1 0 kf _ HMt.out HL2.out HK1.out HK1t.out).mono ?_
  rintro en u ⟨rfl, hB⟩
  have n0_ := Aside0.mk (below_step HB.out hB)
  have n1_ := Aside0.mk (blk_below BK0.out hB)
  have n2_ := Aside0.mk (HM.out.below hB)
  have n3_ := Aside0.mk (blk_below BK5.out hB)
  have n4_ := Aside0.mk (HMa.out.below hB)
  have n5_ := Aside0.mk (HMt.out.below hB)
  clear HB BK0 HM BK5 HMa HMt
  have HB := n0_
  have BK0 := n1_
  have HM := n2_
  have BK5 := n3_
  have HMa := n4_
  have HMt := n5_
  clear n0_ n1_ n2_ n3_ n4_ n5_
  clear hB
  have n0_ := Aside0.mk (below_step HB.out (below_alloc (Below.refl u.heap.size u) (Obj.cells #[.int .i64 (lastTup kf).1, .int .i64 (lastTup kf).2.1, .int .u64 (lastTup kf).2.2.1, .string (lastTup kf).2.2.2.1] 75)))
  have n1_ := Aside0.mk (blk_below BK0.out (below_alloc (Below.refl u.heap.size u) (Obj.cells #[.int .i64 (lastTup kf).1, .int .i64 (lastTup kf).2.1, .int .u64 (lastTup kf).2.2.1, .string (lastTup kf).2.2.2.1] 75)))
  have n2_ := Aside0.mk (HM.out.below (below_alloc (Below.refl u.heap.size u) (Obj.cells #[.int .i64 (lastTup kf).1, .int .i64 (lastTup kf).2.1, .int .u64 (lastTup kf).2.2.1, .string (lastTup kf).2.2.2.1] 75)))
  have n3_ := Aside0.mk (blk_below BK5.out (below_alloc (Below.refl u.heap.size u) (Obj.cells #[.int .i64 (lastTup kf).1, .int .i64 (lastTup kf).2.1, .int .u64 (lastTup kf).2.2.1, .string (lastTup kf).2.2.2.1] 75)))
  have n4_ := Aside0.mk (HMa.out.below (below_alloc (Below.refl u.heap.size u) (Obj.cells #[.int .i64 (lastTup kf).1, .int .i64 (lastTup kf).2.1, .int .u64 (lastTup kf).2.2.1, .string (lastTup kf).2.2.2.1] 75)))
  have n5_ := Aside0.mk (HMt.out.below (below_alloc (Below.refl u.heap.size u) (Obj.cells #[.int .i64 (lastTup kf).1, .int .i64 (lastTup kf).2.1, .int .u64 (lastTup kf).2.2.1, .string (lastTup kf).2.2.2.1] 75)))
  clear HB BK0 HM BK5 HMa HMt
  have HB := n0_
  have BK0 := n1_
  have HM := n2_
  have BK5 := n3_
  have HMa := n4_
  have HMt := n5_
  clear n0_ n1_ n2_ n3_ n4_ n5_
  have BK8 := Aside0.mk (blk_new u (Obj.cells #[.int .i64 (lastTup kf).1, .int .i64 (lastTup kf).2.1, .int .u64 (lastTup kf).2.2.1, .string (lastTup kf).2.2.2.1] 75))
  go_wp2_with (first | (fail))
  generalize u.alloc (Obj.cells #[.int .i64 (lastTup kf).1, .int .i64 (lastTup kf).2.1, .int .u64 (lastTup kf).2.2.1, .string (lastTup kf).2.2.2.1] 75) = u2 at HB BK0 HM BK5 HMa HMt BK8 ⊢
  generalize u.heap.size = g8 at BK8 ⊢
  refine (HW2.out gt u2 HMt.out).mono ?_
  rintro en u ⟨gs, rfl, hM, hB⟩
  have n0_ := Aside0.mk (below_step HB.out hB)
  have n1_ := Aside0.mk (blk_below BK0.out hB)
  have n2_ := Aside0.mk (HM.out.below hB)
  have n3_ := Aside0.mk (blk_below BK5.out hB)
  have n4_ := Aside0.mk (HMa.out.below hB)
  have n5_ := Aside0.mk (HMt.out.below hB)
  have n6_ := Aside0.mk (blk_below BK8.out hB)
  clear HB BK0 HM BK5 HMa HMt BK8
  have HB := n0_
  have BK0 := n1_
  have HM := n2_
  have BK5 := n3_
  have HMa := n4_
  have HMt := n5_
  have BK8 := n6_
  clear n0_ n1_ n2_ n3_ n4_ n5_ n6_
  have HMs := Aside0.mk hM
  clear hM hB
  go_wp2_with (first | (fail))
  refine (msgTexts.calls gs L3 1 ds _ HMs.out HL3.out HT4.out).mono ?_
  rintro en u ⟨Ad, cd, rfl, hR, hB⟩
  have n0_ := Aside0.mk (below_step HB.out hB)
  have n1_ := Aside0.mk (blk_below BK0.out hB)
  have n2_ := Aside0.mk (HM.out.below hB)
  have n3_ := Aside0.mk (blk_below BK5.out hB)
  have n4_ := Aside0.mk (HMa.out.below hB)
  have n5_ := Aside0.mk (HMt.out.below hB)
  have n6_ := Aside0.mk (blk_below BK8.out hB)
  have n7_ := Aside0.mk (HMs.out.below hB)
  clear HB BK0 HM BK5 HMa HMt BK8 HMs
  have HB := n0_
  have BK0 := n1_
  have HM := n2_
  have BK5 := n3_
  have HMa := n4_
  have HMt := n5_
  have BK8 := n6_
  have HMs := n7_
  clear n0_ n1_ n2_ n3_ n4_ n5_ n6_ n7_
  have HFd := Aside0.mk (Kd.R_F hR)
  clear hR hB
  have cs1 : u.cell? ⟨gs, 1, none⟩ = some (.int .i64 0) := HMs.out.code
  go_wp2_with (first | (fail))
  go_quiet (first | (go_at_call 30; exact Calls.quiet_of_same (msgWrong.calls g 0 _)))
  clear cs1
  have n0_ := Aside0.mk (pw_below_drewN HB.out nq)
  have n1_ := Aside0.mk (blk_drewN BK0.out nq)
  have n2_ := Aside0.mk (HM_drew HM.out nq)
  have n3_ := Aside0.mk (blk_drewN BK5.out nq)
  have n4_ := Aside0.mk (HM_drew HMa.out nq)
  have n5_ := Aside0.mk (HM_drew HMt.out nq)
  have n6_ := Aside0.mk (blk_drewN BK8.out nq)
  have n7_ := Aside0.mk (HM_drew HMs.out nq)
  have n8_ := Aside0.mk (Kd.F_step (W1 := u.drewN nq) HFd.out (fun _ _ _ => rfl))
  clear HB BK0 HM BK5 HMa HMt BK8 HMs HFd
  have HB := n0_
  have BK0 := n1_
  have HM := n2_
  have BK5 := n3_
  have HMa := n4_
  have HMt := n5_
  have BK8 := n6_
  have HMs := n7_
  have HFd := n8_
  clear n0_ n1_ n2_ n3_ n4_ n5_ n6_ n7_ n8_
  generalize u.drewN nq = u3 at HB BK0 HM BK5 HMa HMt BK8 HMs HFd ⊢
  go_wp2_with (first | (fail))
  obtain ⟨Am, cm, -, hbm, -⟩ := HM.out
  have BKm := Aside0.mk hbm
  have n0_ := Aside0.mk (Kd.F_mono (ok' := fun k_ => k_ < u3.heap.size) (Kd.F_bound HFd.out) (fun _ hk => hk.2))
  have HLm := Aside0.mk (blk_lt BKm.out)
  have HL0 := Aside0.mk (blk_lt BK0.out)
  have HL5 := Aside0.mk (blk_lt BK5.out)
  have HL8 := Aside0.mk (blk_lt BK8.out)
  have HLB := Aside0.mk (Nat.le_refl u3.heap.size)
  clear hbm HM HMa HMt HMs HFd
  have HFd := n0_
  clear n0_
  obtain ⟨B, hBe⟩ : ∃ B, B = u3.heap.size := ⟨_, rfl⟩
  rw [← hBe] at HFd HLm HL0 HL5 HL8
  have HLB := Aside0.mk (Nat.le_of_eq hBe)
  clear hBe
  go_loopg [12, 50] ds.length (fun kq v12 v50 w' => ∃ (i : Nat) (v : Value) (xs : List Int), v12 = v ∧ v50 = .int .i64 i ∧ Aside0 (xs = dims.take i) ∧ Aside0 (i + kq = ds.length) ∧ i ≤ ds.length ∧ Aside0 (Below w.heap.size w w') ∧ Aside0 (B ≤ w'.heap.size) ∧ Aside0 (w'.heap[w.heap.size]? = some (.cells #[.string ⟨#[]⟩, .int .i64 0, .slice none 0 0] 29 (0, 0))) ∧ Aside0 (w'.heap[g]? = some (.cells #[.slice Am L.length cm, .int .i64 0] 81 (0, 0))) ∧ Aside0 (w'.heap[g5]? = some (.cells #[.int .i64 (lastTup n).1, .int .i64 (lastTup n).2.1, .int .u64 (lastTup n).2.2.1, .string (lastTup n).2.2.2.1] 75 (0, 0))) ∧ Aside0 (w'.heap[g8]? = some (.cells #[.int .i64 (lastTup kf).1, .int .i64 (lastTup kf).2.1, .int .u64 (lastTup kf).2.2.1, .string (lastTup kf).2.2.2.1] 75 (0, 0))) ∧ Aside0 (Kd.F Kd.string w' (fun k_ => k_ < B) Ad ds.length ds) ∧ Aside0 (Kd.N (Kd.int .i64) 2 w' w.heap.size (fun k_ => B ≤ k_) v xs))
  case atStart => exact ⟨0, .slice none 0 0, [], rfl, rfl, ⟨rfl⟩, ⟨by omega⟩, Nat.zero_le _, HB, HLB, BK0, BKm, BK5, BK8, HFd, ⟨Kd.N_nil _ _ _ _ _⟩⟩
  case round =>
  clear HB HLB BK0 BKm BK5 BK8 HFd
  obtain ⟨i, v, xs, rfl, rfl, HXS, HK, hi, HB, HLB, BK0, BKm, BK5, BK8, HFd, HNv⟩ := hrel
  obtain ⟨Av, cv, rfl⟩ := Kd.N_slice HNv.out
  by_cases hlt : i < ds.length
  · have hlt' : decide ((i : Int) < (ds.length : Int)) = true := by simpa using hlt
    obtain ⟨kk, rfl⟩ : ∃ m, gk = m + 1 := ⟨gk - 1, by have := HK.out; omega⟩
    have p101 : 0 ≤ (i : Int) := Int.natCast_nonneg i
    have q101 : (i : Int) < (ds.length : Int) := by omega
    obtain ⟨ad101, e101, hx101⟩ := Kd.at_string (Kd.F_now HFd.out) (i : Int) p101 q101
    cases e101
    have hr : rdOf ByteArray.empty ds (i : Int) = ds[i] := by simp [rdOf, hlt]
    rw [Int.toNat_natCast, hr] at hx101
    have hla : i < dims.length := by have := HDS.out; omega
    obtain ⟨hA1, hA2, hA3, y, hA4, hA5, hA6⟩ := HEA.out i hlt hla
    have HC := Aside0.mk (pbDim.calls ds[i] hA1 hA2 hA3 y hA4 hA5)
    rw [hA6] at HC
    have HT := Aside0.mk (List.take_succ_eq_append_getElem hla)
    have HXL := Aside0.mk (show xs.length ≤ i by rw [HXS.out]; exact List.length_take_le _ _)
    generalize dims[i] = x at HC HT
    generalize ds[i] = tx at HC hx101
    have Hw : Aside0 (wrap64 ((i : Int) + 1) = (i : Int) + 1) := ⟨by have := HDL.out; exact wrap64_id (by omega) (by omega)⟩
    have HO2 := Aside0.mk HNv.out.1
    clear hr hA1 hA2 hA3 hA4 hA5 hA6 hla y
    replace p101 := eq_true p101
    replace q101 := eq_true q101
    go_wp2_with (first | (fail))
    refine (HC.out wr).mono ?_
    rintro en u ⟨rfl, hB⟩
    have nB_ := Aside0.mk (Nat.le_trans HLB.out hB.size)
    have n0_ := Aside0.mk (below_step HB.out hB)
    have n1_ := Aside0.mk (blk_below BK0.out hB)
    have n2_ := Aside0.mk (blk_below BKm.out hB)
    have n3_ := Aside0.mk (blk_below BK5.out hB)
    have n4_ := Aside0.mk (blk_below BK8.out hB)
    have n5_ := Aside0.mk (F_below HFd.out hB)
    have n6_ := Aside0.mk (Kd.N_below HNv.out hB)
    clear HB BK0 BKm BK5 BK8 HFd HNv
    have HB := n0_
    have BK0 := n1_
    have BKm := n2_
    have BK5 := n3_
    have BK8 := n4_
    have HFd := n5_
    have HNv := n6_
    clear n0_ n1_ n2_ n3_ n4_ n5_ n6_
    clear hB hx101 HC HLB
    have HLB := nB_
    clear nB_
    go_wp2_with (first | (fail))
    refine (msgWrong.calls g 0 _).mono ?_
    rintro en u ⟨rfl, rfl⟩
    go_wp2_with (first | ((with_reducible refine gate_builtin (b := .append) (xs := #[.tmp 64, .tmp 66]) rfl ?_); at_builtin; refine Kd.N_append (Kd.int .i64) (w0 := w) w.heap.size rfl (.tmp 64) (.tmp 66) 27 2 (.int .i64 0) 8 rfl Tryz.underlying27 info2 rfl (by decide) (by omega) (.slice Av xs.length cv) xs x [.int .i64 x] (fun k_ => B ≤ k_) (fun k_ => B ≤ k_ ∧ some k_ ≠ (Value.slice Av xs.length cv).ownBlock) rfl rfl ?aP (fun _ hk => hk) ?aF ?aO ?aB ?aS ?aL ?_; (case aP => exact fun _ _ => rfl); (case aF => intro k_ hk; have h_ := HLB.out; omega); (case aO => exact HNv.out); (case aB => exact HB.out); (case aS => exact HB.out.size); (case aL => have h_ := HDL.out; have h2_ := HXL.out; omega); intro v1 w25 ho hb hg hat; obtain ⟨A1, c1, rfl⟩ := Kd.N_slice ho; have n0_ := Aside0.mk hb; have nB_ := Aside0.mk (Nat.le_trans HLB.out hg.size); have n1_ := Aside0.mk ((hg.block _ (blk_lt BK0.out) (fun e => by have h1_ := HO2.out _ e.symm; have h3_ := HL0.out; omega)).trans BK0.out); have n2_ := Aside0.mk ((hg.block _ (blk_lt BKm.out) (fun e => by have h1_ := HO2.out _ e.symm; have h3_ := HLm.out; omega)).trans BKm.out); have n3_ := Aside0.mk ((hg.block _ (blk_lt BK5.out) (fun e => by have h1_ := HO2.out _ e.symm; have h3_ := HL5.out; omega)).trans BK5.out); have n4_ := Aside0.mk ((hg.block _ (blk_lt BK8.out) (fun e => by have h1_ := HO2.out _ e.symm; have h3_ := HL8.out; omega)).trans BK8.out); have n5_ := Aside0.mk (Kd.F_step HFd.out (fun k_ hk hl_ => hg.block k_ hl_ (fun e => by have h1_ := HO2.out _ e.symm; omega))); have n7_ := Aside0.mk ho; clear HB HLB BK0 BKm BK5 BK8 HFd HNv hg hat ho hb; have HB := n0_; have HLB := nB_; have BK0 := n1_; have BKm := n2_; have BK5 := n3_; have BK8 := n4_; have HFd := n5_; have HNv := n7_; clear n0_ nB_ n1_ n2_ n3_ n4_ n5_ n7_))
    go_roundg kk
    case measure => have := HK.out; omega
    case rel => exact ⟨i + 1, _, xs ++ [x], rfl, by rw [Hw.out]; rfl, ⟨by rw [HXS.out]; exact HT.out.symm⟩, ⟨by have := HK.out; omega⟩, by omega, HB, HLB, BK0, BKm, BK5, BK8, HFd, ⟨by have h_ := HNv.out; rw [List.length_append] at h_; exact h_⟩⟩
  · have hlt' : decide ((i : Int) < (ds.length : Int)) = false := by simpa using hlt
    obtain rfl : xs = dims := HXS.out.trans (List.take_of_length_le (by have := HDS.out; omega))
    have c82 : wr.cell? ⟨g8, 2, none⟩ = some (.int .u64 (lastTup kf).2.2.1) := blk_cell BK8.out 2
    have c53 : wr.cell? ⟨g5, 3, none⟩ = some (.string (lastTup n).2.2.2.1) := blk_cell BK5.out 3
    have hle : decide ((lastTup kf).2.2.1 ≤ 1048576) = true := decide_eq_true HKm.out
    have hw : wrap64 (lastTup kf).2.2.1 = (lastTup kf).2.2.1 := wrap64_id (by have := HK0.out; omega) (by have := HKm.out; omega)
    clear HXS hi HK HFd
    go_wp2_with (first | (fail))
    refine (tensor_Name.calls K _ true _ HN.out).mono ?_
    rintro en u2 ⟨rfl, ⟨nd, rfl⟩⟩
    clear c53 c82 hle
    have n0_ := Aside0.mk (pw_below_drewN HB.out nd)
    have n1_ := Aside0.mk (blk_drewN BK0.out nd)
    have n2_ := Aside0.mk (blk_drewN BKm.out nd)
    have n3_ := Aside0.mk (blk_drewN BK5.out nd)
    have n4_ := Aside0.mk (Kd.N_drewN HNv.out nd)
    clear BK8 HB BK0 BKm BK5 HNv
    have HB := n0_
    have BK0 := n1_
    have BKm := n2_
    have BK5 := n3_
    have HNv := n4_
    clear n0_ n1_ n2_ n3_ n4_
    generalize wr.drewN nd = u4 at HB BK0 BKm BK5 HNv ⊢
    go_wp2_with (first | (fail))
    refine (msgWrong.calls g 8 _).mono ?_
    rintro en u4 ⟨rfl, rfl⟩
    go_wp2_with (first | (fail))
    refine (kind_Size.calls (lastTup kf).2.2.1 _).mono ?_
    rintro en u ⟨rfl, hB⟩
    have n0_ := Aside0.mk (below_step HB.out hB)
    have n1_ := Aside0.mk (blk_below BK0.out hB)
    have n2_ := Aside0.mk (blk_below BKm.out hB)
    have n3_ := Aside0.mk (blk_below BK5.out hB)
    have n4_ := Aside0.mk (Kd.N_below HNv.out hB)
    clear HB BK0 BKm BK5 HNv
    have HB := n0_
    have BK0 := n1_
    have BKm := n2_
    have BK5 := n3_
    have HNv := n4_
    clear n0_ n1_ n2_ n3_ n4_
    clear hB
    have hs : (sizeK (lastTup kf).2.2.1 == 0) = false := beq_eq_false_iff_ne.2 HKs.out
    go_wp2_with (first | (fail))
    refine (msgWrong.calls g 5 _).mono ?_
    rintro en u ⟨rfl, rfl⟩
    clear hs
    have cm1 : u.cell? ⟨g, 1, none⟩ = some (.int .i64 0) := blk_cell BKm.out 1
    have c53 : u.cell? ⟨g5, 3, none⟩ = some (.string (lastTup n).2.2.2.1) := blk_cell BK5.out 3
    have z0 : u.cell? ⟨w.heap.size, 0, none⟩ = some (.string ⟨#[]⟩) := blk_cell BK0.out 0
    have y0 := blk_frozen BK0.out 0
    have z1 : u.cell? ⟨w.heap.size, 1, none⟩ = some (.int .i64 0) := blk_cell BK0.out 1
    have y1 := blk_frozen BK0.out 1
    have z2 : u.cell? ⟨w.heap.size, 2, none⟩ = some (.slice none 0 0) := blk_cell BK0.out 2
    have y2 := blk_frozen BK0.out 2
    go_wp2_with (first | (fail))
    refine bodyPost_ret (results_cell_tmp_row rfl _ _ w.heap.size 29 #[.string (lastTup n).2.2.2.1, .int .i64 (lastTup kf).2.2.1, .slice Av xs.length cv] (0, 0) _ rfl (by refine blk_put (cs := #[.string (lastTup n).2.2.2.1, .int .i64 (lastTup kf).2.2.1, .slice none 0 0]) ?_ 2 _ rfl; refine blk_put (cs := #[.string (lastTup n).2.2.2.1, .int .i64 0, .slice none 0 0]) ?_ 1 _ rfl; refine blk_put (cs := #[.string ⟨#[]⟩, .int .i64 0, .slice none 0 0]) ?_ 0 _ rfl; exact BK0.out) Tryz.underlying29 rfl (by kernel_rfl)) rfl ?_
    refine ⟨Av, cv, rfl, Kd.V_mk (Kd.N_reads' HNv.out).2.1 (Kd.F_mono (Kd.F_step (Kd.N_F HNv.out) (fun k_ hk hlt => ?_)) (fun k_ hk => by have := HL0.out; omega)), below_set (below_set (below_set HB.out (Nat.le_refl _)) (Nat.le_refl _)) (Nat.le_refl _)⟩
    have hne : k_ ≠ w.heap.size := by have := HL0.out; omega
    rw [Below.heap_setCell _ _ _ k_ hne, Below.heap_setCell _ _ _ k_ hne, Below.heap_setCell _ _ _ k_ hne]
end Go.Proofs.YthidedmnmdlfkaaGreat.X
