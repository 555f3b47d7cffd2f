import Derived.Test.YtdemgfbolcmcdaaMOpsAll3
import Derived.Test.YtdemgfbolcmcdaaMOpsAll4
import Derived.Test.YtdemgfbolcmcdaaMOpsAll7
import Derived.Test.YtdemgfbolcmcdaaMOpsAll11
import Derived.Test.YtdemgfbolcmcdaaMOpsAll6
import Derived.Laws.ResultCell
namespace Go.Proofs.Ytdemgfbolcmcdaa.X
open Go.RowKit Go.Proofs.YtdemgfbolcmcdaaW.PrintWords Go.Proofs.YtdemgfbolcmcdaaW.PrintLast Go.Proofs.YtdemgfbolcmcdaaW.PrintMore
attribute [local go_sem] max2_int min2_int max_two min_two max_three min_three max_four min_four
set_option linter.unusedVariables false
set_option linter.unusedSimpArgs false
def agatelaw07_Awake.f : Option Bool := some true
theorem awake07_check : tensor_Tensor_Check.f 20 ⟨#[97]⟩ 7 [2] (catLaid [1, -1]) = some 0 := by decide +kernel
theorem awake07_size : (catLaid [1, -1]).size = 16 := catLaid_size _
theorem set4_C {w : World} {A : Option Addr} {n g : Nat} {xs : List Int} {cs : Array Value} (h : Kd.C (Kd.int .i64) w A n xs) (hb : w.heap[g]? = some (.cells cs 51 (0, 0))) (hfar : ∀ ad, A = some ad → 0 < n → ad.block ≠ g) (a b c d : Value) : Kd.C (Kd.int .i64) ((((w.setCell ⟨g, 0, none⟩ a).setCell ⟨g, 1, none⟩ b).setCell ⟨g, 2, none⟩ c).setCell ⟨g, 3, none⟩ d) A n xs := by
  have h0 := Kd.reads_of_C (enc := Value.int .i64) (d := (0 : Int)) (h1 := fun _ => rfl) h
  refine Kd.C_of_reads (d := (0 : Int)) (h1 := fun _ => rfl) ⟨h0.1, h0.2.1, fun hn => ?_⟩
  obtain ⟨ad, e, hc⟩ := h0.2.2 hn
  refine ⟨ad, e, fun j hj => ?_⟩
  have hne := hfar ad e hn
  have hb2 : (ad.add j).block = ad.block := by unfold Addr.add; split <;> rfl
  rw [World.cell?_setCell_other _ _ _ _ (by intro he; exact hne (by rw [← hb2, ← he])), World.cell?_setCell_other _ _ _ _ (by intro he; exact hne (by rw [← hb2, ← he])), World.cell?_setCell_other _ _ _ _ (by intro he; exact hne (by rw [← hb2, ← he])), World.cell?_setCell_other _ _ _ _ (by intro he; exact hne (by rw [← hb2, ← he]))]
  exact hc j hj
set_option maxHeartbeats 8000000 in
set_option maxRecDepth 100000 in
theorem agatelaw07_Awake.calls (r : Bool) (w : World) (h : agatelaw07_Awake.f = some r) :
    Calls Try.prog 35 #[] w fun e w' => e = .returned (.bool r) ∧ Below w.heap.size w w' := by
  obtain rfl := Option.some.inj h
  clear h
  go_enter Try.func35, Try.ntmps35
  go_wp2_with (first | (fail))
  have hb0 : ((w.alloc (Obj.cells #[Value.int IntKind.i64 2] 2)).alloc (Obj.cells #[Value.int IntKind.i64 1, Value.int IntKind.i64 (-1)] 2)).heap[w.heap.size]? = some (Obj.cells #[Value.int IntKind.i64 2] 2) := blk_alloc (blk_new w _) _
  have hb1 : ((w.alloc (Obj.cells #[Value.int IntKind.i64 2] 2)).alloc (Obj.cells #[Value.int IntKind.i64 1, Value.int IntKind.i64 (-1)] 2)).heap[w.heap.size + 1]? = some (Obj.cells #[Value.int IntKind.i64 1, Value.int IntKind.i64 (-1)] 2) := by
    have h := blk_new (w.alloc (Obj.cells #[Value.int IntKind.i64 2] 2)) (Obj.cells #[Value.int IntKind.i64 1, Value.int IntKind.i64 (-1)] 2)
    rw [alloc_size] at h; exact h
  have r0 : Kd.C (Kd.int .i64) ((w.alloc (Obj.cells #[Value.int IntKind.i64 2] 2)).alloc (Obj.cells #[Value.int IntKind.i64 1, Value.int IntKind.i64 (-1)] 2)) (some ⟨w.heap.size, 0, none⟩) ([2] : List Int).length [2] := Kd.C_of_reads (d := (0 : Int)) (h1 := fun _ => rfl) ⟨rfl, by decide, fun _ => ⟨_, rfl, fun j hj => by
    have hj0 : j = 0 := by simp at hj; omega
    subst hj0
    exact (blk_cell hb0 0).trans rfl⟩⟩
  have r1 : Kd.C (Kd.int .i64) ((w.alloc (Obj.cells #[Value.int IntKind.i64 2] 2)).alloc (Obj.cells #[Value.int IntKind.i64 1, Value.int IntKind.i64 (-1)] 2)) (some ⟨w.heap.size + 1, 0, none⟩) ([1, -1] : List Int).length [1, -1] := Kd.C_of_reads (d := (0 : Int)) (h1 := fun _ => rfl) ⟨rfl, by decide, fun _ => ⟨_, rfl, fun j hj => by
    have hj0 : j = 0 ∨ j = 1 := by simp at hj; omega
    rcases hj0 with rfl | rfl
    · exact (blk_cell hb1 0).trans rfl
    · exact (blk_cell hb1 1).trans rfl⟩⟩
  have HB := Aside0.mk (below_alloc (below_alloc (Below.refl w.heap.size w) (Obj.cells #[Value.int IntKind.i64 2] 2)) (Obj.cells #[Value.int IntKind.i64 1, Value.int IntKind.i64 (-1)] 2))
  clear hb0 hb1
  refine (tensor_OfInts0.calls ⟨#[97]⟩ _ 1 [2] _ 2 [1, -1] _ r0 (Nat.le_refl _) r1 (Nat.le_refl _) (by decide) (by decide) (by simp)).mono ?_
  rintro e w1 ⟨v2, rfl, hR, hb⟩
  obtain ⟨A2, cp2, rfl⟩ := Kd.R_slice hR
  have n0_ := Aside0.mk (below_step HB.out hb)
  obtain ⟨A3, c3, he, hc3, hC⟩ := Kd.R_reads hR
  cases he
  have HC := Aside0.mk hC
  have HCC := Aside0.mk hc3
  have HF := Aside0.mk (show ∀ ad, A2 = some ad → ad.block < w1.heap.size from fun ad e => by
    obtain ⟨ad2, e2, h2⟩ := (Kd.reads_of_C (enc := Value.int .i64) (d := (0 : Int)) (h1 := fun _ => rfl) hC).2.2 (by decide)
    rw [e] at e2; cases e2
    exact World.block_lt_of_cell? w1 _ (h2 0 (by decide)))
  clear HB hb hR hC hc3 r0 r1
  have HB := n0_
  clear n0_
  have hsz := Aside0.mk awake07_size
  generalize hdd : catLaid [1, -1] = dd at hsz ⊢
  have HD := Aside0.mk hdd
  clear hdd
  go_wp2_with (first | ((with_reducible refine gate_dst (N := 1) rfl ?_); refine box_event ?hg (N := 1) ?hd (cs := #[.string (⟨#[]⟩ : ByteArray), .int .i64 0, .slice none 0 0, .string (⟨#[]⟩ : ByteArray)]) (t := 51) ?hr ?_; (case hd => rfl); (case hg => rfl); (case hr => first | (go_simp; done) | (go_simp; rfl)); intro gT hg wT hbox hb; have m0_ := Aside0.mk (below_step HB.out hb); have m1_ := Aside0.mk hbox; have m2_ := Aside0.mk (by rw [hg]; exact below_size HB.out : w.heap.size ≤ gT); have m3_ := Aside0.mk (Kd.C_below HC.out hb); clear HB HC; have HB := m0_; have BKT := m1_; have GWT := m2_; have HC := m3_; clear m0_ m1_ m2_ m3_; have HN := Aside0.mk (show ∀ ad, A2 = some ad → 0 < ([2] : List Int).length → ad.block ≠ gT from fun ad e _ => by have := HF.out ad e; omega); clear hb hbox hg; have c0 : wT.cell? ⟨gT, 0, none⟩ = some (.string (⟨#[]⟩ : ByteArray)) := (blk_cell BKT.out 0).trans rfl; have f0 := blk_frozen BKT.out 0; have c1 : wT.cell? ⟨gT, 1, none⟩ = some (.int .i64 0) := (blk_cell BKT.out 1).trans rfl; have f1 := blk_frozen BKT.out 1; have c2 : wT.cell? ⟨gT, 2, none⟩ = some (.slice none 0 0) := (blk_cell BKT.out 2).trans rfl; have f2 := blk_frozen BKT.out 2; have c3 : wT.cell? ⟨gT, 3, none⟩ = some (.string (⟨#[]⟩ : ByteArray)) := (blk_cell BKT.out 3).trans rfl; have f3 := blk_frozen BKT.out 3) | (fail))
  refine (agatelaw04_Awake.calls true _ rfl).mono ?_
  rintro e w4 ⟨rfl, hb⟩
  have n0_ := Aside0.mk (below_step (below_set (below_set (below_set (below_set HB.out GWT.out) GWT.out) GWT.out) GWT.out) hb)
  have n1_ := Aside0.mk (show w4.heap[gT]? = some (.cells #[.string ⟨#[97]⟩, .int .i64 7, .slice A2 ([2] : List Int).length cp2, .string dd] 51 (0, 0)) from blk_below (blk_put (blk_put (blk_put (blk_put BKT.out 0 _ rfl) 1 _ rfl) 2 _ rfl) 3 _ rfl) hb)
  have n2_ := Aside0.mk (Kd.C_below (set4_C HC.out BKT.out HN.out _ _ _ _) hb)
  clear HB BKT HC hb
  have HB := n0_
  have BKT := n1_
  have HC := n2_
  clear n0_ n1_ n2_
  have c0w4 : w4.cell? ⟨gT, 0, none⟩ = some (.string ⟨#[97]⟩) := (blk_cell BKT.out 0).trans rfl
  have f0w4 := blk_frozen BKT.out 0
  have c1w4 : w4.cell? ⟨gT, 1, none⟩ = some (.int .i64 7) := (blk_cell BKT.out 1).trans rfl
  have f1w4 := blk_frozen BKT.out 1
  have c2w4 : w4.cell? ⟨gT, 2, none⟩ = some (.slice A2 ([2] : List Int).length cp2) := (blk_cell BKT.out 2).trans rfl
  have f2w4 := blk_frozen BKT.out 2
  have c3w4 : w4.cell? ⟨gT, 3, none⟩ = some (.string dd) := (blk_cell BKT.out 3).trans rfl
  have f3w4 := blk_frozen BKT.out 3
  go_wp2_with (first | (fail))
  refine (agatelaw05_Awake_s.calls true _ rfl).mono ?_
  rintro e w5 ⟨rfl, hb⟩
  have n0_ := Aside0.mk (below_step (HB.out) hb)
  have n1_ := Aside0.mk (show w5.heap[gT]? = some (.cells #[.string ⟨#[97]⟩, .int .i64 7, .slice A2 ([2] : List Int).length cp2, .string dd] 51 (0, 0)) from blk_below BKT.out hb)
  have n2_ := Aside0.mk (Kd.C_below (HC.out) hb)
  clear HB BKT HC hb
  have HB := n0_
  have BKT := n1_
  have HC := n2_
  clear n0_ n1_ n2_
  have c0w5 : w5.cell? ⟨gT, 0, none⟩ = some (.string ⟨#[97]⟩) := (blk_cell BKT.out 0).trans rfl
  have f0w5 := blk_frozen BKT.out 0
  have c1w5 : w5.cell? ⟨gT, 1, none⟩ = some (.int .i64 7) := (blk_cell BKT.out 1).trans rfl
  have f1w5 := blk_frozen BKT.out 1
  have c2w5 : w5.cell? ⟨gT, 2, none⟩ = some (.slice A2 ([2] : List Int).length cp2) := (blk_cell BKT.out 2).trans rfl
  have f2w5 := blk_frozen BKT.out 2
  have c3w5 : w5.cell? ⟨gT, 3, none⟩ = some (.string dd) := (blk_cell BKT.out 3).trans rfl
  have f3w5 := blk_frozen BKT.out 3
  go_wp2_with (first | (fail))
  refine (agatelaw06_Awake.calls true _ rfl).mono ?_
  rintro e w6 ⟨rfl, hb⟩
  have n0_ := Aside0.mk (below_step (HB.out) hb)
  have n1_ := Aside0.mk (show w6.heap[gT]? = some (.cells #[.string ⟨#[97]⟩, .int .i64 7, .slice A2 ([2] : List Int).length cp2, .string dd] 51 (0, 0)) from blk_below BKT.out hb)
  have n2_ := Aside0.mk (Kd.C_below (HC.out) hb)
  clear HB BKT HC hb
  have HB := n0_
  have BKT := n1_
  have HC := n2_
  clear n0_ n1_ n2_
  have c0w6 : w6.cell? ⟨gT, 0, none⟩ = some (.string ⟨#[97]⟩) := (blk_cell BKT.out 0).trans rfl
  have f0w6 := blk_frozen BKT.out 0
  have c1w6 : w6.cell? ⟨gT, 1, none⟩ = some (.int .i64 7) := (blk_cell BKT.out 1).trans rfl
  have f1w6 := blk_frozen BKT.out 1
  have c2w6 : w6.cell? ⟨gT, 2, none⟩ = some (.slice A2 ([2] : List Int).length cp2) := (blk_cell BKT.out 2).trans rfl
  have f2w6 := blk_frozen BKT.out 2
  have c3w6 : w6.cell? ⟨gT, 3, none⟩ = some (.string dd) := (blk_cell BKT.out 3).trans rfl
  have f3w6 := blk_frozen BKT.out 3
  have q16 : ((dd.size : Int) == 16) = true := beq_iff_eq.2 (by have := hsz.out; omega)
  have q17 := hsz.out
  go_wp2_with (first | (fail))
  refine (tensor_Tensor_Check.calls 20 ⟨#[97]⟩ 7 A2 cp2 [2] dd 0 _ HC.out HCC.out (by rw [← HD.out]; exact awake07_check)).mono ?_
  rintro e w7 ⟨rfl, hb⟩
  have n0_ := Aside0.mk (below_step HB.out hb)
  clear HB hb
  have HB := n0_
  go_wp2_with (first | (fail))
  go_ret
  exact ⟨rfl, HB.out⟩
end Go.Proofs.Ytdemgfbolcmcdaa.X
namespace Go.Proofs.Ytdemgfbolcmcdaa.X
open Go.RowKit Go.Proofs.YtdemgfbolcmcdaaW.PrintWords Go.Proofs.YtdemgfbolcmcdaaW.PrintLast Go.Proofs.YtdemgfbolcmcdaaW.PrintMore
attribute [local go_sem] max2_int min2_int max_two min_two max_three min_three max_four min_four
set_option linter.unusedVariables false
set_option linter.unusedSimpArgs false
def idxS : List ByteArray → ByteArray → Nat → Int
  | [], _, _ => -1
  | x :: t, nm, i => if x = nm then (i : Int) else idxS t nm (i + 1)
def nmAttr (l : List S35) : List ByteArray := l.map (fun x => x.f0)
set_option maxHeartbeats 8000000 in
theorem closAttr.calls (e : S35) (A3 : Option Addr) (c3 : Nat) (gb : Nat) (nm : ByteArray) (w : World) (hb : w.heap[gb]? = some (.cells #[.string nm] 9 (0, 0))) :
    Calls Try.prog 37 #[.agg #[.string e.f0, .bool e.f1, .int .i64 e.f2, .slice A3 e.f3.length c3], .pointer (some ⟨gb, 0, none⟩)] w fun e' w' => e' = .returned (.bool (e.f0.toList == nm.toList)) ∧ Below w.heap.size w w' := by
  have hu := Try.underlying35
  have HB0 := Aside0.mk hb
  have hc : w.cell? ⟨gb, 0, none⟩ = some (.string nm) := blk_cell hb 0
  clear hb
  go_enter Try.func37, Try.ntmps37
  have hlt : gb < w.heap.size := blk_lt HB0.out
  go_wp2
  go_ret
  exact ⟨rfl, below_alloc (Below.refl w.heap.size w) _⟩
set_option maxHeartbeats 8000000 in
set_option maxRecDepth 100000 in
theorem idxAttr.calls (A0 : Option Addr) (c0 : Nat) (l0 : List S35) (gb : Nat) (nm : ByteArray) (w : World) (hr0 : Kd.C k35 w A0 l0.length l0) (hc0 : l0.length ≤ c0) (hl : l0.length ≤ 1000000) (hb : w.heap[gb]? = some (.cells #[.string nm] 9 (0, 0))) :
    Calls Try.prog 36 #[.slice A0 l0.length c0, .func (Fn.func 37) #[] #[.pointer (some ⟨gb, 0, none⟩)]] w fun e w' => e = .returned (.int .i64 (idxS (nmAttr l0) nm 0)) ∧ Below w.heap.size w w' := by
  have HR0 := Aside0.mk hr0
  have HB0 := Aside0.mk hb
  have HL := Aside0.mk hl
  have HB := Aside0.mk (Below.refl w.heap.size w)
  clear hr0 hb hl hc0
  go_enter Try.func36, Try.ntmps36
  go_wp2
  go_loopg [8] l0.length (fun kq v8 w' => ∃ i : Nat, v8 = .int .i64 i ∧ Aside0 (i + kq = l0.length) ∧ i ≤ l0.length ∧ Aside0 (idxS (nmAttr l0) nm 0 = idxS ((nmAttr l0).drop i) nm i) ∧ Aside0 (Below w.heap.size w w'))
  case atStart => exact ⟨0, rfl, ⟨by omega⟩, Nat.zero_le _, ⟨rfl⟩, HB⟩
  case round =>
    clear HB
    obtain ⟨i, rfl, HK, hi, HI, HB⟩ := hrel
    by_cases hlt : i < l0.length
    · have hlt' : decide ((i : Int) < (l0.length : Int)) = true := by simpa using hlt
      obtain ⟨kk, rfl⟩ : ∃ m, gk = m + 1 := ⟨gk - 1, by have := HK.out; omega⟩
      have p101 : 0 ≤ (i : Int) := Int.natCast_nonneg i
      have q101 : (i : Int) < (l0.length : Int) := by omega
      obtain ⟨ad101, A3, c3, e101, hx101_0, hx101_1, hx101_2, hx101_3, hl101_3, hi101_3⟩ := at_T35 (Kd.C_below HR0.out HB.out) (i : Int) p101 q101
      cases e101
      clear hl101_3 hi101_3
      rw [Int.toNat_natCast] at hx101_0 hx101_1 hx101_2 hx101_3
      have hr : rd_T35 l0 (i : Int) = l0[i] := by simp [rd_T35, hlt]
      have hn : (nmAttr l0).drop i = l0[i].f0 :: (nmAttr l0).drop (i + 1) := by
        unfold nmAttr
        rw [List.drop_eq_getElem_cons (by rw [List.length_map]; exact hlt), List.getElem_map]
      rw [hr] at hx101_0 hx101_1 hx101_2 hx101_3
      have HN := Aside0.mk hn
      clear hr hn
      have Hw : Aside0 (wrap64 ((i : Int) + 1) = (i : Int) + 1) := ⟨by have := HL.out; exact wrap64_id (by omega) (by omega)⟩
      replace p101 := eq_true p101
      replace q101 := eq_true q101
      go_wp2_with (first | (fail))
      refine (closAttr.calls l0[i] A3 c3 gb nm _ (blk_below HB0.out HB.out)).mono ?_
      rintro e w8 ⟨rfl, hb⟩
      have n0_ := Aside0.mk (below_step HB.out hb)
      clear HB hb
      have HB := n0_
      clear n0_
      by_cases hx : l0[i].f0 = nm
      · have hq : (l0[i].f0.toList == nm.toList) = true := by rw [hx]; exact beq_self_eq_true _
        have HX : Aside0 (idxS (nmAttr l0) nm 0 = (i : Int)) := ⟨by rw [HI.out, HN.out, idxS, if_pos hx]⟩
        clear hx
        go_wp2_with (first | (fail))
        go_ret
        exact ⟨by rw [HX.out]; rfl, HB.out⟩
      · have hq : (l0[i].f0.toList == nm.toList) = false := beq_eq_false_iff_ne.2 (fun h => hx (toList_inj.1 h))
        have HX : Aside0 (idxS (nmAttr l0) nm 0 = idxS ((nmAttr l0).drop (i + 1)) nm (i + 1)) := ⟨by rw [HI.out, HN.out, idxS, if_neg hx]⟩
        clear hx
        go_wp2_with (first | (fail))
        go_roundg kk
        case measure => have := HK.out; omega
        case rel => exact ⟨i + 1, by rw [Hw.out]; rfl, ⟨by have := HK.out; omega⟩, by omega, HX, HB⟩
    · have hlt' : decide ((i : Int) < (l0.length : Int)) = false := by simpa using hlt
      have HX : Aside0 (idxS (nmAttr l0) nm 0 = -1) := ⟨by rw [HI.out, List.drop_of_length_le (by unfold nmAttr; rw [List.length_map]; omega)]; rfl⟩
      go_wp2_with (first | (fail))
      go_ret
      exact ⟨by rw [HX.out]; rfl, HB.out⟩
end Go.Proofs.Ytdemgfbolcmcdaa.X
namespace Go.Proofs.Ytdemgfbolcmcdaa.X
open Go.RowKit Go.Proofs.YtdemgfbolcmcdaaW.PrintWords Go.Proofs.YtdemgfbolcmcdaaW.PrintLast Go.Proofs.YtdemgfbolcmcdaaW.PrintMore
attribute [local go_sem] max2_int min2_int max_two min_two max_three min_three max_four min_four
set_option linter.unusedVariables false
set_option linter.unusedSimpArgs false
theorem results_cell_tmp_row {P : Program} {fn : Func} {p u : Tmp} {ty : TypeId} (h : fn.results = #[.cell p ty, .tmp u]) (tmps : Array Value) (w : World) (g : Nat) (t : TypeId) (cs : Array Value) (fr : Nat × Nat) (d : TypeDesc)
    (hp : tmps.getD p undef = .pointer (some ⟨g, 0, none⟩)) (hg : w.heap[g]? = some (.cells cs t fr))
    (hu : P.underlying ty = some d) (hd : (match d with | .struct _ | .array _ _ => true | _ => false) = true) (hi : (P.info? ty).map (·.size) = some cs.size) :
    (results fn tmps).run P w = .ok (.tuple #[.agg cs, tmps.getD u undef]) w := by
  have hp' : tmps[p]?.getD undef = .pointer (some ⟨g, 0, none⟩) := by simpa using hp
  rw [results_cell_tmp h]
  simp [hp', asAddr, run_loadVar_row w g t ty cs fr d hg hu hd hi]
def attrR (l : List S35) (nm : ByteArray) : S35 := if idxS (nmAttr l) nm 0 < 0 then z35 else rd_T35 l (idxS (nmAttr l) nm 0)
theorem idxS_lt : ∀ (l : List ByteArray) (nm : ByteArray) (i : Nat), idxS l nm i = -1 ∨ ∃ j, j < l.length ∧ idxS l nm i = ((i + j : Nat) : Int)
  | [], nm, i => .inl rfl
  | x :: t, nm, i => by
    unfold idxS
    by_cases h : x = nm
    · rw [if_pos h]; exact .inr ⟨0, by simp, by simp⟩
    · rw [if_neg h]
      rcases idxS_lt t nm (i + 1) with h | ⟨j, hj, h⟩
      · exact .inl h
      · exact .inr ⟨j + 1, by simp; exact hj, by rw [h]; omega⟩
set_option maxHeartbeats 8000000 in
set_option maxRecDepth 100000 in
theorem nodeAttr.calls (op : ByteArray) (A1 : Option Addr) (n1 c1 : Nat) (out : ByteArray) (A3 : Option Addr) (c3 : Nat) (l3 : List S35) (nm : ByteArray) (w : World) (hr3 : Kd.C k35 w A3 l3.length l3) (hc3 : l3.length ≤ c3) (hl : l3.length ≤ 1000000) :
    Calls Try.prog 9 #[.agg #[.string op, .slice A1 n1 c1, .string out, .slice A3 l3.length c3], .string nm] w fun e w' => (∃ A c, e = .returned (.tuple #[.agg #[.string (attrR l3 nm).f0, .bool (attrR l3 nm).f1, .int .i64 (attrR l3 nm).f2, .slice A (attrR l3 nm).f3.length c], .bool (decide (0 ≤ idxS (nmAttr l3) nm 0))]) ∧ (attrR l3 nm).f3.length ≤ c ∧ Kd.C (Kd.int .i64) w' A (attrR l3 nm).f3.length (attrR l3 nm).f3) ∧ Below w.heap.size w w' := by
  have hu := Try.underlying35
  have hu2 := Try.underlying33
  have HR0 := Aside0.mk hr3
  have HC0 := Aside0.mk hc3
  have HL := Aside0.mk hl
  clear hr3 hc3 hl
  go_enter Try.func9, Try.ntmps9
  go_wp2_with (first | (fail))
  have e1 : (w.alloc (Obj.cells #[Value.string op, Value.slice A1 n1 c1, Value.string out, Value.slice A3 l3.length c3] 33)).heap.size = w.heap.size + 1 := alloc_size _ _
  have e2 : ((w.alloc (Obj.cells #[Value.string op, Value.slice A1 n1 c1, Value.string out, Value.slice A3 l3.length c3] 33)).alloc (Obj.cells #[Value.string nm] 9)).heap.size = w.heap.size + 1 + 1 := by rw [alloc_size, e1]
  have BK0 := Aside0.mk (show (((w.alloc (Obj.cells #[Value.string op, Value.slice A1 n1 c1, Value.string out, Value.slice A3 l3.length c3] 33)).alloc (Obj.cells #[Value.string nm] 9)).alloc (Obj.cells #[Value.string { data := #[] }, Value.bool false, Value.int IntKind.i64 0, Value.slice none 0 0] 35)).heap[w.heap.size]? = some (.cells #[Value.string op, Value.slice A1 n1 c1, Value.string out, Value.slice A3 l3.length c3] 33 (0, 0)) from blk_alloc (blk_alloc (blk_new w _) _) _)
  have BK1 := Aside0.mk (show (((w.alloc (Obj.cells #[Value.string op, Value.slice A1 n1 c1, Value.string out, Value.slice A3 l3.length c3] 33)).alloc (Obj.cells #[Value.string nm] 9)).alloc (Obj.cells #[Value.string { data := #[] }, Value.bool false, Value.int IntKind.i64 0, Value.slice none 0 0] 35)).heap[w.heap.size + 1]? = some (.cells #[Value.string nm] 9 (0, 0)) from blk_alloc (by rw [← e1]; exact blk_new _ _) _)
  have BK2 := Aside0.mk (show (((w.alloc (Obj.cells #[Value.string op, Value.slice A1 n1 c1, Value.string out, Value.slice A3 l3.length c3] 33)).alloc (Obj.cells #[Value.string nm] 9)).alloc (Obj.cells #[Value.string { data := #[] }, Value.bool false, Value.int IntKind.i64 0, Value.slice none 0 0] 35)).heap[w.heap.size + 1 + 1]? = some (.cells #[Value.string { data := #[] }, Value.bool false, Value.int IntKind.i64 0, Value.slice none 0 0] 35 (0, 0)) from by rw [← e2]; exact blk_new _ _)
  have HB := Aside0.mk (below_alloc (below_alloc (below_alloc (Below.refl w.heap.size w) (Obj.cells #[Value.string op, Value.slice A1 n1 c1, Value.string out, Value.slice A3 l3.length c3] 33)) (Obj.cells #[Value.string nm] 9)) (Obj.cells #[Value.string { data := #[] }, Value.bool false, Value.int IntKind.i64 0, Value.slice none 0 0] 35))
  clear e1 e2
  generalize (((w.alloc (Obj.cells #[Value.string op, Value.slice A1 n1 c1, Value.string out, Value.slice A3 l3.length c3] 33)).alloc (Obj.cells #[Value.string nm] 9)).alloc (Obj.cells #[Value.string { data := #[] }, Value.bool false, Value.int IntKind.i64 0, Value.slice none 0 0] 35)) = w3 at BK0 BK1 BK2 HB ⊢
  refine (idxAttr.calls A3 c3 l3 (w.heap.size + 1) nm _ (Kd.C_below HR0.out HB.out) HC0.out HL.out BK1.out).mono ?_
  rintro e w8 ⟨rfl, hb⟩
  have n0_ := Aside0.mk (below_step HB.out hb)
  have n1_ := Aside0.mk (blk_below BK0.out hb)
  have n2_ := Aside0.mk (blk_below BK2.out hb)
  clear HB BK0 BK1 BK2 hb
  have HB := n0_; have BK0 := n1_; have BK2 := n2_
  clear n0_ n1_ n2_
  have f2 := blk_frozen BK2.out 0
  have f3 := blk_frozen BK2.out 1
  have f4 := blk_frozen BK2.out 2
  have f5 := blk_frozen BK2.out 3
  have g0 : w8.cell? ⟨w.heap.size + 1 + 1, 0, none⟩ = some (.string ⟨#[]⟩) := blk_cell BK2.out 0
  have g1 : w8.cell? ⟨w.heap.size + 1 + 1, 1, none⟩ = some (.bool false) := blk_cell BK2.out 1
  have g2 : w8.cell? ⟨w.heap.size + 1 + 1, 2, none⟩ = some (.int .i64 0) := blk_cell BK2.out 2
  have g3 : w8.cell? ⟨w.heap.size + 1 + 1, 3, none⟩ = some (.slice none 0 0) := blk_cell BK2.out 3
  have g4 : w8.cell? ⟨w.heap.size, 3, none⟩ = some (.slice A3 l3.length c3) := blk_cell BK0.out 3
  rcases idxS_lt (nmAttr l3) nm 0 with hx | ⟨j, hj, hx⟩
  · have HX := Aside0.mk (show attrR l3 nm = z35 by unfold attrR; rw [hx]; rfl)
    have HX2 := Aside0.mk (show decide (0 ≤ idxS (nmAttr l3) nm 0) = false by rw [hx]; rfl)
    rw [hx]
    clear hx
    go_wp2_with (first | (fail))
    refine bodyPost_ret (results_cell_tmp_row rfl _ _ (w.heap.size + 1 + 1) 35 #[.string ⟨#[]⟩, .bool false, .int .i64 0, .slice none 0 0] (0, 0) _ rfl (by refine blk_put (cs := #[.string ⟨#[]⟩, .bool false, .int .i64 0, .slice none 0 0]) ?_ 3 _ rfl; refine blk_put (cs := #[.string ⟨#[]⟩, .bool false, .int .i64 0, .slice none 0 0]) ?_ 2 _ rfl; refine blk_put (cs := #[.string ⟨#[]⟩, .bool false, .int .i64 0, .slice none 0 0]) ?_ 1 _ rfl; refine blk_put (cs := #[.string ⟨#[]⟩, .bool false, .int .i64 0, .slice none 0 0]) ?_ 0 _ rfl; exact BK2.out) Try.underlying35 rfl (by kernel_rfl)) rfl ?_
    rw [HX.out, HX2.out]
    exact ⟨⟨none, 0, rfl, Nat.le_refl _, (Kd.R_reads (Kd.R_nil (Kd.int .i64) 0 _ 0 (fun _ => True))).elim (fun A h => by obtain ⟨c, he, hl, hC⟩ := h; cases he; exact hC)⟩, below_set (below_set (below_set (below_set HB.out (by omega)) (by omega)) (by omega)) (by omega)⟩
  · have hx0 : idxS (nmAttr l3) nm 0 = (j : Int) := by rw [hx]; simp
    have hjl : j < l3.length := by unfold nmAttr at hj; rw [List.length_map] at hj; exact hj
    have hr : rd_T35 l3 (j : Int) = l3[j] := by simp [rd_T35, hjl]
    obtain ⟨x, hxe⟩ : ∃ x, x = l3[j] := ⟨_, rfl⟩
    have HX := Aside0.mk (show attrR l3 nm = x by unfold attrR; rw [hx0, if_neg (by omega), hr, hxe])
    have HX2 := Aside0.mk (show decide (0 ≤ idxS (nmAttr l3) nm 0) = true by rw [hx0]; exact decide_eq_true (by omega))
    have hneg : decide ((j : Int) < 0) = false := decide_eq_false (by omega)
    have p101 : 0 ≤ (j : Int) := Int.natCast_nonneg j
    have q101 : (j : Int) < (l3.length : Int) := by omega
    obtain ⟨ad101, A4, c4, e101, hx101_0, hx101_1, hx101_2, hx101_3, hl4, hi4⟩ := at_T35 HR0.out (j : Int) p101 q101
    cases e101
    replace hx101_0 := (HB.out.cell (World.block_lt_of_cell? w _ hx101_0)).trans hx101_0
    replace hx101_1 := (HB.out.cell (World.block_lt_of_cell? w _ hx101_1)).trans hx101_1
    replace hx101_2 := (HB.out.cell (World.block_lt_of_cell? w _ hx101_2)).trans hx101_2
    replace hx101_3 := (HB.out.cell (World.block_lt_of_cell? w _ hx101_3)).trans hx101_3
    rw [Int.toNat_natCast] at hx101_0 hx101_1 hx101_2 hx101_3
    rw [hr, ← hxe] at hx101_0 hx101_1 hx101_2 hx101_3 hl4 hi4
    have HR4 := Aside0.mk hi4
    have HC4 := Aside0.mk hl4
    rw [hx0]
    clear hr hx hx0 hi4 hl4 hxe hjl hj
    replace p101 := eq_true p101
    replace q101 := eq_true q101
    go_wp2_with (first | (fail))
    have hBs := Aside0.mk (show Below w.heap.size w ((((w8.setCell ⟨w.heap.size + 1 + 1, 0, none⟩ (.string x.f0)).setCell ⟨w.heap.size + 1 + 1, 1, none⟩ (.bool x.f1)).setCell ⟨w.heap.size + 1 + 1, 2, none⟩ (.int .i64 x.f2)).setCell ⟨w.heap.size + 1 + 1, 3, none⟩ (.slice A4 x.f3.length c4)) from below_set (below_set (below_set (below_set HB.out (by omega)) (by omega)) (by omega)) (by omega))
    refine bodyPost_ret (results_cell_tmp_row rfl _ _ (w.heap.size + 1 + 1) 35 #[.string x.f0, .bool x.f1, .int .i64 x.f2, .slice A4 x.f3.length c4] (0, 0) _ rfl (by refine blk_put (cs := #[.string x.f0, .bool x.f1, .int .i64 x.f2, .slice none 0 0]) ?_ 3 _ rfl; refine blk_put (cs := #[.string x.f0, .bool x.f1, .int .i64 0, .slice none 0 0]) ?_ 2 _ rfl; refine blk_put (cs := #[.string x.f0, .bool false, .int .i64 0, .slice none 0 0]) ?_ 1 _ rfl; refine blk_put (cs := #[.string ⟨#[]⟩, .bool false, .int .i64 0, .slice none 0 0]) ?_ 0 _ rfl; exact BK2.out) Try.underlying35 rfl (by kernel_rfl)) rfl ?_
    rw [HX.out, HX2.out]
    exact ⟨⟨A4, c4, rfl, HC4.out, Kd.C_below HR4.out hBs.out⟩, hBs.out⟩
end Go.Proofs.Ytdemgfbolcmcdaa.X
namespace Go.Proofs.Ytdemgfbolcmcdaa.X
open Go.RowKit Go.Proofs.YtdemgfbolcmcdaaW.PrintWords Go.Proofs.YtdemgfbolcmcdaaW.PrintLast Go.Proofs.YtdemgfbolcmcdaaW.PrintMore
attribute [local go_sem] max2_int min2_int max_two min_two max_three min_three max_four min_four
set_option linter.unusedVariables false
set_option linter.unusedSimpArgs false
def model_Node_One.f (a0_0 : ByteArray) (l0_1 : List ByteArray) (a0_2 : ByteArray) (l0_3 : List S35) (a1 : ByteArray) (a2 : Int) : Option Int := if l0_3.length ≤ 1000000 then some (if decide (0 ≤ idxS (nmAttr l0_3) a1 0) && (attrR l0_3 a1).f1 then (attrR l0_3 a1).f2 else a2) else none
set_option maxHeartbeats 8000000 in
set_option maxRecDepth 100000 in
theorem model_Node_One.calls (a0_0 : ByteArray) (A0_1 : Option Addr) (c0_1 : Nat) (l0_1 : List ByteArray) (a0_2 : ByteArray) (A0_3 : Option Addr) (c0_3 : Nat) (l0_3 : List S35) (a1 : ByteArray) (a2 : Int) (r : Int) (w : World) (hr0_1 : Kd.C Kd.string w A0_1 l0_1.length l0_1) (hc0_1 : l0_1.length ≤ c0_1) (hr0_3 : Kd.C k35 w A0_3 l0_3.length l0_3) (hc0_3 : l0_3.length ≤ c0_3) (h : model_Node_One.f a0_0 l0_1 a0_2 l0_3 a1 a2 = some r) :
    Calls Try.prog 13 #[.agg #[.string a0_0, .slice A0_1 l0_1.length c0_1, .string a0_2, .slice A0_3 l0_3.length c0_3], .string a1, .int .i64 a2] w fun e w' => e = .returned (.int .i64 r) ∧ Below w.heap.size w w' := by
  unfold model_Node_One.f at h
  by_cases hl : l0_3.length ≤ 1000000
  case neg => rw [if_neg hl] at h; cases h
  rw [if_pos hl] at h
  have HH := Aside0.mk (Option.some.inj h)
  have hu := Try.underlying35
  have hu2 := Try.underlying33
  have HR0 := Aside0.mk hr0_3
  have HC0 := Aside0.mk hc0_3
  have HL := Aside0.mk hl
  clear hr0_3 hc0_3 hr0_1 hc0_1 hl h
  go_enter Try.func13, Try.ntmps13
  go_wp2_with (first | (fail))
  have HB := Aside0.mk (below_alloc (Below.refl w.heap.size w) (Obj.cells #[Value.string a0_0, Value.slice A0_1 l0_1.length c0_1, Value.string a0_2, Value.slice A0_3 l0_3.length c0_3] 33))
  generalize w.alloc (Obj.cells #[Value.string a0_0, Value.slice A0_1 l0_1.length c0_1, Value.string a0_2, Value.slice A0_3 l0_3.length c0_3] 33) = w3 at HB ⊢
  refine (nodeAttr.calls a0_0 A0_1 l0_1.length c0_1 a0_2 A0_3 c0_3 l0_3 a1 _ (Kd.C_below HR0.out HB.out) HC0.out HL.out).mono ?_
  rintro e w8 ⟨⟨A, c, rfl, _, _⟩, hb⟩
  have n0_ := Aside0.mk (below_step HB.out hb)
  clear HB hb
  have HB := n0_
  clear n0_
  obtain ⟨x, hx⟩ : ∃ x, x = attrR l0_3 a1 := ⟨_, rfl⟩
  obtain ⟨b, hb⟩ : ∃ b, b = decide (0 ≤ idxS (nmAttr l0_3) a1 0) := ⟨_, rfl⟩
  replace HH := HH.out
  rw [← hx, ← hb] at HH ⊢
  have HH1 := Aside0.mk HH
  clear HH
  have HH := HH1
  clear HH1
  clear hx hb HR0 HC0 HL
  have e1 := Aside0.mk (show w.heap.size ≤ w8.heap.size from below_size HB.out)
  go_wp2_with (first | (fail))
  all_goals (go_ret; exact ⟨by have q := HH.out; subst q; simp_all, below_alloc HB.out _⟩)
end Go.Proofs.Ytdemgfbolcmcdaa.X
namespace Go.Proofs.Ytdemgfbolcmcdaa.X
open Go.RowKit Go.Proofs.YtdemgfbolcmcdaaW.PrintWords Go.Proofs.YtdemgfbolcmcdaaW.PrintLast Go.Proofs.YtdemgfbolcmcdaaW.PrintMore
attribute [local go_sem] max2_int min2_int max_two min_two max_three min_three max_four min_four
set_option linter.unusedVariables false
set_option linter.unusedSimpArgs false
def model_Number.f (a0 : ByteArray) (a1 : Int) : Option (ByteArray × Bool × Int × List Int) := some (a0, true, a1, ([] : List Int))
set_option maxHeartbeats 8000000 in
set_option maxRecDepth 100000 in
theorem model_Number.calls (a0 : ByteArray) (a1 : Int) (r1 : ByteArray) (r2 : Bool) (r3 : Int) (r4 : List Int) (w : World) (h : model_Number.f a0 a1 = some (r1, r2, r3, r4)) :
    Calls Try.prog 21 #[.string a0, .int .i64 a1] w fun e w' => ∃ v3_ : Value, e = .returned (.agg #[.string r1, .bool r2, .int .i64 r3, v3_]) ∧ Kd.R (Kd.int .i64) 2 w' w.heap.size (fun _ => True) v3_ r4 ∧ Below w.heap.size w w' := by
  have hu35 := Try.underlying35
  have HB := Aside0.mk (Below.refl w.heap.size w)
  have H : (some (a0, true, a1, ([] : List Int))) = some (r1, r2, r3, r4) := h
  clear h
  simp only [Option.some.injEq, Prod.mk.injEq] at H
  obtain ⟨rfl, rfl, rfl, rfl⟩ := H
  go_enter Try.func21, Try.ntmps21
  go_wp2_with (first | ((with_reducible refine gate_dst (N := 4) rfl ?_); refine box_event ?hg (N := 4) ?hd (cs := #[.string (⟨#[]⟩ : ByteArray), .bool false, .int .i64 0, .slice none 0 0]) (t := 35) ?hr ?_; (case hd => rfl); (case hg => rfl); (case hr => first | (go_simp; done) | (go_simp; rfl)); intro gb101 hg w3 hbox hb; have n0_ := Aside0.mk (below_step (by repeat (first | (with_reducible first | exact HB.out | apply below_alloc | apply pw_below_drewN | apply below_drew1) | exact HB.out)) hb); have n1_ := Aside0.mk (hbox); have n2_ := Aside0.mk ((by rw [hg]; exact (below_size (by repeat (first | (with_reducible first | exact HB.out | apply below_alloc | apply pw_below_drewN | apply below_drew1) | exact HB.out))) : w.heap.size ≤ gb101)); have n3_ := Aside0.mk ((by rw [hg]; exact (below_size (by repeat (first | (with_reducible first | exact HB.out | apply below_alloc | apply pw_below_drewN | apply below_drew1) | exact HB.out))) : w.heap.size ≤ gb101)); clear HB; have HB := n0_; have BK101 := n1_; have GW101 := n2_; have GE101 := n3_; clear n0_ n1_ n2_ n3_; clear hb hbox hg; have hcz4_0 : w3.cell? ⟨gb101, 0, none⟩ = some (.string (⟨#[]⟩ : ByteArray)) := (blk_cell BK101.out 0).trans rfl; have hcz4_1 : w3.cell? ⟨gb101, 1, none⟩ = some (.bool false) := (blk_cell BK101.out 1).trans rfl; have hcz4_2 : w3.cell? ⟨gb101, 2, none⟩ = some (.int .i64 0) := (blk_cell BK101.out 2).trans rfl; have hcz4_3 : w3.cell? ⟨gb101, 3, none⟩ = some (.slice none 0 0) := (blk_cell BK101.out 3).trans rfl; have hfz4_0 := blk_frozen BK101.out 0; have hfz4_1 := blk_frozen BK101.out 1; have hfz4_2 := blk_frozen BK101.out 2; have hfz4_3 := blk_frozen BK101.out 3))
  refine bodyPost_ret (results_cell_row rfl _ _ gb101 35 #[.string a0, .bool true, .int .i64 a1, .slice none 0 0] (0, 0) _ rfl (by (with_reducible repeat (first | refine blk_drewN ?_ _ | refine blk_drew ?_ | refine blk_alloc ?_ _)); refine blk_put (cs := #[.string a0, .bool true, .int .i64 a1, .slice none 0 0]) ?_ 3 _ rfl; (with_reducible repeat (first | refine blk_drewN ?_ _ | refine blk_drew ?_ | refine blk_alloc ?_ _)); refine blk_put (cs := #[.string a0, .bool true, .int .i64 0, .slice none 0 0]) ?_ 2 _ rfl; (with_reducible repeat (first | refine blk_drewN ?_ _ | refine blk_drew ?_ | refine blk_alloc ?_ _)); refine blk_put (cs := #[.string a0, .bool false, .int .i64 0, .slice none 0 0]) ?_ 1 _ rfl; (with_reducible repeat (first | refine blk_drewN ?_ _ | refine blk_drew ?_ | refine blk_alloc ?_ _)); refine blk_put (cs := #[.string (⟨#[]⟩ : ByteArray), .bool false, .int .i64 0, .slice none 0 0]) ?_ 0 _ rfl; (with_reducible repeat (first | refine blk_drewN ?_ _ | refine blk_drew ?_ | refine blk_alloc ?_ _)); exact BK101.out) Try.underlying35 rfl (by kernel_rfl)) rfl ?_
  exact ⟨_, by first | rfl | (simp [errW_none, errW_some] <;> rfl) | (simp [*, errW_none, errW_some] <;> rfl), by first | exact Kd.R_nil _ _ _ _ _ | exact Kd.N_nil _ _ _ _ _ | exact Kd.V_nil _ _ _ _ _ | exact Kd.Q_nil _ _ _ _ _ | exact Kd.S_nil _ _ _ _ _, by repeat (first | (with_reducible first | exact HB.out | apply below_alloc | apply pw_below_drewN | apply below_drew1 | refine below_set ?_ GE101.out) | exact HB.out)⟩
end Go.Proofs.Ytdemgfbolcmcdaa.X
