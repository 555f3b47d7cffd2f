import Derived.Test.YtdemgfbolcmcdaaMOpsTell2
import Derived.Test.YtdemgfbolcmcdaaMOpsTell7
import Derived.Test.YtdemgfbolcmcdaaMOpsTell3
import Derived.Test.YtdemgfbolcmcdaaMOpsTell4
import Derived.Laws.ResultCell
import Derived.Test.YtdemgfbolcmcdaaMOpsTell9
namespace Go.Proofs.Ytdemgfbolcmcdaa.X
open Go.RowKit Go.Proofs.YtdemgfbolcmcdaaW.PrintWords Go.Proofs.YtdemgfbolcmcdaaW.PrintLast Go.Proofs.YtdemgfbolcmcdaaW.PrintMore
attribute [local go_sem] max2_int min2_int max_two min_two max_three min_three max_four min_four
set_option linter.unusedVariables false
set_option linter.unusedSimpArgs false
def idxS : List ByteArray → ByteArray → Nat → Int
  | [], _, _ => -1
  | x :: t, nm, i => if x = nm then (i : Int) else idxS t nm (i + 1)
def nmAttr (l : List S35) : List ByteArray := l.map (fun x => x.f0)
set_option maxHeartbeats 8000000 in
theorem closAttr.calls (e : S35) (A3 : Option Addr) (c3 : Nat) (gb : Nat) (nm : ByteArray) (w : World) (hb : w.heap[gb]? = some (.cells #[.string nm] 9 (0, 0))) :
    Calls Try.prog 37 #[.agg #[.string e.f0, .bool e.f1, .int .i64 e.f2, .slice A3 e.f3.length c3], .pointer (some ⟨gb, 0, none⟩)] w fun e' w' => e' = .returned (.bool (e.f0.toList == nm.toList)) ∧ Below w.heap.size w w' := by
  have hu := Try.underlying35
  have HB0 := Aside0.mk hb
  have hc : w.cell? ⟨gb, 0, none⟩ = some (.string nm) := blk_cell hb 0
  clear hb
  go_enter Try.func37, Try.ntmps37
  have hlt : gb < w.heap.size := blk_lt HB0.out
  go_wp2
  go_ret
  exact ⟨rfl, below_alloc (Below.refl w.heap.size w) _⟩
set_option maxHeartbeats 8000000 in
set_option maxRecDepth 100000 in
theorem idxAttr.calls (A0 : Option Addr) (c0 : Nat) (l0 : List S35) (gb : Nat) (nm : ByteArray) (w : World) (hr0 : Kd.C k35 w A0 l0.length l0) (hc0 : l0.length ≤ c0) (hb : w.heap[gb]? = some (.cells #[.string nm] 9 (0, 0))) :
    Calls Try.prog 36 #[.slice A0 l0.length c0, .func (Fn.func 37) #[] #[.pointer (some ⟨gb, 0, none⟩)]] w fun e w' => e = .returned (.int .i64 (idxS (nmAttr l0) nm 0)) ∧ Below w.heap.size w w' := by
  have HR0 := Aside0.mk hr0
  have HB0 := Aside0.mk hb
  have HL := Aside0.mk hr0.2.1
  have HB := Aside0.mk (Below.refl w.heap.size w)
  clear hr0 hb hc0
  go_enter Try.func36, Try.ntmps36
  go_wp2
  go_loopg [8] l0.length (fun kq v8 w' => ∃ i : Nat, v8 = .int .i64 i ∧ Aside0 (i + kq = l0.length) ∧ i ≤ l0.length ∧ Aside0 (idxS (nmAttr l0) nm 0 = idxS ((nmAttr l0).drop i) nm i) ∧ Aside0 (Below w.heap.size w w'))
  case atStart => exact ⟨0, rfl, ⟨by omega⟩, Nat.zero_le _, ⟨rfl⟩, HB⟩
  case round =>
    clear HB
    obtain ⟨i, rfl, HK, hi, HI, HB⟩ := hrel
    by_cases hlt : i < l0.length
    · have hlt' : decide ((i : Int) < (l0.length : Int)) = true := by simpa using hlt
      obtain ⟨kk, rfl⟩ : ∃ m, gk = m + 1 := ⟨gk - 1, by have := HK.out; omega⟩
      have p101 : 0 ≤ (i : Int) := Int.natCast_nonneg i
      have q101 : (i : Int) < (l0.length : Int) := by omega
      obtain ⟨ad101, A3, c3, e101, hx101_0, hx101_1, hx101_2, hx101_3, hl101_3, hi101_3⟩ := at_T35 (Kd.C_below HR0.out HB.out) (i : Int) p101 q101
      cases e101
      clear hl101_3 hi101_3
      rw [Int.toNat_natCast] at hx101_0 hx101_1 hx101_2 hx101_3
      have hr : rd_T35 l0 (i : Int) = l0[i] := by simp [rd_T35, hlt]
      have hn : (nmAttr l0).drop i = l0[i].f0 :: (nmAttr l0).drop (i + 1) := by
        unfold nmAttr
        rw [List.drop_eq_getElem_cons (by rw [List.length_map]; exact hlt), List.getElem_map]
      rw [hr] at hx101_0 hx101_1 hx101_2 hx101_3
      have HN := Aside0.mk hn
      clear hr hn
      have Hw : Aside0 (wrap64 ((i : Int) + 1) = (i : Int) + 1) := ⟨by have := HL.out; exact wrap64_id (by omega) (by omega)⟩
      replace p101 := eq_true p101
      replace q101 := eq_true q101
      go_wp2_with (first | (fail))
      refine (closAttr.calls l0[i] A3 c3 gb nm _ (blk_below HB0.out HB.out)).mono ?_
      rintro e w8 ⟨rfl, hb⟩
      have n0_ := Aside0.mk (below_step HB.out hb)
      clear HB hb
      have HB := n0_
      clear n0_
      by_cases hx : l0[i].f0 = nm
      · have hq : (l0[i].f0.toList == nm.toList) = true := by rw [hx]; exact beq_self_eq_true _
        have HX : Aside0 (idxS (nmAttr l0) nm 0 = (i : Int)) := ⟨by rw [HI.out, HN.out, idxS, if_pos hx]⟩
        clear hx
        go_wp2_with (first | (fail))
        go_ret
        exact ⟨by rw [HX.out]; rfl, HB.out⟩
      · have hq : (l0[i].f0.toList == nm.toList) = false := beq_eq_false_iff_ne.2 (fun h => hx (toList_inj.1 h))
        have HX : Aside0 (idxS (nmAttr l0) nm 0 = idxS ((nmAttr l0).drop (i + 1)) nm (i + 1)) := ⟨by rw [HI.out, HN.out, idxS, if_neg hx]⟩
        clear hx
        go_wp2_with (first | (fail))
        go_roundg kk
        case measure => have := HK.out; omega
        case rel => exact ⟨i + 1, by rw [Hw.out]; rfl, ⟨by have := HK.out; omega⟩, by omega, HX, HB⟩
    · have hlt' : decide ((i : Int) < (l0.length : Int)) = false := by simpa using hlt
      have HX : Aside0 (idxS (nmAttr l0) nm 0 = -1) := ⟨by rw [HI.out, List.drop_of_length_le (by unfold nmAttr; rw [List.length_map]; omega)]; rfl⟩
      go_wp2_with (first | (fail))
      go_ret
      exact ⟨by rw [HX.out]; rfl, HB.out⟩
end Go.Proofs.Ytdemgfbolcmcdaa.X
namespace Go.Proofs.Ytdemgfbolcmcdaa.X
open Go.RowKit Go.Proofs.YtdemgfbolcmcdaaW.PrintWords Go.Proofs.YtdemgfbolcmcdaaW.PrintLast Go.Proofs.YtdemgfbolcmcdaaW.PrintMore
attribute [local go_sem] max2_int min2_int max_two min_two max_three min_three max_four min_four
set_option linter.unusedVariables false
set_option linter.unusedSimpArgs false
theorem results_cell_tmp_row {P : Program} {fn : Func} {p u : Tmp} {ty : TypeId} (h : fn.results = #[.cell p ty, .tmp u]) (tmps : Array Value) (w : World) (g : Nat) (t : TypeId) (cs : Array Value) (fr : Nat × Nat) (d : TypeDesc)
    (hp : tmps.getD p undef = .pointer (some ⟨g, 0, none⟩)) (hg : w.heap[g]? = some (.cells cs t fr))
    (hu : P.underlying ty = some d) (hd : (match d with | .struct _ | .array _ _ => true | _ => false) = true) (hi : (P.info? ty).map (·.size) = some cs.size) :
    (results fn tmps).run P w = .ok (.tuple #[.agg cs, tmps.getD u undef]) w := by
  have hp' : tmps[p]?.getD undef = .pointer (some ⟨g, 0, none⟩) := by simpa using hp
  rw [results_cell_tmp h]
  simp [hp', asAddr, run_loadVar_row w g t ty cs fr d hg hu hd hi]
def attrR (l : List S35) (nm : ByteArray) : S35 := if idxS (nmAttr l) nm 0 < 0 then z35 else rd_T35 l (idxS (nmAttr l) nm 0)
theorem idxS_lt : ∀ (l : List ByteArray) (nm : ByteArray) (i : Nat), idxS l nm i = -1 ∨ ∃ j, j < l.length ∧ idxS l nm i = ((i + j : Nat) : Int)
  | [], nm, i => .inl rfl
  | x :: t, nm, i => by
    unfold idxS
    by_cases h : x = nm
    · rw [if_pos h]; exact .inr ⟨0, by simp, by simp⟩
    · rw [if_neg h]
      rcases idxS_lt t nm (i + 1) with h | ⟨j, hj, h⟩
      · exact .inl h
      · exact .inr ⟨j + 1, by simp; exact hj, by rw [h]; omega⟩
set_option maxHeartbeats 8000000 in
set_option maxRecDepth 100000 in
theorem nodeAttr.calls (op : ByteArray) (A1 : Option Addr) (n1 c1 : Nat) (out : ByteArray) (A3 : Option Addr) (c3 : Nat) (l3 : List S35) (nm : ByteArray) (P : Nat → Prop) (w : World) (hs3 : Kd.V k35 35 w w.heap.size P (.slice A3 l3.length c3) l3) :
    Calls Try.prog 9 #[.agg #[.string op, .slice A1 n1 c1, .string out, .slice A3 l3.length c3], .string nm] w fun e w' => (∃ A c, e = .returned (.tuple #[.agg #[.string (attrR l3 nm).f0, .bool (attrR l3 nm).f1, .int .i64 (attrR l3 nm).f2, .slice A (attrR l3 nm).f3.length c], .bool (decide (0 ≤ idxS (nmAttr l3) nm 0))]) ∧ Kd.V (Kd.int .i64) 2 w' w.heap.size (fun k_ => P k_ ∨ w.heap.size ≤ k_) (.slice A (attrR l3 nm).f3.length c) (attrR l3 nm).f3) ∧ Below w.heap.size w w' := by
  have hu := Try.underlying35
  have hu2 := Try.underlying33
  have HS0 := Aside0.mk hs3
  have HR0 := Aside0.mk (Kd.V_reads' hs3).2.2
  have HC0 := Aside0.mk (Kd.V_reads' hs3).2.1
  clear hs3
  go_enter Try.func9, Try.ntmps9
  go_wp2_with (first | (fail))
  have e1 : (w.alloc (Obj.cells #[Value.string op, Value.slice A1 n1 c1, Value.string out, Value.slice A3 l3.length c3] 33)).heap.size = w.heap.size + 1 := alloc_size _ _
  have e2 : ((w.alloc (Obj.cells #[Value.string op, Value.slice A1 n1 c1, Value.string out, Value.slice A3 l3.length c3] 33)).alloc (Obj.cells #[Value.string nm] 9)).heap.size = w.heap.size + 1 + 1 := by rw [alloc_size, e1]
  have BK0 := Aside0.mk (show (((w.alloc (Obj.cells #[Value.string op, Value.slice A1 n1 c1, Value.string out, Value.slice A3 l3.length c3] 33)).alloc (Obj.cells #[Value.string nm] 9)).alloc (Obj.cells #[Value.string { data := #[] }, Value.bool false, Value.int IntKind.i64 0, Value.slice none 0 0] 35)).heap[w.heap.size]? = some (.cells #[Value.string op, Value.slice A1 n1 c1, Value.string out, Value.slice A3 l3.length c3] 33 (0, 0)) from blk_alloc (blk_alloc (blk_new w _) _) _)
  have BK1 := Aside0.mk (show (((w.alloc (Obj.cells #[Value.string op, Value.slice A1 n1 c1, Value.string out, Value.slice A3 l3.length c3] 33)).alloc (Obj.cells #[Value.string nm] 9)).alloc (Obj.cells #[Value.string { data := #[] }, Value.bool false, Value.int IntKind.i64 0, Value.slice none 0 0] 35)).heap[w.heap.size + 1]? = some (.cells #[Value.string nm] 9 (0, 0)) from blk_alloc (by rw [← e1]; exact blk_new _ _) _)
  have BK2 := Aside0.mk (show (((w.alloc (Obj.cells #[Value.string op, Value.slice A1 n1 c1, Value.string out, Value.slice A3 l3.length c3] 33)).alloc (Obj.cells #[Value.string nm] 9)).alloc (Obj.cells #[Value.string { data := #[] }, Value.bool false, Value.int IntKind.i64 0, Value.slice none 0 0] 35)).heap[w.heap.size + 1 + 1]? = some (.cells #[Value.string { data := #[] }, Value.bool false, Value.int IntKind.i64 0, Value.slice none 0 0] 35 (0, 0)) from by rw [← e2]; exact blk_new _ _)
  have HB := Aside0.mk (below_alloc (below_alloc (below_alloc (Below.refl w.heap.size w) (Obj.cells #[Value.string op, Value.slice A1 n1 c1, Value.string out, Value.slice A3 l3.length c3] 33)) (Obj.cells #[Value.string nm] 9)) (Obj.cells #[Value.string { data := #[] }, Value.bool false, Value.int IntKind.i64 0, Value.slice none 0 0] 35))
  clear e1 e2
  generalize (((w.alloc (Obj.cells #[Value.string op, Value.slice A1 n1 c1, Value.string out, Value.slice A3 l3.length c3] 33)).alloc (Obj.cells #[Value.string nm] 9)).alloc (Obj.cells #[Value.string { data := #[] }, Value.bool false, Value.int IntKind.i64 0, Value.slice none 0 0] 35)) = w3 at BK0 BK1 BK2 HB ⊢
  refine (idxAttr.calls A3 c3 l3 (w.heap.size + 1) nm _ (Kd.C_below HR0.out HB.out) HC0.out BK1.out).mono ?_
  rintro e w8 ⟨rfl, hb⟩
  have n0_ := Aside0.mk (below_step HB.out hb)
  have n1_ := Aside0.mk (blk_below BK0.out hb)
  have n2_ := Aside0.mk (blk_below BK2.out hb)
  clear HB BK0 BK1 BK2 hb
  have HB := n0_; have BK0 := n1_; have BK2 := n2_
  clear n0_ n1_ n2_
  have f2 := blk_frozen BK2.out 0
  have f3 := blk_frozen BK2.out 1
  have f4 := blk_frozen BK2.out 2
  have f5 := blk_frozen BK2.out 3
  have g0 : w8.cell? ⟨w.heap.size + 1 + 1, 0, none⟩ = some (.string ⟨#[]⟩) := blk_cell BK2.out 0
  have g1 : w8.cell? ⟨w.heap.size + 1 + 1, 1, none⟩ = some (.bool false) := blk_cell BK2.out 1
  have g2 : w8.cell? ⟨w.heap.size + 1 + 1, 2, none⟩ = some (.int .i64 0) := blk_cell BK2.out 2
  have g3 : w8.cell? ⟨w.heap.size + 1 + 1, 3, none⟩ = some (.slice none 0 0) := blk_cell BK2.out 3
  have g4 : w8.cell? ⟨w.heap.size, 3, none⟩ = some (.slice A3 l3.length c3) := blk_cell BK0.out 3
  rcases idxS_lt (nmAttr l3) nm 0 with hx | ⟨j, hj, hx⟩
  · have HX := Aside0.mk (show attrR l3 nm = z35 by unfold attrR; rw [hx]; rfl)
    have HX2 := Aside0.mk (show decide (0 ≤ idxS (nmAttr l3) nm 0) = false by rw [hx]; rfl)
    rw [hx]
    clear hx
    go_wp2_with (first | (fail))
    refine bodyPost_ret (results_cell_tmp_row rfl _ _ (w.heap.size + 1 + 1) 35 #[.string ⟨#[]⟩, .bool false, .int .i64 0, .slice none 0 0] (0, 0) _ rfl (by refine blk_put (cs := #[.string ⟨#[]⟩, .bool false, .int .i64 0, .slice none 0 0]) ?_ 3 _ rfl; refine blk_put (cs := #[.string ⟨#[]⟩, .bool false, .int .i64 0, .slice none 0 0]) ?_ 2 _ rfl; refine blk_put (cs := #[.string ⟨#[]⟩, .bool false, .int .i64 0, .slice none 0 0]) ?_ 1 _ rfl; refine blk_put (cs := #[.string ⟨#[]⟩, .bool false, .int .i64 0, .slice none 0 0]) ?_ 0 _ rfl; exact BK2.out) Try.underlying35 rfl (by kernel_rfl)) rfl ?_
    rw [HX.out, HX2.out]
    exact ⟨⟨none, 0, rfl, Kd.V_nil _ _ _ _ _⟩, below_set (below_set (below_set (below_set HB.out (by omega)) (by omega)) (by omega)) (by omega)⟩
  · have hx0 : idxS (nmAttr l3) nm 0 = (j : Int) := by rw [hx]; simp
    have hjl : j < l3.length := by unfold nmAttr at hj; rw [List.length_map] at hj; exact hj
    have hr : rd_T35 l3 (j : Int) = l3[j] := by simp [rd_T35, hjl]
    obtain ⟨x, hxe⟩ : ∃ x, x = l3[j] := ⟨_, rfl⟩
    have HX := Aside0.mk (show attrR l3 nm = x by unfold attrR; rw [hx0, if_neg (by omega), hr, hxe])
    have HX2 := Aside0.mk (show decide (0 ≤ idxS (nmAttr l3) nm 0) = true by rw [hx0]; exact decide_eq_true (by omega))
    have hneg : decide ((j : Int) < 0) = false := decide_eq_false (by omega)
    have p101 : 0 ≤ (j : Int) := Int.natCast_nonneg j
    have q101 : (j : Int) < (l3.length : Int) := by omega
    obtain ⟨ad101, A4, c4, e101, hx101_0, hx101_1, hx101_2, hx101_3, hl4, hi4⟩ := at_T35 HR0.out (j : Int) p101 q101
    cases e101
    obtain ⟨ce, hce, hMe, hcc⟩ := Kd.V_get HS0.out z35 (j : Int) p101 q101
    obtain ⟨ua, uc, rfl, ul, ge⟩ := k35_openF hMe
    have hv := hcc 3 _ rfl
    rw [add_field _ _ 3 (by omega)] at hv
    replace hv := Option.some.inj (hv.symm.trans hx101_3)
    injection hv with hva hvn hvc
    rw [hva] at ge
    rw [hvc] at ul
    have hV4 := (show Kd.V (Kd.int .i64) 2 w w.heap.size P (.slice A4 (rd_T35 l3 (j : Int)).f3.length c4) (rd_T35 l3 (j : Int)).f3 from Kd.V_mk ul ge)
    clear hva hvn hvc ge ul hcc hce hMe
    replace hx101_0 := (HB.out.cell (World.block_lt_of_cell? w _ hx101_0)).trans hx101_0
    replace hx101_1 := (HB.out.cell (World.block_lt_of_cell? w _ hx101_1)).trans hx101_1
    replace hx101_2 := (HB.out.cell (World.block_lt_of_cell? w _ hx101_2)).trans hx101_2
    replace hx101_3 := (HB.out.cell (World.block_lt_of_cell? w _ hx101_3)).trans hx101_3
    rw [Int.toNat_natCast] at hx101_0 hx101_1 hx101_2 hx101_3
    rw [hr, ← hxe] at hx101_0 hx101_1 hx101_2 hx101_3 hV4
    have HR4 := Aside0.mk hV4
    rw [hx0]
    clear hr hx hx0 hi4 hl4 hxe hV4 hj
    clear hjl
    replace p101 := eq_true p101
    replace q101 := eq_true q101
    go_wp2_with (first | (fail))
    have hBs := Aside0.mk (show Below w.heap.size w ((((w8.setCell ⟨w.heap.size + 1 + 1, 0, none⟩ (.string x.f0)).setCell ⟨w.heap.size + 1 + 1, 1, none⟩ (.bool x.f1)).setCell ⟨w.heap.size + 1 + 1, 2, none⟩ (.int .i64 x.f2)).setCell ⟨w.heap.size + 1 + 1, 3, none⟩ (.slice A4 x.f3.length c4)) from below_set (below_set (below_set (below_set HB.out (by omega)) (by omega)) (by omega)) (by omega))
    refine bodyPost_ret (results_cell_tmp_row rfl _ _ (w.heap.size + 1 + 1) 35 #[.string x.f0, .bool x.f1, .int .i64 x.f2, .slice A4 x.f3.length c4] (0, 0) _ rfl (by refine blk_put (cs := #[.string x.f0, .bool x.f1, .int .i64 x.f2, .slice none 0 0]) ?_ 3 _ rfl; refine blk_put (cs := #[.string x.f0, .bool x.f1, .int .i64 0, .slice none 0 0]) ?_ 2 _ rfl; refine blk_put (cs := #[.string x.f0, .bool false, .int .i64 0, .slice none 0 0]) ?_ 1 _ rfl; refine blk_put (cs := #[.string ⟨#[]⟩, .bool false, .int .i64 0, .slice none 0 0]) ?_ 0 _ rfl; exact BK2.out) Try.underlying35 rfl (by kernel_rfl)) rfl ?_
    rw [HX.out, HX2.out]
    exact ⟨⟨A4, c4, rfl, Kd.V_mono (Kd.V_below HR4.out hBs.out) (fun k_ h => .inl h)⟩, hBs.out⟩
end Go.Proofs.Ytdemgfbolcmcdaa.X
namespace Go.Proofs.Ytdemgfbolcmcdaa.X
open Go.RowKit Go.Proofs.YtdemgfbolcmcdaaW.PrintWords Go.Proofs.YtdemgfbolcmcdaaW.PrintLast Go.Proofs.YtdemgfbolcmcdaaW.PrintMore
attribute [local go_sem] max2_int min2_int max_two min_two max_three min_three max_four min_four
set_option linter.unusedVariables false
set_option linter.unusedSimpArgs false
def model_Node_One.f (a0_0 : ByteArray) (l0_1 : List ByteArray) (a0_2 : ByteArray) (l0_3 : List S35) (a1 : ByteArray) (a2 : Int) : Option Int := some (if decide (0 ≤ idxS (nmAttr l0_3) a1 0) && (attrR l0_3 a1).f1 then (attrR l0_3 a1).f2 else a2)
set_option maxHeartbeats 8000000 in
set_option maxRecDepth 100000 in
theorem model_Node_One.calls (a0_0 : ByteArray) (A0_1 : Option Addr) (c0_1 : Nat) (l0_1 : List ByteArray) (a0_2 : ByteArray) (A0_3 : Option Addr) (c0_3 : Nat) (l0_3 : List S35) (a1 : ByteArray) (a2 : Int) (r : Int) (w : World) (hr0_1 : Kd.C Kd.string w A0_1 l0_1.length l0_1) (hc0_1 : l0_1.length ≤ c0_1) (hr0_3 : Kd.C k35 w A0_3 l0_3.length l0_3) (hc0_3 : l0_3.length ≤ c0_3) (h : model_Node_One.f a0_0 l0_1 a0_2 l0_3 a1 a2 = some r) :
    Calls Try.prog 13 #[.agg #[.string a0_0, .slice A0_1 l0_1.length c0_1, .string a0_2, .slice A0_3 l0_3.length c0_3], .string a1, .int .i64 a2] w fun e w' => e = .returned (.int .i64 r) ∧ Below w.heap.size w w' := by
  unfold model_Node_One.f at h
  have HH := Aside0.mk (Option.some.inj h)
  have hu := Try.underlying35
  have hu2 := Try.underlying33
  have HR0 := Aside0.mk hr0_3
  have HC0 := Aside0.mk hc0_3
  clear hr0_3 hc0_3 hr0_1 hc0_1 h
  go_enter Try.func13, Try.ntmps13
  go_wp2_with (first | (fail))
  have HB := Aside0.mk (below_alloc (Below.refl w.heap.size w) (Obj.cells #[Value.string a0_0, Value.slice A0_1 l0_1.length c0_1, Value.string a0_2, Value.slice A0_3 l0_3.length c0_3] 33))
  generalize w.alloc (Obj.cells #[Value.string a0_0, Value.slice A0_1 l0_1.length c0_1, Value.string a0_2, Value.slice A0_3 l0_3.length c0_3] 33) = w3 at HB ⊢
  refine (nodeAttr.calls a0_0 A0_1 l0_1.length c0_1 a0_2 A0_3 c0_3 l0_3 a1 (fun k => k < w3.heap.size) _ (Kd.V_mk HC0.out (Kd.C_F k35_heap (Kd.C_below HR0.out HB.out)))).mono ?_
  rintro e w8 ⟨⟨A, c, rfl, _⟩, hb⟩
  have n0_ := Aside0.mk (below_step HB.out hb)
  clear HB hb
  have HB := n0_
  clear n0_
  obtain ⟨x, hx⟩ : ∃ x, x = attrR l0_3 a1 := ⟨_, rfl⟩
  obtain ⟨b, hb⟩ : ∃ b, b = decide (0 ≤ idxS (nmAttr l0_3) a1 0) := ⟨_, rfl⟩
  replace HH := HH.out
  rw [← hx, ← hb] at HH ⊢
  have HH1 := Aside0.mk HH
  clear HH
  have HH := HH1
  clear HH1
  clear hx hb HR0 HC0
  have e1 := Aside0.mk (show w.heap.size ≤ w8.heap.size from below_size HB.out)
  go_wp2_with (first | (fail))
  all_goals (go_ret; exact ⟨by have q := HH.out; subst q; simp_all, below_alloc HB.out _⟩)
end Go.Proofs.Ytdemgfbolcmcdaa.X
namespace Go.Proofs.Ytdemgfbolcmcdaa.X
open Go.RowKit Go.Proofs.YtdemgfbolcmcdaaW.PrintWords Go.Proofs.YtdemgfbolcmcdaaW.PrintLast Go.Proofs.YtdemgfbolcmcdaaW.PrintMore
attribute [local go_sem] max2_int min2_int max_two min_two max_three min_three max_four min_four
set_option linter.unusedVariables false
set_option linter.unusedSimpArgs false
def model_Number.f (a0 : ByteArray) (a1 : Int) : Option (ByteArray × Bool × Int × List Int) := some (a0, true, a1, ([] : List Int))
set_option maxHeartbeats 8000000 in
set_option maxRecDepth 100000 in
theorem model_Number.calls (a0 : ByteArray) (a1 : Int) (r1 : ByteArray) (r2 : Bool) (r3 : Int) (r4 : List Int) (w : World) (h : model_Number.f a0 a1 = some (r1, r2, r3, r4)) :
    Calls Try.prog 21 #[.string a0, .int .i64 a1] w fun e w' => ∃ v3_ : Value, e = .returned (.agg #[.string r1, .bool r2, .int .i64 r3, v3_]) ∧ Kd.R (Kd.int .i64) 2 w' w.heap.size (fun _ => True) v3_ r4 ∧ Below w.heap.size w w' := by
  have hu35 := Try.underlying35
  have HB := Aside0.mk (Below.refl w.heap.size w)
  have H : (some (a0, true, a1, ([] : List Int))) = some (r1, r2, r3, r4) := h
  clear h
  simp only [Option.some.injEq, Prod.mk.injEq] at H
  obtain ⟨rfl, rfl, rfl, rfl⟩ := H
  go_enter Try.func21, Try.ntmps21
  go_wp2_with (first | ((with_reducible refine gate_dst (N := 4) rfl ?_); refine box_event ?hg (N := 4) ?hd (cs := #[.string (⟨#[]⟩ : ByteArray), .bool false, .int .i64 0, .slice none 0 0]) (t := 35) ?hr ?_; (case hd => rfl); (case hg => rfl); (case hr => first | (go_simp; done) | (go_simp; rfl)); intro gb101 hg w3 hbox hb; have n0_ := Aside0.mk (below_step (by repeat (first | (with_reducible first | exact HB.out | apply below_alloc | apply pw_below_drewN | apply below_drew1) | exact HB.out)) hb); have n1_ := Aside0.mk (hbox); have n2_ := Aside0.mk ((by rw [hg]; exact (below_size (by repeat (first | (with_reducible first | exact HB.out | apply below_alloc | apply pw_below_drewN | apply below_drew1) | exact HB.out))) : w.heap.size ≤ gb101)); have n3_ := Aside0.mk ((by rw [hg]; exact (below_size (by repeat (first | (with_reducible first | exact HB.out | apply below_alloc | apply pw_below_drewN | apply below_drew1) | exact HB.out))) : w.heap.size ≤ gb101)); clear HB; have HB := n0_; have BK101 := n1_; have GW101 := n2_; have GE101 := n3_; clear n0_ n1_ n2_ n3_; clear hb hbox hg; have hcz4_0 : w3.cell? ⟨gb101, 0, none⟩ = some (.string (⟨#[]⟩ : ByteArray)) := (blk_cell BK101.out 0).trans rfl; have hcz4_1 : w3.cell? ⟨gb101, 1, none⟩ = some (.bool false) := (blk_cell BK101.out 1).trans rfl; have hcz4_2 : w3.cell? ⟨gb101, 2, none⟩ = some (.int .i64 0) := (blk_cell BK101.out 2).trans rfl; have hcz4_3 : w3.cell? ⟨gb101, 3, none⟩ = some (.slice none 0 0) := (blk_cell BK101.out 3).trans rfl; have hfz4_0 := blk_frozen BK101.out 0; have hfz4_1 := blk_frozen BK101.out 1; have hfz4_2 := blk_frozen BK101.out 2; have hfz4_3 := blk_frozen BK101.out 3))
  refine bodyPost_ret (results_cell_row rfl _ _ gb101 35 #[.string a0, .bool true, .int .i64 a1, .slice none 0 0] (0, 0) _ rfl (by (with_reducible repeat (first | refine blk_drewN ?_ _ | refine blk_drew ?_ | refine blk_alloc ?_ _)); refine blk_put (cs := #[.string a0, .bool true, .int .i64 a1, .slice none 0 0]) ?_ 3 _ rfl; (with_reducible repeat (first | refine blk_drewN ?_ _ | refine blk_drew ?_ | refine blk_alloc ?_ _)); refine blk_put (cs := #[.string a0, .bool true, .int .i64 0, .slice none 0 0]) ?_ 2 _ rfl; (with_reducible repeat (first | refine blk_drewN ?_ _ | refine blk_drew ?_ | refine blk_alloc ?_ _)); refine blk_put (cs := #[.string a0, .bool false, .int .i64 0, .slice none 0 0]) ?_ 1 _ rfl; (with_reducible repeat (first | refine blk_drewN ?_ _ | refine blk_drew ?_ | refine blk_alloc ?_ _)); refine blk_put (cs := #[.string (⟨#[]⟩ : ByteArray), .bool false, .int .i64 0, .slice none 0 0]) ?_ 0 _ rfl; (with_reducible repeat (first | refine blk_drewN ?_ _ | refine blk_drew ?_ | refine blk_alloc ?_ _)); exact BK101.out) Try.underlying35 rfl (by kernel_rfl)) rfl ?_
  exact ⟨_, by first | rfl | (simp [errW_none, errW_some] <;> rfl) | (simp [*, errW_none, errW_some] <;> rfl), by first | exact Kd.R_nil _ _ _ _ _ | exact Kd.N_nil _ _ _ _ _ | exact Kd.V_nil _ _ _ _ _ | exact Kd.Q_nil _ _ _ _ _ | exact Kd.S_nil _ _ _ _ _, by repeat (first | (with_reducible first | exact HB.out | apply below_alloc | apply pw_below_drewN | apply below_drew1 | refine below_set ?_ GE101.out) | exact HB.out)⟩
end Go.Proofs.Ytdemgfbolcmcdaa.X
namespace Go.Proofs.Ytdemgfbolcmcdaa.X
open Go.RowKit Go.Proofs.YtdemgfbolcmcdaaW.PrintWords Go.Proofs.YtdemgfbolcmcdaaW.PrintLast Go.Proofs.YtdemgfbolcmcdaaW.PrintMore
attribute [local go_sem] max2_int min2_int max_two min_two max_three min_three max_four min_four
set_option linter.unusedVariables false
set_option linter.unusedSimpArgs false
def agatelaw10_Awake.f  : Option (Bool) := (model_Number.f (⟨#[97, 120, 105, 115]⟩ : ByteArray) 1).bind fun bt101 => ((some (([(⟨bt101.1, bt101.2.1, bt101.2.2.1, bt101.2.2.2⟩ : S35)] : List (S35)) : List (S35))).bind fun y107 => ((agatelaw07_Awake.f).bind fun t111 => (if t111 = true then ((model_Node_One.f (⟨#[]⟩ : ByteArray) ([] : List ByteArray) (⟨#[]⟩ : ByteArray) y107 (⟨#[97, 120, 105, 115]⟩ : ByteArray) 7).bind fun t112 => (if t112 = 1 then ((model_Node_One.f (⟨#[]⟩ : ByteArray) ([] : List ByteArray) (⟨#[]⟩ : ByteArray) y107 (⟨#[107, 101, 101, 112]⟩ : ByteArray) 7).bind fun t113 => (some (t113 == 7))) else (some false))) else (some false))))
attribute [local irreducible] Calls
set_option maxHeartbeats 8000000 in
set_option maxRecDepth 100000 in
theorem agatelaw10_Awake.calls  (r : Bool) (w : World) (h : agatelaw10_Awake.f  = some r) :
  Calls Try.prog 8 #[] w fun e w' => e = .returned (.bool r) ∧ Below w.heap.size w w' := by
 have hu33 := Try.underlying33
 have HB := Aside0.mk (Below.refl w.heap.size w)
 have H : ((model_Number.f (⟨#[97, 120, 105, 115]⟩ : ByteArray) 1).bind fun bt101 => ((some (([(⟨bt101.1, bt101.2.1, bt101.2.2.1, bt101.2.2.2⟩ : S35)] : List (S35)) : List (S35))).bind fun y107 => ((agatelaw07_Awake.f).bind fun t111 => (if t111 = true then ((model_Node_One.f (⟨#[]⟩ : ByteArray) ([] : List ByteArray) (⟨#[]⟩ : ByteArray) y107 (⟨#[97, 120, 105, 115]⟩ : ByteArray) 7).bind fun t112 => (if t112 = 1 then ((model_Node_One.f (⟨#[]⟩ : ByteArray) ([] : List ByteArray) (⟨#[]⟩ : ByteArray) y107 (⟨#[107, 101, 101, 112]⟩ : ByteArray) 7).bind fun t113 => (some (t113 == 7))) else (some false))) else (some false))))) = some r := h
 clear h
 replace H := Option.bind_eq_some_iff.mp H
 obtain ⟨⟨t101, t102, t103, t104⟩, A10, H⟩ := H
 replace H : ((some (([(⟨t101, t102, t103, t104⟩ : S35)] : List (S35)) : List (S35))).bind fun y107 => ((agatelaw07_Awake.f).bind fun t111 => (if t111 = true then ((model_Node_One.f (⟨#[]⟩ : ByteArray) ([] : List ByteArray) (⟨#[]⟩ : ByteArray) y107 (⟨#[97, 120, 105, 115]⟩ : ByteArray) 7).bind fun t112 => (if t112 = 1 then ((model_Node_One.f (⟨#[]⟩ : ByteArray) ([] : List ByteArray) (⟨#[]⟩ : ByteArray) y107 (⟨#[107, 101, 101, 112]⟩ : ByteArray) 7).bind fun t113 => (some (t113 == 7))) else (some false))) else (some false)))) = some r := H
 have A1 := Aside0.mk A10
 clear A10
 obtain ⟨y107, hy107⟩ : ∃ y_ : List (S35), y_ = (([(⟨t101, t102, t103, t104⟩ : S35)] : List (S35))) := ⟨_, rfl⟩
 replace H : ((agatelaw07_Awake.f).bind fun t111 => (if t111 = true then ((model_Node_One.f (⟨#[]⟩ : ByteArray) ([] : List ByteArray) (⟨#[]⟩ : ByteArray) y107 (⟨#[97, 120, 105, 115]⟩ : ByteArray) 7).bind fun t112 => (if t112 = 1 then ((model_Node_One.f (⟨#[]⟩ : ByteArray) ([] : List ByteArray) (⟨#[]⟩ : ByteArray) y107 (⟨#[107, 101, 101, 112]⟩ : ByteArray) 7).bind fun t113 => (some (t113 == 7))) else (some false))) else (some false))) = some r := by first | (rw [hy107]; with_reducible exact H) | (have H2_ := (Option.bind_some _ _).symm.trans H; rw [hy107]; with_reducible exact H2_) | (have H2_ := (Option.bind_some _ _).symm.trans H; with_reducible exact H2_) | with_reducible exact H | (rw [hy107]; exact H) | exact H
 have Ny107 := Aside0.mk hy107
 clear hy107
 replace H := Option.bind_eq_some_iff.mp H
 obtain ⟨t111, A20, H⟩ := H
 replace H : (if t111 = true then ((model_Node_One.f (⟨#[]⟩ : ByteArray) ([] : List ByteArray) (⟨#[]⟩ : ByteArray) y107 (⟨#[97, 120, 105, 115]⟩ : ByteArray) 7).bind fun t112 => (if t112 = 1 then ((model_Node_One.f (⟨#[]⟩ : ByteArray) ([] : List ByteArray) (⟨#[]⟩ : ByteArray) y107 (⟨#[107, 101, 101, 112]⟩ : ByteArray) 7).bind fun t113 => (some (t113 == 7))) else (some false))) else (some false)) = some r := H
 have A2 := Aside0.mk A20
 clear A20
 by_cases c3 : t111 = true
 ·
  subst c3
  have H1 : ((model_Node_One.f (⟨#[]⟩ : ByteArray) ([] : List ByteArray) (⟨#[]⟩ : ByteArray) y107 (⟨#[97, 120, 105, 115]⟩ : ByteArray) 7).bind fun t112 => (if t112 = 1 then ((model_Node_One.f (⟨#[]⟩ : ByteArray) ([] : List ByteArray) (⟨#[]⟩ : ByteArray) y107 (⟨#[107, 101, 101, 112]⟩ : ByteArray) 7).bind fun t113 => (some (t113 == 7))) else (some false))) = some r := by rw [if_pos rfl] at H; exact H
  clear H
  have H := H1
  clear H1
  replace H := Option.bind_eq_some_iff.mp H
  obtain ⟨t112, A40, H⟩ := H
  replace H : (if t112 = 1 then ((model_Node_One.f (⟨#[]⟩ : ByteArray) ([] : List ByteArray) (⟨#[]⟩ : ByteArray) y107 (⟨#[107, 101, 101, 112]⟩ : ByteArray) 7).bind fun t113 => (some (t113 == 7))) else (some false)) = some r := H
  have A4 := Aside0.mk A40
  clear A40
  by_cases c5 : t112 = 1
  ·
   rw [if_pos c5] at H
   have c5b0 : (t112 == 1) = true := beq_iff_eq.mpr c5
   have c5b1 : (t112 != 1) = false := bne_eq_false_iff_eq.mpr c5
   clear c5
   replace H := Option.bind_eq_some_iff.mp H
   obtain ⟨t113, A60, H⟩ := H
   replace H : (some (t113 == 7)) = some r := H
   have A6 := Aside0.mk A60
   clear A60
   obtain rfl := Option.some.inj H
   go_enter Try.func8, Try.ntmps8
   go_wp2_with (first | ((with_reducible refine gate_callee (f := 21) rfl ?_); refine goesL_ (some 2) rfl rfl Try.func21 (by kernel_rfl) rfl #[.string (⟨#[97, 120, 105, 115]⟩ : ByteArray), .int .i64 1] rfl (by (try simp only [List.map_toArray, List.map_cons, List.map_nil]); first | done | rfl | (simp only [List.length_drop, List.length_take]; rfl)) ?_; (with_reducible refine (model_Number.calls (⟨#[97, 120, 105, 115]⟩ : ByteArray) 1 t101 t102 t103 t104 _ A1.out).mono ?_); rintro e w7 ⟨v105, rfl, ho0, hb⟩; refine ⟨_, rfl, ?_⟩; have n0_ := Aside0.mk (Kd.R_lower ho0 (below_size (hbA HB))); have n1_ := Aside0.mk (below_step (hbA HB) hb); clear HB; have HO106 := n0_; have HB := n1_; clear n0_ n1_; (try clear hb); (try clear hb2); (try clear hk); (try clear hi); (try clear ho0); obtain ⟨Ao8, co8, eo8⟩ := Kd.R_slice HO106.out; subst eo8) | ((with_reducible refine gate_dst (N := 3) rfl ?_); refine Kd.N_lit k35 _ 35 ?hg (N' := 3) ?hd (xs := ([(⟨t101, t102, t103, t104⟩ : S35)] : List (S35))) (inner := [.string t101, .bool t102, .int .i64 t103, .slice Ao8 t104.length co8]) (ok := (fun _ => True)) (okp := (fun _ => True)) ?hr ?hp (fun _ hk => hk) ((show ∀ k_, w7.heap.size ≤ k_ → (fun _ => True) k_ from fun k_ hk => trivial) _ (Nat.le_refl _)) (Below.refl _ _) (Nat.le_refl _) (by simp) ?_; (case hd => rfl); (case hg => rfl); (case hr => first | (go_simp; done) | (go_simp; rfl)); (case hp => exact (Reps.c4 (show Kd.FK k35 _ _ (⟨t101, t102, t103, t104⟩ : S35) [.string t101, .bool t102, .int .i64 t103, .slice Ao8 t104.length co8] from (k35_mkF _ _ (⟨t101, t102, t103, t104⟩ : S35) (Kd.R_reads' (Kd.R_mono (ok' := (fun _ => True)) (HO106.out) (fun k_ hk => trivial))).2.1 (Kd.R_F (Kd.R_mono (ok' := (fun _ => True)) (HO106.out) (fun k_ hk => trivial))))) (Reps.none _ _))); intro v108 w9 ho10 hb hg_ hnew_; clear hg_ hnew_; (first | rw [← Ny107.out] at ho10 | (simp only [Int.reduceToNat] at ho10; rw [← Ny107.out] at ho10)); have n0_ := Aside0.mk (Kd.N_lower ho10 (below_size (hbA HB))); have n1_ := Aside0.mk (below_step (hbA HB) hb); clear HB; clear HO106; have HO109 := n0_; have HB := n1_; clear n0_ n1_; clear hb ho10; obtain ⟨Ao11, co11, eo11⟩ := Kd.N_slice HO109.out; subst eo11) | ((with_reducible refine gate_dst (N := 1) rfl ?_); refine box_event ?hg (N := 1) ?hd (cs := #[.string (⟨#[]⟩ : ByteArray), .slice none 0 0, .string (⟨#[]⟩ : ByteArray), .slice none 0 0]) (t := 33) ?hr ?_; (case hd => rfl); (case hg => rfl); (case hr => first | (go_simp; done) | (go_simp; rfl)); intro gb110 hg w12 hbox hb; have n0_ := Aside0.mk (Kd.N_below (Kd.N_elderB (by (with_reducible repeat (first | apply Kd.N_alloc | apply Kd.N_drewN | apply Kd.N_drew)); exact HO109.out) gb110 (Nat.le_of_eq hg.symm)) hb); have n1_ := Aside0.mk (below_step (hbA HB) hb); have n2_ := Aside0.mk (hbox); have n3_ := Aside0.mk ((by rw [hg]; exact (below_size (hbA HB)) : w.heap.size ≤ gb110)); have n4_ := Aside0.mk ((by rw [hg]; exact (below_size (hbA HB)) : w.heap.size ≤ gb110)); clear HO109; clear HB; have HO109 := n0_; have HB := n1_; have BK110 := n2_; have GW110 := n3_; have GE110 := n4_; clear n0_ n1_ n2_ n3_ n4_; clear hb hbox hg; have hcz13_0 : w12.cell? ⟨gb110, 0, none⟩ = some (.string (⟨#[]⟩ : ByteArray)) := bcA BK110 0; have hcz13_1 : w12.cell? ⟨gb110, 1, none⟩ = some (.slice none 0 0) := bcA BK110 1; have hcz13_2 : w12.cell? ⟨gb110, 2, none⟩ = some (.string (⟨#[]⟩ : ByteArray)) := bcA BK110 2; have hcz13_3 : w12.cell? ⟨gb110, 3, none⟩ = some (.slice none 0 0) := bcA BK110 3; have hfz13_0 := blk_frozen BK110.out 0; have hfz13_1 := blk_frozen BK110.out 1; have hfz13_2 := blk_frozen BK110.out 2; have hfz13_3 := blk_frozen BK110.out 3) | ((with_reducible refine gate_callee (f := 35) rfl ?_); refine goesL_ (some 5) rfl rfl Try.func35 (by kernel_rfl) rfl #[] rfl (by (try simp only [List.map_toArray, List.map_cons, List.map_nil]); first | done | rfl | (simp only [List.length_drop, List.length_take]; rfl)) ?_; (with_reducible refine (agatelaw07_Awake.calls  true _ A2.out).mono ?_); rintro e w14 ⟨rfl, hb⟩; refine ⟨_, rfl, ?_⟩; have n0_ := Aside0.mk (Kd.N_below (by (with_reducible repeat (first | apply Kd.N_alloc | apply Kd.N_drewN | apply Kd.N_drew)); exact (Kd.N_mono (Kd.N_far (p := ⟨gb110, 3, none⟩) (Kd.N_far (p := ⟨gb110, 2, none⟩) (Kd.N_far (p := ⟨gb110, 1, none⟩) (Kd.N_far (p := ⟨gb110, 0, none⟩) (Kd.N_mono HO109.out (fun k_ hk => (⟨hk, hk.2⟩ : _ ∧ k_ ≠ gb110))) (fun _ hk => hk.2) (.string (⟨#[]⟩ : ByteArray))) (fun _ hk => hk.2) (.slice none 0 0)) (fun _ hk => hk.2) (.string (⟨#[]⟩ : ByteArray))) (fun _ hk => hk.2) (.slice Ao11 y107.length co11)) (fun _ h_ => h_.1))) hb); have n1_ := Aside0.mk (blk_below (g := gb110) (o := .cells #[.string (⟨#[]⟩ : ByteArray), .slice none 0 0, .string (⟨#[]⟩ : ByteArray), .slice Ao11 y107.length co11] 33 (0, 0)) (by (with_reducible repeat (first | refine blk_drewN ?_ _ | refine blk_drew ?_ | refine blk_alloc ?_ _)); refine blk_put (cs := #[.string (⟨#[]⟩ : ByteArray), .slice none 0 0, .string (⟨#[]⟩ : ByteArray), .slice none 0 0]) ?_ 3 _ rfl; (with_reducible repeat (first | refine blk_drewN ?_ _ | refine blk_drew ?_ | refine blk_alloc ?_ _)); refine blk_put (cs := #[.string (⟨#[]⟩ : ByteArray), .slice none 0 0, .string (⟨#[]⟩ : ByteArray), .slice none 0 0]) ?_ 2 _ rfl; (with_reducible repeat (first | refine blk_drewN ?_ _ | refine blk_drew ?_ | refine blk_alloc ?_ _)); refine blk_put (cs := #[.string (⟨#[]⟩ : ByteArray), .slice none 0 0, .string (⟨#[]⟩ : ByteArray), .slice none 0 0]) ?_ 1 _ rfl; (with_reducible repeat (first | refine blk_drewN ?_ _ | refine blk_drew ?_ | refine blk_alloc ?_ _)); refine blk_put (cs := #[.string (⟨#[]⟩ : ByteArray), .slice none 0 0, .string (⟨#[]⟩ : ByteArray), .slice none 0 0]) ?_ 0 _ rfl; (with_reducible repeat (first | refine blk_drewN ?_ _ | refine blk_drew ?_ | refine blk_alloc ?_ _)); exact BK110.out) hb); have n2_ := Aside0.mk (below_step (hbA HB) hb); clear HO109; clear BK110; clear HB; have HO109 := n0_; have BK110 := n1_; have HB := n2_; clear n0_ n1_ n2_; (try clear hb); (try clear hb2); (try clear hk); (try clear hi); have hcz15_0 : w14.cell? ⟨gb110, 0, none⟩ = some (.string (⟨#[]⟩ : ByteArray)) := bcA BK110 0; have hcz15_1 : w14.cell? ⟨gb110, 1, none⟩ = some (.slice none 0 0) := bcA BK110 1; have hcz15_2 : w14.cell? ⟨gb110, 2, none⟩ = some (.string (⟨#[]⟩ : ByteArray)) := bcA BK110 2; have hcz15_3 : w14.cell? ⟨gb110, 3, none⟩ = some (.slice Ao11 y107.length co11) := bcA BK110 3; have hfz15_0 := blk_frozen BK110.out 0; have hfz15_1 := blk_frozen BK110.out 1; have hfz15_2 := blk_frozen BK110.out 2; have hfz15_3 := blk_frozen BK110.out 3) | (go_at_call 13; (refine (model_Node_One.calls (⟨#[]⟩ : ByteArray) _ _ ([] : List ByteArray) (⟨#[]⟩ : ByteArray) _ _ y107 (⟨#[97, 120, 105, 115]⟩ : ByteArray) 7 t112 _ ?side1 ?side2 ?side3 ?side4 A4.out).mono ?_); (case side1 => exact Kd.C_nil _ _); (case side2 => exact Nat.le_refl _); (case side3 => repeat (first | exact (Kd.N_reads' HO109.out).2.2 | (with_reducible refine Kd.C_alloc ?_ _) | (with_reducible refine Kd.C_drewN ?_ _) | (with_reducible refine Kd.C_drew ?_))); (case side4 => exact (Kd.N_reads' HO109.out).2.1); rintro e w16 ⟨rfl, hb⟩; have n0_ := Aside0.mk (Kd.N_below (by (with_reducible repeat (first | apply Kd.N_alloc | apply Kd.N_drewN | apply Kd.N_drew)); exact HO109.out) hb); have n1_ := Aside0.mk (blk_below (g := gb110) (o := .cells #[.string (⟨#[]⟩ : ByteArray), .slice none 0 0, .string (⟨#[]⟩ : ByteArray), .slice Ao11 y107.length co11] 33 (0, 0)) (bkA BK110) hb); have n2_ := Aside0.mk (below_step (hbA HB) hb); clear HO109; clear BK110; clear HB; have HO109 := n0_; have BK110 := n1_; have HB := n2_; clear n0_ n1_ n2_; (try clear hb); (try clear hb2); (try clear hk); (try clear hi); have hcz17_0 : w16.cell? ⟨gb110, 0, none⟩ = some (.string (⟨#[]⟩ : ByteArray)) := bcA BK110 0; have hcz17_1 : w16.cell? ⟨gb110, 1, none⟩ = some (.slice none 0 0) := bcA BK110 1; have hcz17_2 : w16.cell? ⟨gb110, 2, none⟩ = some (.string (⟨#[]⟩ : ByteArray)) := bcA BK110 2; have hcz17_3 : w16.cell? ⟨gb110, 3, none⟩ = some (.slice Ao11 y107.length co11) := bcA BK110 3; have hfz17_0 := blk_frozen BK110.out 0; have hfz17_1 := blk_frozen BK110.out 1; have hfz17_2 := blk_frozen BK110.out 2; have hfz17_3 := blk_frozen BK110.out 3) | (go_at_call 13; (refine (model_Node_One.calls (⟨#[]⟩ : ByteArray) _ _ ([] : List ByteArray) (⟨#[]⟩ : ByteArray) _ _ y107 (⟨#[107, 101, 101, 112]⟩ : ByteArray) 7 t113 _ ?side1 ?side2 ?side3 ?side4 A6.out).mono ?_); (case side1 => exact Kd.C_nil _ _); (case side2 => exact Nat.le_refl _); (case side3 => repeat (first | exact (Kd.N_reads' HO109.out).2.2 | (with_reducible refine Kd.C_alloc ?_ _) | (with_reducible refine Kd.C_drewN ?_ _) | (with_reducible refine Kd.C_drew ?_))); (case side4 => exact (Kd.N_reads' HO109.out).2.1); rintro e w18 ⟨rfl, hb⟩; have n0_ := Aside0.mk (Kd.N_below (by (with_reducible repeat (first | apply Kd.N_alloc | apply Kd.N_drewN | apply Kd.N_drew)); exact HO109.out) hb); have n1_ := Aside0.mk (blk_below (g := gb110) (o := .cells #[.string (⟨#[]⟩ : ByteArray), .slice none 0 0, .string (⟨#[]⟩ : ByteArray), .slice Ao11 y107.length co11] 33 (0, 0)) (bkA BK110) hb); have n2_ := Aside0.mk (below_step (hbA HB) hb); clear HO109; clear BK110; clear HB; have HO109 := n0_; have BK110 := n1_; have HB := n2_; clear n0_ n1_ n2_; (try clear hb); (try clear hb2); (try clear hk); (try clear hi)))
   go_ret
   exact ⟨by first | rfl | (simp [errW_none, errW_some] <;> rfl) | (simp [*, errW_none, errW_some] <;> rfl), hbA HB⟩
  ·
   rw [if_neg c5] at H
   have c5b0 : (t112 == 1) = false := beq_eq_false_iff_ne.mpr c5
   have c5b1 : (t112 != 1) = true := bne_iff_ne.mpr c5
   obtain rfl := Option.some.inj H
   go_enter Try.func8, Try.ntmps8
   go_wp2_with (first | ((with_reducible refine gate_callee (f := 21) rfl ?_); refine goesL_ (some 2) rfl rfl Try.func21 (by kernel_rfl) rfl #[.string (⟨#[97, 120, 105, 115]⟩ : ByteArray), .int .i64 1] rfl (by (try simp only [List.map_toArray, List.map_cons, List.map_nil]); first | done | rfl | (simp only [List.length_drop, List.length_take]; rfl)) ?_; (with_reducible refine (model_Number.calls (⟨#[97, 120, 105, 115]⟩ : ByteArray) 1 t101 t102 t103 t104 _ A1.out).mono ?_); rintro e w19 ⟨v105, rfl, ho0, hb⟩; refine ⟨_, rfl, ?_⟩; have n0_ := Aside0.mk (Kd.R_lower ho0 (below_size (hbA HB))); have n1_ := Aside0.mk (below_step (hbA HB) hb); clear HB; have HO106 := n0_; have HB := n1_; clear n0_ n1_; (try clear hb); (try clear hb2); (try clear hk); (try clear hi); (try clear ho0); obtain ⟨Ao20, co20, eo20⟩ := Kd.R_slice HO106.out; subst eo20) | ((with_reducible refine gate_dst (N := 3) rfl ?_); refine Kd.N_lit k35 _ 35 ?hg (N' := 3) ?hd (xs := ([(⟨t101, t102, t103, t104⟩ : S35)] : List (S35))) (inner := [.string t101, .bool t102, .int .i64 t103, .slice Ao20 t104.length co20]) (ok := (fun _ => True)) (okp := (fun _ => True)) ?hr ?hp (fun _ hk => hk) ((show ∀ k_, w19.heap.size ≤ k_ → (fun _ => True) k_ from fun k_ hk => trivial) _ (Nat.le_refl _)) (Below.refl _ _) (Nat.le_refl _) (by simp) ?_; (case hd => rfl); (case hg => rfl); (case hr => first | (go_simp; done) | (go_simp; rfl)); (case hp => exact (Reps.c4 (show Kd.FK k35 _ _ (⟨t101, t102, t103, t104⟩ : S35) [.string t101, .bool t102, .int .i64 t103, .slice Ao20 t104.length co20] from (k35_mkF _ _ (⟨t101, t102, t103, t104⟩ : S35) (Kd.R_reads' (Kd.R_mono (ok' := (fun _ => True)) (HO106.out) (fun k_ hk => trivial))).2.1 (Kd.R_F (Kd.R_mono (ok' := (fun _ => True)) (HO106.out) (fun k_ hk => trivial))))) (Reps.none _ _))); intro v108 w21 ho22 hb hg_ hnew_; clear hg_ hnew_; (first | rw [← Ny107.out] at ho22 | (simp only [Int.reduceToNat] at ho22; rw [← Ny107.out] at ho22)); have n0_ := Aside0.mk (Kd.N_lower ho22 (below_size (hbA HB))); have n1_ := Aside0.mk (below_step (hbA HB) hb); clear HB; clear HO106; have HO109 := n0_; have HB := n1_; clear n0_ n1_; clear hb ho22; obtain ⟨Ao23, co23, eo23⟩ := Kd.N_slice HO109.out; subst eo23) | ((with_reducible refine gate_dst (N := 1) rfl ?_); refine box_event ?hg (N := 1) ?hd (cs := #[.string (⟨#[]⟩ : ByteArray), .slice none 0 0, .string (⟨#[]⟩ : ByteArray), .slice none 0 0]) (t := 33) ?hr ?_; (case hd => rfl); (case hg => rfl); (case hr => first | (go_simp; done) | (go_simp; rfl)); intro gb110 hg w24 hbox hb; have n0_ := Aside0.mk (Kd.N_below (Kd.N_elderB (by (with_reducible repeat (first | apply Kd.N_alloc | apply Kd.N_drewN | apply Kd.N_drew)); exact HO109.out) gb110 (Nat.le_of_eq hg.symm)) hb); have n1_ := Aside0.mk (below_step (hbA HB) hb); have n2_ := Aside0.mk (hbox); have n3_ := Aside0.mk ((by rw [hg]; exact (below_size (hbA HB)) : w.heap.size ≤ gb110)); have n4_ := Aside0.mk ((by rw [hg]; exact (below_size (hbA HB)) : w.heap.size ≤ gb110)); clear HO109; clear HB; have HO109 := n0_; have HB := n1_; have BK110 := n2_; have GW110 := n3_; have GE110 := n4_; clear n0_ n1_ n2_ n3_ n4_; clear hb hbox hg; have hcz25_0 : w24.cell? ⟨gb110, 0, none⟩ = some (.string (⟨#[]⟩ : ByteArray)) := bcA BK110 0; have hcz25_1 : w24.cell? ⟨gb110, 1, none⟩ = some (.slice none 0 0) := bcA BK110 1; have hcz25_2 : w24.cell? ⟨gb110, 2, none⟩ = some (.string (⟨#[]⟩ : ByteArray)) := bcA BK110 2; have hcz25_3 : w24.cell? ⟨gb110, 3, none⟩ = some (.slice none 0 0) := bcA BK110 3; have hfz25_0 := blk_frozen BK110.out 0; have hfz25_1 := blk_frozen BK110.out 1; have hfz25_2 := blk_frozen BK110.out 2; have hfz25_3 := blk_frozen BK110.out 3) | ((with_reducible refine gate_callee (f := 35) rfl ?_); refine goesL_ (some 5) rfl rfl Try.func35 (by kernel_rfl) rfl #[] rfl (by (try simp only [List.map_toArray, List.map_cons, List.map_nil]); first | done | rfl | (simp only [List.length_drop, List.length_take]; rfl)) ?_; (with_reducible refine (agatelaw07_Awake.calls  true _ A2.out).mono ?_); rintro e w26 ⟨rfl, hb⟩; refine ⟨_, rfl, ?_⟩; have n0_ := Aside0.mk (Kd.N_below (by (with_reducible repeat (first | apply Kd.N_alloc | apply Kd.N_drewN | apply Kd.N_drew)); exact (Kd.N_mono (Kd.N_far (p := ⟨gb110, 3, none⟩) (Kd.N_far (p := ⟨gb110, 2, none⟩) (Kd.N_far (p := ⟨gb110, 1, none⟩) (Kd.N_far (p := ⟨gb110, 0, none⟩) (Kd.N_mono HO109.out (fun k_ hk => (⟨hk, hk.2⟩ : _ ∧ k_ ≠ gb110))) (fun _ hk => hk.2) (.string (⟨#[]⟩ : ByteArray))) (fun _ hk => hk.2) (.slice none 0 0)) (fun _ hk => hk.2) (.string (⟨#[]⟩ : ByteArray))) (fun _ hk => hk.2) (.slice Ao23 y107.length co23)) (fun _ h_ => h_.1))) hb); have n1_ := Aside0.mk (blk_below (g := gb110) (o := .cells #[.string (⟨#[]⟩ : ByteArray), .slice none 0 0, .string (⟨#[]⟩ : ByteArray), .slice Ao23 y107.length co23] 33 (0, 0)) (by (with_reducible repeat (first | refine blk_drewN ?_ _ | refine blk_drew ?_ | refine blk_alloc ?_ _)); refine blk_put (cs := #[.string (⟨#[]⟩ : ByteArray), .slice none 0 0, .string (⟨#[]⟩ : ByteArray), .slice none 0 0]) ?_ 3 _ rfl; (with_reducible repeat (first | refine blk_drewN ?_ _ | refine blk_drew ?_ | refine blk_alloc ?_ _)); refine blk_put (cs := #[.string (⟨#[]⟩ : ByteArray), .slice none 0 0, .string (⟨#[]⟩ : ByteArray), .slice none 0 0]) ?_ 2 _ rfl; (with_reducible repeat (first | refine blk_drewN ?_ _ | refine blk_drew ?_ | refine blk_alloc ?_ _)); refine blk_put (cs := #[.string (⟨#[]⟩ : ByteArray), .slice none 0 0, .string (⟨#[]⟩ : ByteArray), .slice none 0 0]) ?_ 1 _ rfl; (with_reducible repeat (first | refine blk_drewN ?_ _ | refine blk_drew ?_ | refine blk_alloc ?_ _)); refine blk_put (cs := #[.string (⟨#[]⟩ : ByteArray), .slice none 0 0, .string (⟨#[]⟩ : ByteArray), .slice none 0 0]) ?_ 0 _ rfl; (with_reducible repeat (first | refine blk_drewN ?_ _ | refine blk_drew ?_ | refine blk_alloc ?_ _)); exact BK110.out) hb); have n2_ := Aside0.mk (below_step (hbA HB) hb); clear HO109; clear BK110; clear HB; have HO109 := n0_; have BK110 := n1_; have HB := n2_; clear n0_ n1_ n2_; (try clear hb); (try clear hb2); (try clear hk); (try clear hi); have hcz27_0 : w26.cell? ⟨gb110, 0, none⟩ = some (.string (⟨#[]⟩ : ByteArray)) := bcA BK110 0; have hcz27_1 : w26.cell? ⟨gb110, 1, none⟩ = some (.slice none 0 0) := bcA BK110 1; have hcz27_2 : w26.cell? ⟨gb110, 2, none⟩ = some (.string (⟨#[]⟩ : ByteArray)) := bcA BK110 2; have hcz27_3 : w26.cell? ⟨gb110, 3, none⟩ = some (.slice Ao23 y107.length co23) := bcA BK110 3; have hfz27_0 := blk_frozen BK110.out 0; have hfz27_1 := blk_frozen BK110.out 1; have hfz27_2 := blk_frozen BK110.out 2; have hfz27_3 := blk_frozen BK110.out 3) | (go_at_call 13; (refine (model_Node_One.calls (⟨#[]⟩ : ByteArray) _ _ ([] : List ByteArray) (⟨#[]⟩ : ByteArray) _ _ y107 (⟨#[97, 120, 105, 115]⟩ : ByteArray) 7 t112 _ ?side1 ?side2 ?side3 ?side4 A4.out).mono ?_); (case side1 => exact Kd.C_nil _ _); (case side2 => exact Nat.le_refl _); (case side3 => repeat (first | exact (Kd.N_reads' HO109.out).2.2 | (with_reducible refine Kd.C_alloc ?_ _) | (with_reducible refine Kd.C_drewN ?_ _) | (with_reducible refine Kd.C_drew ?_))); (case side4 => exact (Kd.N_reads' HO109.out).2.1); rintro e w28 ⟨rfl, hb⟩; have n0_ := Aside0.mk (Kd.N_below (by (with_reducible repeat (first | apply Kd.N_alloc | apply Kd.N_drewN | apply Kd.N_drew)); exact HO109.out) hb); have n1_ := Aside0.mk (blk_below (g := gb110) (o := .cells #[.string (⟨#[]⟩ : ByteArray), .slice none 0 0, .string (⟨#[]⟩ : ByteArray), .slice Ao23 y107.length co23] 33 (0, 0)) (bkA BK110) hb); have n2_ := Aside0.mk (below_step (hbA HB) hb); clear HO109; clear BK110; clear HB; have HO109 := n0_; have BK110 := n1_; have HB := n2_; clear n0_ n1_ n2_; (try clear hb); (try clear hb2); (try clear hk); (try clear hi)))
   go_ret
   exact ⟨by first | rfl | (simp [errW_none, errW_some] <;> rfl) | (simp [*, errW_none, errW_some] <;> rfl), hbA HB⟩
 ·
  replace c3 := Bool.eq_false_iff.mpr c3
  subst c3
  have H1 : (some false) = some r := by rw [if_neg (show ¬ (false = true) by decide)] at H; exact H
  clear H
  have H := H1
  clear H1
  obtain rfl := Option.some.inj H
  go_enter Try.func8, Try.ntmps8
  go_wp2_with (first | ((with_reducible refine gate_callee (f := 21) rfl ?_); refine goesL_ (some 2) rfl rfl Try.func21 (by kernel_rfl) rfl #[.string (⟨#[97, 120, 105, 115]⟩ : ByteArray), .int .i64 1] rfl (by (try simp only [List.map_toArray, List.map_cons, List.map_nil]); first | done | rfl | (simp only [List.length_drop, List.length_take]; rfl)) ?_; (with_reducible refine (model_Number.calls (⟨#[97, 120, 105, 115]⟩ : ByteArray) 1 t101 t102 t103 t104 _ A1.out).mono ?_); rintro e w29 ⟨v105, rfl, ho0, hb⟩; refine ⟨_, rfl, ?_⟩; have n0_ := Aside0.mk (Kd.R_lower ho0 (below_size (hbA HB))); have n1_ := Aside0.mk (below_step (hbA HB) hb); clear HB; have HO106 := n0_; have HB := n1_; clear n0_ n1_; (try clear hb); (try clear hb2); (try clear hk); (try clear hi); (try clear ho0); obtain ⟨Ao30, co30, eo30⟩ := Kd.R_slice HO106.out; subst eo30) | ((with_reducible refine gate_dst (N := 3) rfl ?_); refine Kd.N_lit k35 _ 35 ?hg (N' := 3) ?hd (xs := ([(⟨t101, t102, t103, t104⟩ : S35)] : List (S35))) (inner := [.string t101, .bool t102, .int .i64 t103, .slice Ao30 t104.length co30]) (ok := (fun _ => True)) (okp := (fun _ => True)) ?hr ?hp (fun _ hk => hk) ((show ∀ k_, w29.heap.size ≤ k_ → (fun _ => True) k_ from fun k_ hk => trivial) _ (Nat.le_refl _)) (Below.refl _ _) (Nat.le_refl _) (by simp) ?_; (case hd => rfl); (case hg => rfl); (case hr => first | (go_simp; done) | (go_simp; rfl)); (case hp => exact (Reps.c4 (show Kd.FK k35 _ _ (⟨t101, t102, t103, t104⟩ : S35) [.string t101, .bool t102, .int .i64 t103, .slice Ao30 t104.length co30] from (k35_mkF _ _ (⟨t101, t102, t103, t104⟩ : S35) (Kd.R_reads' (Kd.R_mono (ok' := (fun _ => True)) (HO106.out) (fun k_ hk => trivial))).2.1 (Kd.R_F (Kd.R_mono (ok' := (fun _ => True)) (HO106.out) (fun k_ hk => trivial))))) (Reps.none _ _))); intro v108 w31 ho32 hb hg_ hnew_; clear hg_ hnew_; (first | rw [← Ny107.out] at ho32 | (simp only [Int.reduceToNat] at ho32; rw [← Ny107.out] at ho32)); have n0_ := Aside0.mk (Kd.N_lower ho32 (below_size (hbA HB))); have n1_ := Aside0.mk (below_step (hbA HB) hb); clear HB; clear HO106; have HO109 := n0_; have HB := n1_; clear n0_ n1_; clear hb ho32; obtain ⟨Ao33, co33, eo33⟩ := Kd.N_slice HO109.out; subst eo33) | ((with_reducible refine gate_dst (N := 1) rfl ?_); refine box_event ?hg (N := 1) ?hd (cs := #[.string (⟨#[]⟩ : ByteArray), .slice none 0 0, .string (⟨#[]⟩ : ByteArray), .slice none 0 0]) (t := 33) ?hr ?_; (case hd => rfl); (case hg => rfl); (case hr => first | (go_simp; done) | (go_simp; rfl)); intro gb110 hg w34 hbox hb; have n0_ := Aside0.mk (Kd.N_below (Kd.N_elderB (by (with_reducible repeat (first | apply Kd.N_alloc | apply Kd.N_drewN | apply Kd.N_drew)); exact HO109.out) gb110 (Nat.le_of_eq hg.symm)) hb); have n1_ := Aside0.mk (below_step (hbA HB) hb); have n2_ := Aside0.mk (hbox); have n3_ := Aside0.mk ((by rw [hg]; exact (below_size (hbA HB)) : w.heap.size ≤ gb110)); have n4_ := Aside0.mk ((by rw [hg]; exact (below_size (hbA HB)) : w.heap.size ≤ gb110)); clear HO109; clear HB; have HO109 := n0_; have HB := n1_; have BK110 := n2_; have GW110 := n3_; have GE110 := n4_; clear n0_ n1_ n2_ n3_ n4_; clear hb hbox hg; have hcz35_0 : w34.cell? ⟨gb110, 0, none⟩ = some (.string (⟨#[]⟩ : ByteArray)) := bcA BK110 0; have hcz35_1 : w34.cell? ⟨gb110, 1, none⟩ = some (.slice none 0 0) := bcA BK110 1; have hcz35_2 : w34.cell? ⟨gb110, 2, none⟩ = some (.string (⟨#[]⟩ : ByteArray)) := bcA BK110 2; have hcz35_3 : w34.cell? ⟨gb110, 3, none⟩ = some (.slice none 0 0) := bcA BK110 3; have hfz35_0 := blk_frozen BK110.out 0; have hfz35_1 := blk_frozen BK110.out 1; have hfz35_2 := blk_frozen BK110.out 2; have hfz35_3 := blk_frozen BK110.out 3) | ((with_reducible refine gate_callee (f := 35) rfl ?_); refine goesL_ (some 5) rfl rfl Try.func35 (by kernel_rfl) rfl #[] rfl (by (try simp only [List.map_toArray, List.map_cons, List.map_nil]); first | done | rfl | (simp only [List.length_drop, List.length_take]; rfl)) ?_; (with_reducible refine (agatelaw07_Awake.calls  false _ A2.out).mono ?_); rintro e w36 ⟨rfl, hb⟩; refine ⟨_, rfl, ?_⟩; have n0_ := Aside0.mk (Kd.N_below (by (with_reducible repeat (first | apply Kd.N_alloc | apply Kd.N_drewN | apply Kd.N_drew)); exact (Kd.N_mono (Kd.N_far (p := ⟨gb110, 3, none⟩) (Kd.N_far (p := ⟨gb110, 2, none⟩) (Kd.N_far (p := ⟨gb110, 1, none⟩) (Kd.N_far (p := ⟨gb110, 0, none⟩) (Kd.N_mono HO109.out (fun k_ hk => (⟨hk, hk.2⟩ : _ ∧ k_ ≠ gb110))) (fun _ hk => hk.2) (.string (⟨#[]⟩ : ByteArray))) (fun _ hk => hk.2) (.slice none 0 0)) (fun _ hk => hk.2) (.string (⟨#[]⟩ : ByteArray))) (fun _ hk => hk.2) (.slice Ao33 y107.length co33)) (fun _ h_ => h_.1))) hb); have n1_ := Aside0.mk (blk_below (g := gb110) (o := .cells #[.string (⟨#[]⟩ : ByteArray), .slice none 0 0, .string (⟨#[]⟩ : ByteArray), .slice Ao33 y107.length co33] 33 (0, 0)) (by (with_reducible repeat (first | refine blk_drewN ?_ _ | refine blk_drew ?_ | refine blk_alloc ?_ _)); refine blk_put (cs := #[.string (⟨#[]⟩ : ByteArray), .slice none 0 0, .string (⟨#[]⟩ : ByteArray), .slice none 0 0]) ?_ 3 _ rfl; (with_reducible repeat (first | refine blk_drewN ?_ _ | refine blk_drew ?_ | refine blk_alloc ?_ _)); refine blk_put (cs := #[.string (⟨#[]⟩ : ByteArray), .slice none 0 0, .string (⟨#[]⟩ : ByteArray), .slice none 0 0]) ?_ 2 _ rfl; (with_reducible repeat (first | refine blk_drewN ?_ _ | refine blk_drew ?_ | refine blk_alloc ?_ _)); refine blk_put (cs := #[.string (⟨#[]⟩ : ByteArray), .slice none 0 0, .string (⟨#[]⟩ : ByteArray), .slice none 0 0]) ?_ 1 _ rfl; (with_reducible repeat (first | refine blk_drewN ?_ _ | refine blk_drew ?_ | refine blk_alloc ?_ _)); refine blk_put (cs := #[.string (⟨#[]⟩ : ByteArray), .slice none 0 0, .string (⟨#[]⟩ : ByteArray), .slice none 0 0]) ?_ 0 _ rfl; (with_reducible repeat (first | refine blk_drewN ?_ _ | refine blk_drew ?_ | refine blk_alloc ?_ _)); exact BK110.out) hb); have n2_ := Aside0.mk (below_step (hbA HB) hb); clear HO109; clear BK110; clear HB; have HO109 := n0_; have BK110 := n1_; have HB := n2_; clear n0_ n1_ n2_; (try clear hb); (try clear hb2); (try clear hk); (try clear hi)))
  go_ret
  exact ⟨by first | rfl | (simp [errW_none, errW_some] <;> rfl) | (simp [*, errW_none, errW_some] <;> rfl), hbA HB⟩
end Go.Proofs.Ytdemgfbolcmcdaa.X
