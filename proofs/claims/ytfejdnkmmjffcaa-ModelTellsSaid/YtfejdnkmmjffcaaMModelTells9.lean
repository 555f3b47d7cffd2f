import Derived.Test.YtfejdnkmmjffcaaMModelTells3
import Derived.Test.YtfejdnkmmjffcaaMModelTells8
import Derived.Test.YtfejdnkmmjffcaaMModelTells4
import Derived.Test.YtfejdnkmmjffcaaMModelTells5
import Derived.Laws.ResultCell
namespace Go.Proofs.Ytfejdnkmmjffcaa.X
open Go.RowKit Go.Proofs.YtfejdnkmmjffcaaW.PrintWords Go.Proofs.YtfejdnkmmjffcaaW.PrintLast Go.Proofs.YtfejdnkmmjffcaaW.PrintMore
attribute [local go_sem] max2_int min2_int max_two min_two max_three min_three max_four min_four
set_option linter.unusedVariables false
set_option linter.unusedSimpArgs false
def idxS : List ByteArray → ByteArray → Nat → Int
  | [], _, _ => -1
  | x :: t, nm, i => if x = nm then (i : Int) else idxS t nm (i + 1)
def nmAttr (l : List S48) : List ByteArray := l.map (fun x => x.f0)
set_option maxHeartbeats 8000000 in
theorem closAttr.calls (e : S48) (A3 : Option Addr) (c3 : Nat) (gb : Nat) (nm : ByteArray) (w : World) (hb : w.heap[gb]? = some (.cells #[.string nm] 9 (0, 0))) :
    Calls Try.prog 60 #[.agg #[.string e.f0, .bool e.f1, .int .i64 e.f2, .slice A3 e.f3.length c3], .pointer (some ⟨gb, 0, none⟩)] w fun e' w' => e' = .returned (.bool (e.f0.toList == nm.toList)) ∧ Below w.heap.size w w' := by
  have hu := Try.underlying48
  have HB0 := Aside0.mk hb
  have hc : w.cell? ⟨gb, 0, none⟩ = some (.string nm) := blk_cell hb 0
  clear hb
  go_enter Try.func60, Try.ntmps60
  have hlt : gb < w.heap.size := blk_lt HB0.out
  go_wp2
  go_ret
  exact ⟨rfl, below_alloc (Below.refl w.heap.size w) _⟩
set_option maxHeartbeats 8000000 in
set_option maxRecDepth 100000 in
theorem idxAttr.calls (A0 : Option Addr) (c0 : Nat) (l0 : List S48) (gb : Nat) (nm : ByteArray) (w : World) (hr0 : Kd.C k48 w A0 l0.length l0) (hc0 : l0.length ≤ c0) (hb : w.heap[gb]? = some (.cells #[.string nm] 9 (0, 0))) :
    Calls Try.prog 59 #[.slice A0 l0.length c0, .func (Fn.func 60) #[] #[.pointer (some ⟨gb, 0, none⟩)]] w fun e w' => e = .returned (.int .i64 (idxS (nmAttr l0) nm 0)) ∧ Below w.heap.size w w' := by
  have HR0 := Aside0.mk hr0
  have HB0 := Aside0.mk hb
  have HL := Aside0.mk hr0.2.1
  have HB := Aside0.mk (Below.refl w.heap.size w)
  clear hr0 hb hc0
  go_enter Try.func59, Try.ntmps59
  go_wp2
  go_loopg [8] l0.length (fun kq v8 w' => ∃ i : Nat, v8 = .int .i64 i ∧ Aside0 (i + kq = l0.length) ∧ i ≤ l0.length ∧ Aside0 (idxS (nmAttr l0) nm 0 = idxS ((nmAttr l0).drop i) nm i) ∧ Aside0 (Below w.heap.size w w'))
  case atStart => exact ⟨0, rfl, ⟨by omega⟩, Nat.zero_le _, ⟨rfl⟩, HB⟩
  case round =>
    clear HB
    obtain ⟨i, rfl, HK, hi, HI, HB⟩ := hrel
    by_cases hlt : i < l0.length
    · have hlt' : decide ((i : Int) < (l0.length : Int)) = true := by simpa using hlt
      obtain ⟨kk, rfl⟩ : ∃ m, gk = m + 1 := ⟨gk - 1, by have := HK.out; omega⟩
      have p101 : 0 ≤ (i : Int) := Int.natCast_nonneg i
      have q101 : (i : Int) < (l0.length : Int) := by omega
      obtain ⟨ad101, A3, c3, e101, hx101_0, hx101_1, hx101_2, hx101_3, hl101_3, hi101_3⟩ := at_T48 (Kd.C_below HR0.out HB.out) (i : Int) p101 q101
      cases e101
      clear hl101_3 hi101_3
      rw [Int.toNat_natCast] at hx101_0 hx101_1 hx101_2 hx101_3
      have hr : rd_T48 l0 (i : Int) = l0[i] := by simp [rd_T48, hlt]
      have hn : (nmAttr l0).drop i = l0[i].f0 :: (nmAttr l0).drop (i + 1) := by
        unfold nmAttr
        rw [List.drop_eq_getElem_cons (by rw [List.length_map]; exact hlt), List.getElem_map]
      rw [hr] at hx101_0 hx101_1 hx101_2 hx101_3
      have HN := Aside0.mk hn
      clear hr hn
      have Hw : Aside0 (wrap64 ((i : Int) + 1) = (i : Int) + 1) := ⟨by have := HL.out; exact wrap64_id (by omega) (by omega)⟩
      replace p101 := eq_true p101
      replace q101 := eq_true q101
      go_wp2_with (first | (fail))
      refine (closAttr.calls l0[i] A3 c3 gb nm _ (blk_below HB0.out HB.out)).mono ?_
      rintro e w8 ⟨rfl, hb⟩
      have n0_ := Aside0.mk (below_step HB.out hb)
      clear HB hb
      have HB := n0_
      clear n0_
      by_cases hx : l0[i].f0 = nm
      · have hq : (l0[i].f0.toList == nm.toList) = true := by rw [hx]; exact beq_self_eq_true _
        have HX : Aside0 (idxS (nmAttr l0) nm 0 = (i : Int)) := ⟨by rw [HI.out, HN.out, idxS, if_pos hx]⟩
        clear hx
        go_wp2_with (first | (fail))
        go_ret
        exact ⟨by rw [HX.out]; rfl, HB.out⟩
      · have hq : (l0[i].f0.toList == nm.toList) = false := beq_eq_false_iff_ne.2 (fun h => hx (toList_inj.1 h))
        have HX : Aside0 (idxS (nmAttr l0) nm 0 = idxS ((nmAttr l0).drop (i + 1)) nm (i + 1)) := ⟨by rw [HI.out, HN.out, idxS, if_neg hx]⟩
        clear hx
        go_wp2_with (first | (fail))
        go_roundg kk
        case measure => have := HK.out; omega
        case rel => exact ⟨i + 1, by rw [Hw.out]; rfl, ⟨by have := HK.out; omega⟩, by omega, HX, HB⟩
    · have hlt' : decide ((i : Int) < (l0.length : Int)) = false := by simpa using hlt
      have HX : Aside0 (idxS (nmAttr l0) nm 0 = -1) := ⟨by rw [HI.out, List.drop_of_length_le (by unfold nmAttr; rw [List.length_map]; omega)]; rfl⟩
      go_wp2_with (first | (fail))
      go_ret
      exact ⟨by rw [HX.out]; rfl, HB.out⟩
theorem results_cell_tmp_row {P : Program} {fn : Func} {p u : Tmp} {ty : TypeId} (h : fn.results = #[.cell p ty, .tmp u]) (tmps : Array Value) (w : World) (g : Nat) (t : TypeId) (cs : Array Value) (fr : Nat × Nat) (d : TypeDesc)
    (hp : tmps.getD p undef = .pointer (some ⟨g, 0, none⟩)) (hg : w.heap[g]? = some (.cells cs t fr))
    (hu : P.underlying ty = some d) (hd : (match d with | .struct _ | .array _ _ => true | _ => false) = true) (hi : (P.info? ty).map (·.size) = some cs.size) :
    (results fn tmps).run P w = .ok (.tuple #[.agg cs, tmps.getD u undef]) w := by
  have hp' : tmps[p]?.getD undef = .pointer (some ⟨g, 0, none⟩) := by simpa using hp
  rw [results_cell_tmp h]
  simp [hp', asAddr, run_loadVar_row w g t ty cs fr d hg hu hd hi]
def attrR (l : List S48) (nm : ByteArray) : S48 := if idxS (nmAttr l) nm 0 < 0 then z48 else rd_T48 l (idxS (nmAttr l) nm 0)
theorem idxS_lt : ∀ (l : List ByteArray) (nm : ByteArray) (i : Nat), idxS l nm i = -1 ∨ ∃ j, j < l.length ∧ idxS l nm i = ((i + j : Nat) : Int)
  | [], nm, i => .inl rfl
  | x :: t, nm, i => by
    unfold idxS
    by_cases h : x = nm
    · rw [if_pos h]; exact .inr ⟨0, by simp, by simp⟩
    · rw [if_neg h]
      rcases idxS_lt t nm (i + 1) with h | ⟨j, hj, h⟩
      · exact .inl h
      · exact .inr ⟨j + 1, by simp; exact hj, by rw [h]; omega⟩
set_option maxHeartbeats 8000000 in
set_option maxRecDepth 100000 in
theorem nodeAttr.calls (op : ByteArray) (A1 : Option Addr) (n1 c1 : Nat) (out : ByteArray) (A3 : Option Addr) (c3 : Nat) (l3 : List S48) (nm : ByteArray) (P : Nat → Prop) (w : World) (hs3 : Kd.V k48 48 w w.heap.size P (.slice A3 l3.length c3) l3) :
    Calls Try.prog 40 #[.agg #[.string op, .slice A1 n1 c1, .string out, .slice A3 l3.length c3], .string nm] w fun e w' => (∃ A c, e = .returned (.tuple #[.agg #[.string (attrR l3 nm).f0, .bool (attrR l3 nm).f1, .int .i64 (attrR l3 nm).f2, .slice A (attrR l3 nm).f3.length c], .bool (decide (0 ≤ idxS (nmAttr l3) nm 0))]) ∧ Kd.V (Kd.int .i64) 2 w' w.heap.size (fun k_ => P k_ ∨ w.heap.size ≤ k_) (.slice A (attrR l3 nm).f3.length c) (attrR l3 nm).f3) ∧ Below w.heap.size w w' := by
  have hu := Try.underlying48
  have hu2 := Try.underlying46
  have HS0 := Aside0.mk hs3
  have HR0 := Aside0.mk (Kd.V_reads' hs3).2.2
  have HC0 := Aside0.mk (Kd.V_reads' hs3).2.1
  clear hs3
  go_enter Try.func40, Try.ntmps40
  go_wp2_with (first | (fail))
  have e1 : (w.alloc (Obj.cells #[Value.string op, Value.slice A1 n1 c1, Value.string out, Value.slice A3 l3.length c3] 46)).heap.size = w.heap.size + 1 := alloc_size _ _
  have e2 : ((w.alloc (Obj.cells #[Value.string op, Value.slice A1 n1 c1, Value.string out, Value.slice A3 l3.length c3] 46)).alloc (Obj.cells #[Value.string nm] 9)).heap.size = w.heap.size + 1 + 1 := by rw [alloc_size, e1]
  have BK0 := Aside0.mk (show (((w.alloc (Obj.cells #[Value.string op, Value.slice A1 n1 c1, Value.string out, Value.slice A3 l3.length c3] 46)).alloc (Obj.cells #[Value.string nm] 9)).alloc (Obj.cells #[Value.string { data := #[] }, Value.bool false, Value.int IntKind.i64 0, Value.slice none 0 0] 48)).heap[w.heap.size]? = some (.cells #[Value.string op, Value.slice A1 n1 c1, Value.string out, Value.slice A3 l3.length c3] 46 (0, 0)) from blk_alloc (blk_alloc (blk_new w _) _) _)
  have BK1 := Aside0.mk (show (((w.alloc (Obj.cells #[Value.string op, Value.slice A1 n1 c1, Value.string out, Value.slice A3 l3.length c3] 46)).alloc (Obj.cells #[Value.string nm] 9)).alloc (Obj.cells #[Value.string { data := #[] }, Value.bool false, Value.int IntKind.i64 0, Value.slice none 0 0] 48)).heap[w.heap.size + 1]? = some (.cells #[Value.string nm] 9 (0, 0)) from blk_alloc (by rw [← e1]; exact blk_new _ _) _)
  have BK2 := Aside0.mk (show (((w.alloc (Obj.cells #[Value.string op, Value.slice A1 n1 c1, Value.string out, Value.slice A3 l3.length c3] 46)).alloc (Obj.cells #[Value.string nm] 9)).alloc (Obj.cells #[Value.string { data := #[] }, Value.bool false, Value.int IntKind.i64 0, Value.slice none 0 0] 48)).heap[w.heap.size + 1 + 1]? = some (.cells #[Value.string { data := #[] }, Value.bool false, Value.int IntKind.i64 0, Value.slice none 0 0] 48 (0, 0)) from by rw [← e2]; exact blk_new _ _)
  have HB := Aside0.mk (below_alloc (below_alloc (below_alloc (Below.refl w.heap.size w) (Obj.cells #[Value.string op, Value.slice A1 n1 c1, Value.string out, Value.slice A3 l3.length c3] 46)) (Obj.cells #[Value.string nm] 9)) (Obj.cells #[Value.string { data := #[] }, Value.bool false, Value.int IntKind.i64 0, Value.slice none 0 0] 48))
  clear e1 e2
  generalize (((w.alloc (Obj.cells #[Value.string op, Value.slice A1 n1 c1, Value.string out, Value.slice A3 l3.length c3] 46)).alloc (Obj.cells #[Value.string nm] 9)).alloc (Obj.cells #[Value.string { data := #[] }, Value.bool false, Value.int IntKind.i64 0, Value.slice none 0 0] 48)) = w3 at BK0 BK1 BK2 HB ⊢
  refine (idxAttr.calls A3 c3 l3 (w.heap.size + 1) nm _ (Kd.C_below HR0.out HB.out) HC0.out BK1.out).mono ?_
  rintro e w8 ⟨rfl, hb⟩
  have n0_ := Aside0.mk (below_step HB.out hb)
  have n1_ := Aside0.mk (blk_below BK0.out hb)
  have n2_ := Aside0.mk (blk_below BK2.out hb)
  clear HB BK0 BK1 BK2 hb
  have HB := n0_; have BK0 := n1_; have BK2 := n2_
  clear n0_ n1_ n2_
  have f2 := blk_frozen BK2.out 0
  have f3 := blk_frozen BK2.out 1
  have f4 := blk_frozen BK2.out 2
  have f5 := blk_frozen BK2.out 3
  have g0 : w8.cell? ⟨w.heap.size + 1 + 1, 0, none⟩ = some (.string ⟨#[]⟩) := blk_cell BK2.out 0
  have g1 : w8.cell? ⟨w.heap.size + 1 + 1, 1, none⟩ = some (.bool false) := blk_cell BK2.out 1
  have g2 : w8.cell? ⟨w.heap.size + 1 + 1, 2, none⟩ = some (.int .i64 0) := blk_cell BK2.out 2
  have g3 : w8.cell? ⟨w.heap.size + 1 + 1, 3, none⟩ = some (.slice none 0 0) := blk_cell BK2.out 3
  have g4 : w8.cell? ⟨w.heap.size, 3, none⟩ = some (.slice A3 l3.length c3) := blk_cell BK0.out 3
  rcases idxS_lt (nmAttr l3) nm 0 with hx | ⟨j, hj, hx⟩
  · have HX := Aside0.mk (show attrR l3 nm = z48 by unfold attrR; rw [hx]; rfl)
    have HX2 := Aside0.mk (show decide (0 ≤ idxS (nmAttr l3) nm 0) = false by rw [hx]; rfl)
    rw [hx]
    clear hx
    go_wp2_with (first | (fail))
    refine bodyPost_ret (results_cell_tmp_row rfl _ _ (w.heap.size + 1 + 1) 48 #[.string ⟨#[]⟩, .bool false, .int .i64 0, .slice none 0 0] (0, 0) _ rfl (by refine blk_put (cs := #[.string ⟨#[]⟩, .bool false, .int .i64 0, .slice none 0 0]) ?_ 3 _ rfl; refine blk_put (cs := #[.string ⟨#[]⟩, .bool false, .int .i64 0, .slice none 0 0]) ?_ 2 _ rfl; refine blk_put (cs := #[.string ⟨#[]⟩, .bool false, .int .i64 0, .slice none 0 0]) ?_ 1 _ rfl; refine blk_put (cs := #[.string ⟨#[]⟩, .bool false, .int .i64 0, .slice none 0 0]) ?_ 0 _ rfl; exact BK2.out) Try.underlying48 rfl (by kernel_rfl)) rfl ?_
    rw [HX.out, HX2.out]
    exact ⟨⟨none, 0, rfl, Kd.V_nil _ _ _ _ _⟩, below_set (below_set (below_set (below_set HB.out (by omega)) (by omega)) (by omega)) (by omega)⟩
  · have hx0 : idxS (nmAttr l3) nm 0 = (j : Int) := by rw [hx]; simp
    have hjl : j < l3.length := by unfold nmAttr at hj; rw [List.length_map] at hj; exact hj
    have hr : rd_T48 l3 (j : Int) = l3[j] := by simp [rd_T48, hjl]
    obtain ⟨x, hxe⟩ : ∃ x, x = l3[j] := ⟨_, rfl⟩
    have HX := Aside0.mk (show attrR l3 nm = x by unfold attrR; rw [hx0, if_neg (by omega), hr, hxe])
    have HX2 := Aside0.mk (show decide (0 ≤ idxS (nmAttr l3) nm 0) = true by rw [hx0]; exact decide_eq_true (by omega))
    have hneg : decide ((j : Int) < 0) = false := decide_eq_false (by omega)
    have p101 : 0 ≤ (j : Int) := Int.natCast_nonneg j
    have q101 : (j : Int) < (l3.length : Int) := by omega
    obtain ⟨ad101, A4, c4, e101, hx101_0, hx101_1, hx101_2, hx101_3, hl4, hi4⟩ := at_T48 HR0.out (j : Int) p101 q101
    cases e101
    obtain ⟨ce, hce, hMe, hcc⟩ := Kd.V_get HS0.out z48 (j : Int) p101 q101
    obtain ⟨ua, uc, rfl, ul, ge⟩ := k48_openF hMe
    have hv := hcc 3 _ rfl
    rw [add_field _ _ 3 (by omega)] at hv
    replace hv := Option.some.inj (hv.symm.trans hx101_3)
    injection hv with hva hvn hvc
    rw [hva] at ge
    rw [hvc] at ul
    have hV4 := (show Kd.V (Kd.int .i64) 2 w w.heap.size P (.slice A4 (rd_T48 l3 (j : Int)).f3.length c4) (rd_T48 l3 (j : Int)).f3 from Kd.V_mk ul ge)
    clear hva hvn hvc ge ul hcc hce hMe
    replace hx101_0 := (HB.out.cell (World.block_lt_of_cell? w _ hx101_0)).trans hx101_0
    replace hx101_1 := (HB.out.cell (World.block_lt_of_cell? w _ hx101_1)).trans hx101_1
    replace hx101_2 := (HB.out.cell (World.block_lt_of_cell? w _ hx101_2)).trans hx101_2
    replace hx101_3 := (HB.out.cell (World.block_lt_of_cell? w _ hx101_3)).trans hx101_3
    rw [Int.toNat_natCast] at hx101_0 hx101_1 hx101_2 hx101_3
    rw [hr, ← hxe] at hx101_0 hx101_1 hx101_2 hx101_3 hV4
    have HR4 := Aside0.mk hV4
    rw [hx0]
    clear hr hx hx0 hi4 hl4 hxe hV4 hj
    clear hjl
    replace p101 := eq_true p101
    replace q101 := eq_true q101
    go_wp2_with (first | (fail))
    have hBs := Aside0.mk (show Below w.heap.size w ((((w8.setCell ⟨w.heap.size + 1 + 1, 0, none⟩ (.string x.f0)).setCell ⟨w.heap.size + 1 + 1, 1, none⟩ (.bool x.f1)).setCell ⟨w.heap.size + 1 + 1, 2, none⟩ (.int .i64 x.f2)).setCell ⟨w.heap.size + 1 + 1, 3, none⟩ (.slice A4 x.f3.length c4)) from below_set (below_set (below_set (below_set HB.out (by omega)) (by omega)) (by omega)) (by omega))
    refine bodyPost_ret (results_cell_tmp_row rfl _ _ (w.heap.size + 1 + 1) 48 #[.string x.f0, .bool x.f1, .int .i64 x.f2, .slice A4 x.f3.length c4] (0, 0) _ rfl (by refine blk_put (cs := #[.string x.f0, .bool x.f1, .int .i64 x.f2, .slice none 0 0]) ?_ 3 _ rfl; refine blk_put (cs := #[.string x.f0, .bool x.f1, .int .i64 0, .slice none 0 0]) ?_ 2 _ rfl; refine blk_put (cs := #[.string x.f0, .bool false, .int .i64 0, .slice none 0 0]) ?_ 1 _ rfl; refine blk_put (cs := #[.string ⟨#[]⟩, .bool false, .int .i64 0, .slice none 0 0]) ?_ 0 _ rfl; exact BK2.out) Try.underlying48 rfl (by kernel_rfl)) rfl ?_
    rw [HX.out, HX2.out]
    exact ⟨⟨A4, c4, rfl, Kd.V_mono (Kd.V_below HR4.out hBs.out) (fun k_ h => .inl h)⟩, hBs.out⟩
def model_Node_One.f (a0_0 : ByteArray) (l0_1 : List ByteArray) (a0_2 : ByteArray) (l0_3 : List S48) (a1 : ByteArray) (a2 : Int) : Option Int := some (if decide (0 ≤ idxS (nmAttr l0_3) a1 0) && (attrR l0_3 a1).f1 then (attrR l0_3 a1).f2 else a2)
set_option maxHeartbeats 8000000 in
set_option maxRecDepth 100000 in
theorem model_Node_One.calls (a0_0 : ByteArray) (A0_1 : Option Addr) (c0_1 : Nat) (l0_1 : List ByteArray) (a0_2 : ByteArray) (A0_3 : Option Addr) (c0_3 : Nat) (l0_3 : List S48) (a1 : ByteArray) (a2 : Int) (r : Int) (w : World) (hr0_1 : Kd.C Kd.string w A0_1 l0_1.length l0_1) (hc0_1 : l0_1.length ≤ c0_1) (hr0_3 : Kd.C k48 w A0_3 l0_3.length l0_3) (hc0_3 : l0_3.length ≤ c0_3) (h : model_Node_One.f a0_0 l0_1 a0_2 l0_3 a1 a2 = some r) :
    Calls Try.prog 12 #[.agg #[.string a0_0, .slice A0_1 l0_1.length c0_1, .string a0_2, .slice A0_3 l0_3.length c0_3], .string a1, .int .i64 a2] w fun e w' => e = .returned (.int .i64 r) ∧ Below w.heap.size w w' := by
  unfold model_Node_One.f at h
  have HH := Aside0.mk (Option.some.inj h)
  have hu := Try.underlying48
  have hu2 := Try.underlying46
  have HR0 := Aside0.mk hr0_3
  have HC0 := Aside0.mk hc0_3
  clear hr0_3 hc0_3 hr0_1 hc0_1 h
  go_enter Try.func12, Try.ntmps12
  go_wp2_with (first | (fail))
  have HB := Aside0.mk (below_alloc (Below.refl w.heap.size w) (Obj.cells #[Value.string a0_0, Value.slice A0_1 l0_1.length c0_1, Value.string a0_2, Value.slice A0_3 l0_3.length c0_3] 46))
  generalize w.alloc (Obj.cells #[Value.string a0_0, Value.slice A0_1 l0_1.length c0_1, Value.string a0_2, Value.slice A0_3 l0_3.length c0_3] 46) = w3 at HB ⊢
  refine (nodeAttr.calls a0_0 A0_1 l0_1.length c0_1 a0_2 A0_3 c0_3 l0_3 a1 (fun k => k < w3.heap.size) _ (Kd.V_mk HC0.out (Kd.C_F (Kd.heap_iso _ (Kd.heap_pair Kd.heap_string (Kd.heap_pair Kd.heap_bool (Kd.heap_pair (Kd.heap_int .i64) (Kd.heap_slice 2 (Kd.heap_int .i64)))))) (Kd.C_below HR0.out HB.out)))).mono ?_
  rintro e w8 ⟨⟨A, c, rfl, _⟩, hb⟩
  have n0_ := Aside0.mk (below_step HB.out hb)
  clear HB hb
  have HB := n0_
  clear n0_
  obtain ⟨x, hx⟩ : ∃ x, x = attrR l0_3 a1 := ⟨_, rfl⟩
  obtain ⟨b, hb⟩ : ∃ b, b = decide (0 ≤ idxS (nmAttr l0_3) a1 0) := ⟨_, rfl⟩
  replace HH := HH.out
  rw [← hx, ← hb] at HH ⊢
  have HH1 := Aside0.mk HH
  clear HH
  have HH := HH1
  clear HH1
  clear hx hb HR0 HC0
  have e1 := Aside0.mk (show w.heap.size ≤ w8.heap.size from below_size HB.out)
  go_wp2_with (first | (fail))
  all_goals (go_ret; exact ⟨by have q := HH.out; subst q; simp_all, below_alloc HB.out _⟩)
def model_Number.f (a0 : ByteArray) (a1 : Int) : Option (ByteArray × Bool × Int × List Int) := some (a0, true, a1, ([] : List Int))
set_option maxHeartbeats 8000000 in
set_option maxRecDepth 100000 in
theorem model_Number.calls (a0 : ByteArray) (a1 : Int) (r1 : ByteArray) (r2 : Bool) (r3 : Int) (r4 : List Int) (w : World) (h : model_Number.f a0 a1 = some (r1, r2, r3, r4)) :
    Calls Try.prog 10 #[.string a0, .int .i64 a1] w fun e w' => ∃ v3_ : Value, e = .returned (.agg #[.string r1, .bool r2, .int .i64 r3, v3_]) ∧ Kd.R (Kd.int .i64) 2 w' w.heap.size (fun _ => True) v3_ r4 ∧ Below w.heap.size w w' := by
  have hu48 := Try.underlying48; have HB := mk0 (Below.refl w.heap.size w); have H : (some (a0, true, a1, ([] : List Int))) = some (r1, r2, r3, r4) := h; clear h
  simp only [Option.some.injEq, Prod.mk.injEq] at H
  obtain ⟨rfl, rfl, rfl, rfl⟩ := H
  go_enter Try.func10, Try.ntmps10
  go_wp2_with (first | ((with_reducible refine gate_dst (N := 4) rfl ?_); refine boxE (N := 4) (cs := #[.string (⟨#[]⟩ : ByteArray), .bool false, .int .i64 0, .slice none 0 0]) (t := 48) ?_; intro gb101 hg w3 hbox hb; have BK101 := mk0 hbox; have GW101 := mk0 ((by rw [hg]; exact (below_size (hbA HB)) : w.heap.size ≤ gb101)); have GE101 := mk0 ((by rw [hg]; exact (below_size (hbA HB)) : w.heap.size ≤ gb101)); replace HB := mk0 (below_step (hbA HB) hb); clear hb hbox hg; have hcz4_0 : w3.cell? ⟨gb101, 0, none⟩ = some (.string (⟨#[]⟩ : ByteArray)) := (blk_cell BK101.out 0).trans rfl; have hcz4_1 : w3.cell? ⟨gb101, 1, none⟩ = some (.bool false) := (blk_cell BK101.out 1).trans rfl; have hcz4_2 : w3.cell? ⟨gb101, 2, none⟩ = some (.int .i64 0) := (blk_cell BK101.out 2).trans rfl; have hcz4_3 : w3.cell? ⟨gb101, 3, none⟩ = some (.slice none 0 0) := (blk_cell BK101.out 3).trans rfl; have hfz4_0 := fz BK101 0; have hfz4_1 := fz BK101 1; have hfz4_2 := fz BK101 2; have hfz4_3 := blk_frozen BK101.out 3))
  refine bodyPost_ret (results_cell_row rfl _ _ gb101 48 #[.string a0, .bool true, .int .i64 a1, .slice none 0 0] (0, 0) _ rfl (bkW BK101) Try.underlying48 rfl (by kernel_rfl)) rfl ?_
  exact ⟨_, cl3, by first | exact Kd.R_nil _ _ _ _ _ | exact Kd.N_nil _ _ _ _ _ | exact Kd.V_nil _ _ _ _ _ | exact Kd.Q_nil _ _ _ _ _ | exact Kd.S_nil _ _ _ _ _, hbA HB⟩
end Go.Proofs.Ytfejdnkmmjffcaa.X
namespace Go.Proofs.Ytfejdnkmmjffcaa.X
open Go.RowKit Go.Proofs.YtfejdnkmmjffcaaW.PrintWords Go.Proofs.YtfejdnkmmjffcaaW.PrintLast Go.Proofs.YtfejdnkmmjffcaaW.PrintMore
attribute [local go_sem] max2_int min2_int max_two min_two max_three min_three max_four min_four
set_option linter.unusedVariables false
set_option linter.unusedSimpArgs false
def agatelaw10_Awake.f  : Option (Bool) := (model_Number.f (⟨#[97, 120, 105, 115]⟩ : ByteArray) 1).bind fun bt101 => ((some (([(⟨bt101.1, bt101.2.1, bt101.2.2.1, bt101.2.2.2⟩ : S48)] : List (S48)) : List (S48))).bind fun y107 => ((agatelaw07_Awake.f).bind fun t111 => (if t111 = true then ((model_Node_One.f (⟨#[]⟩ : ByteArray) ([] : List ByteArray) (⟨#[]⟩ : ByteArray) y107 (⟨#[97, 120, 105, 115]⟩ : ByteArray) 7).bind fun t112 => (if t112 = 1 then ((model_Node_One.f (⟨#[]⟩ : ByteArray) ([] : List ByteArray) (⟨#[]⟩ : ByteArray) y107 (⟨#[107, 101, 101, 112]⟩ : ByteArray) 7).bind fun t113 => (some (t113 == 7))) else (some false))) else (some false))))
attribute [local irreducible] Calls
set_option maxHeartbeats 8000000 in
set_option maxRecDepth 100000 in
theorem agatelaw10_Awake.calls  (r : Bool) (w : World) (h : agatelaw10_Awake.f  = some r) :
  Calls Try.prog 5 #[] w fun e w' => e = .returned (.bool r) ∧ Below w.heap.size w w' := by
 have hu46 := Try.underlying46; have HB := mk0 (Below.refl w.heap.size w); have H : ((model_Number.f (⟨#[97, 120, 105, 115]⟩ : ByteArray) 1).bind fun bt101 => ((some (([(⟨bt101.1, bt101.2.1, bt101.2.2.1, bt101.2.2.2⟩ : S48)] : List (S48)) : List (S48))).bind fun y107 => ((agatelaw07_Awake.f).bind fun t111 => (if t111 = true then ((model_Node_One.f (⟨#[]⟩ : ByteArray) ([] : List ByteArray) (⟨#[]⟩ : ByteArray) y107 (⟨#[97, 120, 105, 115]⟩ : ByteArray) 7).bind fun t112 => (if t112 = 1 then ((model_Node_One.f (⟨#[]⟩ : ByteArray) ([] : List ByteArray) (⟨#[]⟩ : ByteArray) y107 (⟨#[107, 101, 101, 112]⟩ : ByteArray) 7).bind fun t113 => (some (t113 == 7))) else (some false))) else (some false))))) = some r := h; clear h; replace H := Option.bind_eq_some_iff.mp H; obtain ⟨⟨t101, t102, t103, t104⟩, A10, H⟩ := H; replace H : ((some (([(⟨t101, t102, t103, t104⟩ : S48)] : List (S48)) : List (S48))).bind fun y107 => ((agatelaw07_Awake.f).bind fun t111 => (if t111 = true then ((model_Node_One.f (⟨#[]⟩ : ByteArray) ([] : List ByteArray) (⟨#[]⟩ : ByteArray) y107 (⟨#[97, 120, 105, 115]⟩ : ByteArray) 7).bind fun t112 => (if t112 = 1 then ((model_Node_One.f (⟨#[]⟩ : ByteArray) ([] : List ByteArray) (⟨#[]⟩ : ByteArray) y107 (⟨#[107, 101, 101, 112]⟩ : ByteArray) 7).bind fun t113 => (some (t113 == 7))) else (some false))) else (some false)))) = some r := H; have A1 := mk0 A10; clear A10; obtain ⟨y107, hy107⟩ : ∃ y_ : List (S48), y_ = (([(⟨t101, t102, t103, t104⟩ : S48)] : List (S48))) := ⟨_, rfl⟩; replace H : ((agatelaw07_Awake.f).bind fun t111 => (if t111 = true then ((model_Node_One.f (⟨#[]⟩ : ByteArray) ([] : List ByteArray) (⟨#[]⟩ : ByteArray) y107 (⟨#[97, 120, 105, 115]⟩ : ByteArray) 7).bind fun t112 => (if t112 = 1 then ((model_Node_One.f (⟨#[]⟩ : ByteArray) ([] : List ByteArray) (⟨#[]⟩ : ByteArray) y107 (⟨#[107, 101, 101, 112]⟩ : ByteArray) 7).bind fun t113 => (some (t113 == 7))) else (some false))) else (some false))) = some r := by first | (rw [hy107]; with_reducible exact H) | (have H2_ := (Option.bind_some _ _).symm.trans H; rw [hy107]; with_reducible exact H2_) | (have H2_ := (Option.bind_some _ _).symm.trans H; with_reducible exact H2_) | with_reducible exact H | (rw [hy107]; exact H) | exact H
 have Ny107 := mk0 hy107; clear hy107; replace H := bnd H; obtain ⟨t111, A2, H⟩ := H
 by_cases c3 : t111 = true
 ·
  subst c3; have H1 : ((model_Node_One.f (⟨#[]⟩ : ByteArray) ([] : List ByteArray) (⟨#[]⟩ : ByteArray) y107 (⟨#[97, 120, 105, 115]⟩ : ByteArray) 7).bind fun t112 => (if t112 = 1 then ((model_Node_One.f (⟨#[]⟩ : ByteArray) ([] : List ByteArray) (⟨#[]⟩ : ByteArray) y107 (⟨#[107, 101, 101, 112]⟩ : ByteArray) 7).bind fun t113 => (some (t113 == 7))) else (some false))) = some r := by rw [if_pos rfl] at H; exact H
  clear H; have H := H1; clear H1; replace H := bnd H; obtain ⟨t112, A4, H⟩ := H
  by_cases c5 : t112 = 1
  ·
   rw [if_pos c5] at H; have c5b0 := beq_iff_eq.mpr c5; have c5b1 := bne_eq_false_iff_eq.mpr c5; clear c5; replace H := bnd H; obtain ⟨t113, A6, H⟩ := H; obtain rfl := Option.some.inj H
   go_enter Try.func5, Try.ntmps5
   go_wp2_with (first | ((with_reducible refine gate_callee (f := 10) rfl ?_); refine glE (some 2) rfl rfl Try.func10 (by kernel_rfl) rfl #[.string (⟨#[97, 120, 105, 115]⟩ : ByteArray), .int .i64 1] rfl ?_; (with_reducible refine (model_Number.calls (⟨#[97, 120, 105, 115]⟩ : ByteArray) 1 t101 t102 t103 t104 _ A1.out).mono ?_); rintro e w7 ⟨v105, rfl, ho0, hb⟩; refine ⟨_, rfl, ?_⟩; have HO106 := mk0 (Kd.R_lower ho0 (below_size (hbA HB))); replace HB := hbS HB hb; (try clear hb); (try clear hk); (try clear ho0); obtain ⟨Ao8, co8, eo8⟩ := Kd.R_slice HO106.out; subst eo8) | ((with_reducible refine gate_dst (N := 3) rfl ?_); refine Kd.N_lit k48 _ 48 ?hg (N' := 3) ?hd (xs := ([(⟨t101, t102, t103, t104⟩ : S48)] : List (S48))) (inner := [.string t101, .bool t102, .int .i64 t103, .slice Ao8 t104.length co8]) (ok := (fun _ => True)) (okp := (fun _ => True)) ?hr ?hp (fun _ hk => hk) ((show ∀ k_, w7.heap.size ≤ k_ → (fun _ => True) k_ from fun k_ hk => trivial) _ (Nat.le_refl _)) (Below.refl _ _) (Nat.le_refl _) (by simp) ?_; (case hd => rfl); (case hg => rfl); (case hr => first | (go_simp; done) | (go_simp; rfl)); (case hp => exact (Reps.c4 (show Kd.FK k48 _ _ (⟨t101, t102, t103, t104⟩ : S48) [.string t101, .bool t102, .int .i64 t103, .slice Ao8 t104.length co8] from (k48_mkF _ _ (⟨t101, t102, t103, t104⟩ : S48) (Kd.R_reads' (Kd.R_mono (ok' := (fun _ => True)) (HO106.out) (fun k_ hk => trivial))).2.1 (Kd.R_F (Kd.R_mono (ok' := (fun _ => True)) (HO106.out) (fun k_ hk => trivial))))) (Reps.none _ _))); intro v108 w9 ho10 hb hg_ hnew_; clear hg_ hnew_; (first | rw [← Ny107.out] at ho10 | (simp only [Int.reduceToNat] at ho10; rw [← Ny107.out] at ho10)); have HO109 := mk0 (Kd.N_lower ho10 (below_size (hbA HB))); replace HB := hbS HB hb; clear HO106; clear hb ho10; obtain ⟨Ao11, co11, eo11⟩ := Kd.N_slice HO109.out; subst eo11) | ((with_reducible refine gate_dst (N := 1) rfl ?_); refine boxE (N := 1) (cs := #[.string (⟨#[]⟩ : ByteArray), .slice none 0 0, .string (⟨#[]⟩ : ByteArray), .slice none 0 0]) (t := 46) ?_; intro gb110 hg w12 hbox hb; replace HO109 := mk0 (Kd.N_below (Kd.N_elderB (by (with_reducible repeat (first | apply Kd.N_alloc | apply Kd.N_drewN | apply Kd.N_drew)); exact HO109.out) gb110 (Nat.le_of_eq hg.symm)) hb); have BK110 := mk0 hbox; have GW110 := gwS HB hg; have GE110 := gwS HB hg; replace HB := hbS HB hb; clear hb hbox hg; obtain ⟨hcz13_0, hcz13_1, hcz13_2, hcz13_3⟩ := cz4 BK110; have hfz13_0 := fz BK110 0; have hfz13_1 := fz BK110 1; have hfz13_2 := fz BK110 2; have hfz13_3 := fz BK110 3) | ((with_reducible refine gate_callee (f := 11) rfl ?_); refine glE (some 5) rfl rfl Try.func11 (by kernel_rfl) rfl #[] rfl ?_; (with_reducible refine (agatelaw07_Awake.calls  true _ A2.out).mono ?_); rintro e w14 ⟨rfl, hb⟩; refine ⟨_, rfl, ?_⟩; replace HO109 := mk0 (Kd.N_below (by (with_reducible repeat (first | apply Kd.N_alloc | apply Kd.N_drewN | apply Kd.N_drew)); exact (Kd.N_mono (Kd.N_far (p := ⟨gb110, 3, none⟩) (Kd.N_far (p := ⟨gb110, 2, none⟩) (Kd.N_far (p := ⟨gb110, 1, none⟩) (Kd.N_far (p := ⟨gb110, 0, none⟩) (Kd.N_mono HO109.out (fun k_ hk => (⟨hk, hk.2⟩ : _ ∧ k_ ≠ gb110))) (fun _ hk => hk.2) (.string (⟨#[]⟩ : ByteArray))) (fun _ hk => hk.2) (.slice none 0 0)) (fun _ hk => hk.2) (.string (⟨#[]⟩ : ByteArray))) (fun _ hk => hk.2) (.slice Ao11 y107.length co11)) (fun _ h_ => h_.1))) hb); replace BK110 := mk0 (blk_below (g := gb110) (o := .cells #[.string (⟨#[]⟩ : ByteArray), .slice none 0 0, .string (⟨#[]⟩ : ByteArray), .slice Ao11 y107.length co11] 46 (0, 0)) (bkW BK110) hb); replace HB := hbS HB hb; (try clear hb); (try clear hk); obtain ⟨hcz15_0, hcz15_1, hcz15_2, hcz15_3⟩ := cz4 BK110; have hfz15_0 := fz BK110 0; have hfz15_1 := fz BK110 1; have hfz15_2 := fz BK110 2; have hfz15_3 := fz BK110 3) | (go_at_call 12; (refine (model_Node_One.calls (⟨#[]⟩ : ByteArray) _ _ ([] : List ByteArray) (⟨#[]⟩ : ByteArray) _ _ y107 (⟨#[97, 120, 105, 115]⟩ : ByteArray) 7 t112 _ ?side1 ?side2 ?side3 ?side4 A4.out).mono ?_); (case side1 => exact Kd.C_nil _ _); (case side2 => exact Nat.le_refl _); (case side3 => repeat (first | exact (Kd.N_reads' HO109.out).2.2 | (with_reducible refine Kd.C_alloc ?_ _) | (with_reducible refine Kd.C_drewN ?_ _) | (with_reducible refine Kd.C_drew ?_))); (case side4 => exact (Kd.N_reads' HO109.out).2.1); rintro e w16 ⟨rfl, hb⟩; replace HO109 := mk0 (Kd.N_below (by (with_reducible repeat (first | apply Kd.N_alloc | apply Kd.N_drewN | apply Kd.N_drew)); exact HO109.out) hb); replace BK110 := bkS BK110 hb; replace HB := hbS HB hb; (try clear hb); (try clear hk); obtain ⟨hcz17_0, hcz17_1, hcz17_2, hcz17_3⟩ := cz4 BK110; have hfz17_0 := fz BK110 0; have hfz17_1 := fz BK110 1; have hfz17_2 := fz BK110 2; have hfz17_3 := fz BK110 3) | (go_at_call 12; (refine (model_Node_One.calls (⟨#[]⟩ : ByteArray) _ _ ([] : List ByteArray) (⟨#[]⟩ : ByteArray) _ _ y107 (⟨#[107, 101, 101, 112]⟩ : ByteArray) 7 t113 _ ?side1 ?side2 ?side3 ?side4 A6.out).mono ?_); (case side1 => exact Kd.C_nil _ _); (case side2 => exact Nat.le_refl _); (case side3 => repeat (first | exact (Kd.N_reads' HO109.out).2.2 | (with_reducible refine Kd.C_alloc ?_ _) | (with_reducible refine Kd.C_drewN ?_ _) | (with_reducible refine Kd.C_drew ?_))); (case side4 => exact (Kd.N_reads' HO109.out).2.1); rintro e w18 ⟨rfl, hb⟩; replace HO109 := mk0 (Kd.N_below (by (with_reducible repeat (first | apply Kd.N_alloc | apply Kd.N_drewN | apply Kd.N_drew)); exact HO109.out) hb); replace BK110 := bkS BK110 hb; replace HB := hbS HB hb; (try clear hb); (try clear hk)))
   go_ret
   exact ⟨cl3, hbA HB⟩
  ·
   rw [if_neg c5] at H; have c5b0 := beq_eq_false_iff_ne.mpr c5; have c5b1 := bne_iff_ne.mpr c5; obtain rfl := Option.some.inj H
   go_enter Try.func5, Try.ntmps5
   go_wp2_with (first | ((with_reducible refine gate_callee (f := 10) rfl ?_); refine glE (some 2) rfl rfl Try.func10 (by kernel_rfl) rfl #[.string (⟨#[97, 120, 105, 115]⟩ : ByteArray), .int .i64 1] rfl ?_; (with_reducible refine (model_Number.calls (⟨#[97, 120, 105, 115]⟩ : ByteArray) 1 t101 t102 t103 t104 _ A1.out).mono ?_); rintro e w19 ⟨v105, rfl, ho0, hb⟩; refine ⟨_, rfl, ?_⟩; have HO106 := mk0 (Kd.R_lower ho0 (below_size (hbA HB))); replace HB := hbS HB hb; (try clear hb); (try clear hk); (try clear ho0); obtain ⟨Ao20, co20, eo20⟩ := Kd.R_slice HO106.out; subst eo20) | ((with_reducible refine gate_dst (N := 3) rfl ?_); refine Kd.N_lit k48 _ 48 ?hg (N' := 3) ?hd (xs := ([(⟨t101, t102, t103, t104⟩ : S48)] : List (S48))) (inner := [.string t101, .bool t102, .int .i64 t103, .slice Ao20 t104.length co20]) (ok := (fun _ => True)) (okp := (fun _ => True)) ?hr ?hp (fun _ hk => hk) ((show ∀ k_, w19.heap.size ≤ k_ → (fun _ => True) k_ from fun k_ hk => trivial) _ (Nat.le_refl _)) (Below.refl _ _) (Nat.le_refl _) (by simp) ?_; (case hd => rfl); (case hg => rfl); (case hr => first | (go_simp; done) | (go_simp; rfl)); (case hp => exact (Reps.c4 (show Kd.FK k48 _ _ (⟨t101, t102, t103, t104⟩ : S48) [.string t101, .bool t102, .int .i64 t103, .slice Ao20 t104.length co20] from (k48_mkF _ _ (⟨t101, t102, t103, t104⟩ : S48) (Kd.R_reads' (Kd.R_mono (ok' := (fun _ => True)) (HO106.out) (fun k_ hk => trivial))).2.1 (Kd.R_F (Kd.R_mono (ok' := (fun _ => True)) (HO106.out) (fun k_ hk => trivial))))) (Reps.none _ _))); intro v108 w21 ho22 hb hg_ hnew_; clear hg_ hnew_; (first | rw [← Ny107.out] at ho22 | (simp only [Int.reduceToNat] at ho22; rw [← Ny107.out] at ho22)); have HO109 := mk0 (Kd.N_lower ho22 (below_size (hbA HB))); replace HB := hbS HB hb; clear HO106; clear hb ho22; obtain ⟨Ao23, co23, eo23⟩ := Kd.N_slice HO109.out; subst eo23) | ((with_reducible refine gate_dst (N := 1) rfl ?_); refine boxE (N := 1) (cs := #[.string (⟨#[]⟩ : ByteArray), .slice none 0 0, .string (⟨#[]⟩ : ByteArray), .slice none 0 0]) (t := 46) ?_; intro gb110 hg w24 hbox hb; replace HO109 := mk0 (Kd.N_below (Kd.N_elderB (by (with_reducible repeat (first | apply Kd.N_alloc | apply Kd.N_drewN | apply Kd.N_drew)); exact HO109.out) gb110 (Nat.le_of_eq hg.symm)) hb); have BK110 := mk0 hbox; have GW110 := gwS HB hg; have GE110 := gwS HB hg; replace HB := hbS HB hb; clear hb hbox hg; obtain ⟨hcz25_0, hcz25_1, hcz25_2, hcz25_3⟩ := cz4 BK110; have hfz25_0 := fz BK110 0; have hfz25_1 := fz BK110 1; have hfz25_2 := fz BK110 2; have hfz25_3 := fz BK110 3) | ((with_reducible refine gate_callee (f := 11) rfl ?_); refine glE (some 5) rfl rfl Try.func11 (by kernel_rfl) rfl #[] rfl ?_; (with_reducible refine (agatelaw07_Awake.calls  true _ A2.out).mono ?_); rintro e w26 ⟨rfl, hb⟩; refine ⟨_, rfl, ?_⟩; replace HO109 := mk0 (Kd.N_below (by (with_reducible repeat (first | apply Kd.N_alloc | apply Kd.N_drewN | apply Kd.N_drew)); exact (Kd.N_mono (Kd.N_far (p := ⟨gb110, 3, none⟩) (Kd.N_far (p := ⟨gb110, 2, none⟩) (Kd.N_far (p := ⟨gb110, 1, none⟩) (Kd.N_far (p := ⟨gb110, 0, none⟩) (Kd.N_mono HO109.out (fun k_ hk => (⟨hk, hk.2⟩ : _ ∧ k_ ≠ gb110))) (fun _ hk => hk.2) (.string (⟨#[]⟩ : ByteArray))) (fun _ hk => hk.2) (.slice none 0 0)) (fun _ hk => hk.2) (.string (⟨#[]⟩ : ByteArray))) (fun _ hk => hk.2) (.slice Ao23 y107.length co23)) (fun _ h_ => h_.1))) hb); replace BK110 := mk0 (blk_below (g := gb110) (o := .cells #[.string (⟨#[]⟩ : ByteArray), .slice none 0 0, .string (⟨#[]⟩ : ByteArray), .slice Ao23 y107.length co23] 46 (0, 0)) (bkW BK110) hb); replace HB := hbS HB hb; (try clear hb); (try clear hk); obtain ⟨hcz27_0, hcz27_1, hcz27_2, hcz27_3⟩ := cz4 BK110; have hfz27_0 := fz BK110 0; have hfz27_1 := fz BK110 1; have hfz27_2 := fz BK110 2; have hfz27_3 := fz BK110 3) | (go_at_call 12; (refine (model_Node_One.calls (⟨#[]⟩ : ByteArray) _ _ ([] : List ByteArray) (⟨#[]⟩ : ByteArray) _ _ y107 (⟨#[97, 120, 105, 115]⟩ : ByteArray) 7 t112 _ ?side1 ?side2 ?side3 ?side4 A4.out).mono ?_); (case side1 => exact Kd.C_nil _ _); (case side2 => exact Nat.le_refl _); (case side3 => repeat (first | exact (Kd.N_reads' HO109.out).2.2 | (with_reducible refine Kd.C_alloc ?_ _) | (with_reducible refine Kd.C_drewN ?_ _) | (with_reducible refine Kd.C_drew ?_))); (case side4 => exact (Kd.N_reads' HO109.out).2.1); rintro e w28 ⟨rfl, hb⟩; replace HO109 := mk0 (Kd.N_below (by (with_reducible repeat (first | apply Kd.N_alloc | apply Kd.N_drewN | apply Kd.N_drew)); exact HO109.out) hb); replace BK110 := bkS BK110 hb; replace HB := hbS HB hb; (try clear hb); (try clear hk)))
   go_ret
   exact ⟨cl3, hbA HB⟩
 ·
  replace c3 := Bool.eq_false_iff.mpr c3; subst c3; have H1 : (some false) = some r := by rw [if_neg (show ¬ (false = true) by decide)] at H; exact H
  clear H; have H := H1; clear H1; obtain rfl := Option.some.inj H
  go_enter Try.func5, Try.ntmps5
  go_wp2_with (first | ((with_reducible refine gate_callee (f := 10) rfl ?_); refine glE (some 2) rfl rfl Try.func10 (by kernel_rfl) rfl #[.string (⟨#[97, 120, 105, 115]⟩ : ByteArray), .int .i64 1] rfl ?_; (with_reducible refine (model_Number.calls (⟨#[97, 120, 105, 115]⟩ : ByteArray) 1 t101 t102 t103 t104 _ A1.out).mono ?_); rintro e w29 ⟨v105, rfl, ho0, hb⟩; refine ⟨_, rfl, ?_⟩; have HO106 := mk0 (Kd.R_lower ho0 (below_size (hbA HB))); replace HB := hbS HB hb; (try clear hb); (try clear hk); (try clear ho0); obtain ⟨Ao30, co30, eo30⟩ := Kd.R_slice HO106.out; subst eo30) | ((with_reducible refine gate_dst (N := 3) rfl ?_); refine Kd.N_lit k48 _ 48 ?hg (N' := 3) ?hd (xs := ([(⟨t101, t102, t103, t104⟩ : S48)] : List (S48))) (inner := [.string t101, .bool t102, .int .i64 t103, .slice Ao30 t104.length co30]) (ok := (fun _ => True)) (okp := (fun _ => True)) ?hr ?hp (fun _ hk => hk) ((show ∀ k_, w29.heap.size ≤ k_ → (fun _ => True) k_ from fun k_ hk => trivial) _ (Nat.le_refl _)) (Below.refl _ _) (Nat.le_refl _) (by simp) ?_; (case hd => rfl); (case hg => rfl); (case hr => first | (go_simp; done) | (go_simp; rfl)); (case hp => exact (Reps.c4 (show Kd.FK k48 _ _ (⟨t101, t102, t103, t104⟩ : S48) [.string t101, .bool t102, .int .i64 t103, .slice Ao30 t104.length co30] from (k48_mkF _ _ (⟨t101, t102, t103, t104⟩ : S48) (Kd.R_reads' (Kd.R_mono (ok' := (fun _ => True)) (HO106.out) (fun k_ hk => trivial))).2.1 (Kd.R_F (Kd.R_mono (ok' := (fun _ => True)) (HO106.out) (fun k_ hk => trivial))))) (Reps.none _ _))); intro v108 w31 ho32 hb hg_ hnew_; clear hg_ hnew_; (first | rw [← Ny107.out] at ho32 | (simp only [Int.reduceToNat] at ho32; rw [← Ny107.out] at ho32)); have HO109 := mk0 (Kd.N_lower ho32 (below_size (hbA HB))); replace HB := hbS HB hb; clear HO106; clear hb ho32; obtain ⟨Ao33, co33, eo33⟩ := Kd.N_slice HO109.out; subst eo33) | ((with_reducible refine gate_dst (N := 1) rfl ?_); refine boxE (N := 1) (cs := #[.string (⟨#[]⟩ : ByteArray), .slice none 0 0, .string (⟨#[]⟩ : ByteArray), .slice none 0 0]) (t := 46) ?_; intro gb110 hg w34 hbox hb; replace HO109 := mk0 (Kd.N_below (Kd.N_elderB (by (with_reducible repeat (first | apply Kd.N_alloc | apply Kd.N_drewN | apply Kd.N_drew)); exact HO109.out) gb110 (Nat.le_of_eq hg.symm)) hb); have BK110 := mk0 hbox; have GW110 := gwS HB hg; have GE110 := gwS HB hg; replace HB := hbS HB hb; clear hb hbox hg; obtain ⟨hcz35_0, hcz35_1, hcz35_2, hcz35_3⟩ := cz4 BK110; have hfz35_0 := fz BK110 0; have hfz35_1 := fz BK110 1; have hfz35_2 := fz BK110 2; have hfz35_3 := fz BK110 3) | ((with_reducible refine gate_callee (f := 11) rfl ?_); refine glE (some 5) rfl rfl Try.func11 (by kernel_rfl) rfl #[] rfl ?_; (with_reducible refine (agatelaw07_Awake.calls  false _ A2.out).mono ?_); rintro e w36 ⟨rfl, hb⟩; refine ⟨_, rfl, ?_⟩; replace HO109 := mk0 (Kd.N_below (by (with_reducible repeat (first | apply Kd.N_alloc | apply Kd.N_drewN | apply Kd.N_drew)); exact (Kd.N_mono (Kd.N_far (p := ⟨gb110, 3, none⟩) (Kd.N_far (p := ⟨gb110, 2, none⟩) (Kd.N_far (p := ⟨gb110, 1, none⟩) (Kd.N_far (p := ⟨gb110, 0, none⟩) (Kd.N_mono HO109.out (fun k_ hk => (⟨hk, hk.2⟩ : _ ∧ k_ ≠ gb110))) (fun _ hk => hk.2) (.string (⟨#[]⟩ : ByteArray))) (fun _ hk => hk.2) (.slice none 0 0)) (fun _ hk => hk.2) (.string (⟨#[]⟩ : ByteArray))) (fun _ hk => hk.2) (.slice Ao33 y107.length co33)) (fun _ h_ => h_.1))) hb); replace BK110 := mk0 (blk_below (g := gb110) (o := .cells #[.string (⟨#[]⟩ : ByteArray), .slice none 0 0, .string (⟨#[]⟩ : ByteArray), .slice Ao33 y107.length co33] 46 (0, 0)) (bkW BK110) hb); replace HB := hbS HB hb; (try clear hb); (try clear hk)))
  go_ret
  exact ⟨cl3, hbA HB⟩
end Go.Proofs.Ytfejdnkmmjffcaa.X
namespace Go.Proofs.Ytfejdnkmmjffcaa.X
open Go.RowKit Go.Proofs.YtfejdnkmmjffcaaW.PrintWords Go.Proofs.YtfejdnkmmjffcaaW.PrintLast Go.Proofs.YtfejdnkmmjffcaaW.PrintMore
attribute [local go_sem] max2_int min2_int max_two min_two max_three min_three max_four min_four
set_option linter.unusedVariables false
set_option linter.unusedSimpArgs false
def agatelaw07_Of.f (a0_0 : ByteArray) (a0_1 : Int) (l0_2 : List Int) (a0_3 : ByteArray) : Option (ByteArray × Int × List Int × ByteArray) := some (a0_0, a0_1, l0_2, a0_3)
set_option maxHeartbeats 8000000 in
set_option maxRecDepth 100000 in
theorem agatelaw07_Of.calls (a0_0 : ByteArray) (a0_1 : Int) (P0_2_ : Nat → Prop) (A0_2 : Option Addr) (c0_2 : Nat) (l0_2 : List Int) (a0_3 : ByteArray) (r1 : ByteArray) (r2 : Int) (r3 : List Int) (r4 : ByteArray) (w : World) (hs0_2 : Kd.V (Kd.int .i64) 2 w w.heap.size (fun k_ => P0_2_ k_) (.slice A0_2 l0_2.length c0_2) l0_2) (h : agatelaw07_Of.f a0_0 a0_1 l0_2 a0_3 = some (r1, r2, r3, r4)) :
  Calls Try.prog 14 #[.agg #[.string a0_0, .int .i64 a0_1, .slice A0_2 l0_2.length c0_2, .string a0_3]] w fun e w' => ∃ v2_ : Value, e = .returned (.agg #[.string r1, .int .i64 r2, v2_, .string r4]) ∧ Kd.V (Kd.int .i64) 2 w' w.heap.size (fun k_ => (P0_2_ k_ ∨ w.heap.size ≤ k_)) v2_ r3 ∧ Below w.heap.size w w' := by
 have hu42 := Try.underlying42; have hu55 := Try.underlying55; have HO0_2 := mk0 (show Kd.V (Kd.int .i64) 2 w w.heap.size (fun k_ => (P0_2_ k_ ∨ w.heap.size ≤ k_)) (.slice A0_2 l0_2.length c0_2) l0_2 from Kd.V_mono hs0_2 (fun k_ hk => .inl hk)); have HB := mk0 (Below.refl w.heap.size w); have H : (some (a0_0, a0_1, l0_2, a0_3)) = some (r1, r2, r3, r4) := h; clear h
 simp only [Option.some.injEq, Prod.mk.injEq] at H
 obtain ⟨rfl, rfl, rfl, rfl⟩ := H
 go_enter Try.func14, Try.ntmps14
 go_wp2_with (first | ((with_reducible refine gate_dst (N := 1) rfl ?_); refine boxE (N := 1) (cs := #[.string a0_0, .int .i64 a0_1, .slice A0_2 l0_2.length c0_2, .string a0_3]) (t := 42) ?_; intro gb101 hg w2 hbox hb; replace HO0_2 := mk0 (Kd.V_below (Kd.V_elderB (by (with_reducible repeat (first | apply Kd.V_alloc | apply Kd.V_drewN | apply Kd.V_drew)); exact HO0_2.out) gb101 (Nat.le_of_eq hg.symm)) hb); have BK101 := mk0 hbox; have GW101 := gwS HB hg; have GE101 := gwS HB hg; replace HB := hbS HB hb; clear hb hbox hg) | ((with_reducible refine gate_dst (N := 2) rfl ?_); refine boxE (N := 2) (cs := #[.string (⟨#[]⟩ : ByteArray), .int .i64 0, .slice none 0 0, .string (⟨#[]⟩ : ByteArray)]) (t := 55) ?_; intro gb102 hg w3 hbox hb; replace HO0_2 := mk0 (Kd.V_below (Kd.V_elderB (by (with_reducible repeat (first | apply Kd.V_alloc | apply Kd.V_drewN | apply Kd.V_drew)); exact HO0_2.out) gb102 (Nat.le_of_eq hg.symm)) hb); have BK102 := mk0 hbox; have GW102 := gwS HB hg; have GE102 := gwS HB hg; replace HB := hbS HB hb; have NB101_102 := neS BK101 hg; have NB102_101 := neT BK101 hg; replace BK101 := bkS BK101 hb; clear hb hbox hg; have hnb4 := NB101_102.out; have hnc4 := NB102_101.out; obtain ⟨hcz5_0, hcz5_1, hcz5_2, hcz5_3⟩ := cz4 BK101; have hfz5_0 := fz BK101 0; have hfz5_1 := fz BK101 1; have hfz5_2 := fz BK101 2; have hfz5_3 := fz BK101 3; obtain ⟨hcz6_0, hcz6_1, hcz6_2, hcz6_3⟩ := cz4 BK102; have hfz6_0 := fz BK102 0; have hfz6_1 := fz BK102 1; have hfz6_2 := fz BK102 2; have hfz6_3 := blk_frozen BK102.out 3))
 refine bodyPost_ret (results_cell_row rfl _ _ gb102 55 #[.string a0_0, .int .i64 a0_1, .slice A0_2 l0_2.length c0_2, .string a0_3] (0, 0) _ rfl (bkW BK102) Try.underlying55 rfl (by kernel_rfl)) rfl ?_
 exact ⟨_, cl3, by (with_reducible repeat (first | apply Kd.V_alloc | apply Kd.V_drewN | apply Kd.V_drew)); exact Kd.V_mono (Kd.V_far (p := ⟨gb102, 3, none⟩) (Kd.V_far (p := ⟨gb102, 2, none⟩) (Kd.V_far (p := ⟨gb102, 1, none⟩) (Kd.V_far (p := ⟨gb102, 0, none⟩) (Kd.V_mono HO0_2.out (fun k_ hk => (⟨hk, hk.2⟩ : _ ∧ k_ ≠ gb102))) (fun _ hk => hk.2) (.string a0_0)) (fun _ hk => hk.2) (.int .i64 a0_1)) (fun _ hk => hk.2) (.slice A0_2 l0_2.length c0_2)) (fun _ hk => hk.2) (.string a0_3)) (fun _ hk => hk.1.1.1), hbA HB⟩
def agatelaw10_Infos.l0 : Nat → List (S89) → List (S40) → Int → Int → Option ((List (S89)))
 | 0, _, _, _, _ => none
 | k + 1, x3, x6, x7, x8 => if x8 < x7 then (if 0 ≤ x8 then (if x8 < (x6.length : Int) then (if x3.length < 2932031007402 then (agatelaw10_Infos.l0 k (x3 ++ [(⟨(rd_T40 x6 x8).f0, (rd_T40 x6 x8).f1, (rd_T40 x6 x8).f2⟩ : S89)]) x6 x7 (wrap64 (x8 + 1))) else (none)) else (none)) else (none)) else (some x3)
def agatelaw10_Infos.f (k : Nat) (l0 : List (S40)) : Option ((List (S89))) := agatelaw10_Infos.l0 k ([] : List (S89)) l0 (l0.length : Int) 0
set_option maxHeartbeats 8000000 in
set_option maxRecDepth 100000 in
theorem agatelaw10_Infos.calls (k : Nat) (P0_ : Nat → Prop) (A0 : Option Addr) (c0 : Nat) (l0 : List (S40)) (r : List (S89)) (w : World) (hs0 : Kd.V k40 40 w w.heap.size (fun k_ => P0_ k_) (.slice A0 l0.length c0) l0) (h : agatelaw10_Infos.f k l0 = some r) :
  Calls Try.prog 13 #[.slice A0 l0.length c0] w fun e w' => ∃ v0_ : Value, e = .returned (v0_) ∧ Kd.N k89 89 w' w.heap.size (fun k_ => (P0_ k_ ∨ w.heap.size ≤ k_)) v0_ r ∧ Below w.heap.size w w' := by
 have hu40 := Try.underlying40; have hu89 := Try.underlying89; have HO0 := mk0 (show Kd.V k40 40 w w.heap.size (fun k_ => (P0_ k_ ∨ w.heap.size ≤ k_)) (.slice A0 l0.length c0) l0 from Kd.V_mono hs0 (fun k_ hk => .inl hk)); have HB := mk0 (Below.refl w.heap.size w); have H : (agatelaw10_Infos.l0 k ([] : List (S89)) l0 (l0.length : Int) 0) = some r := h; clear h; have H' := mk0 H; clear H
 go_enter Try.func13, Try.ntmps13
 go_wp2
 go_loopg [3, 8] k (fun kq v3 v8 w' => ∃ (x3_1 : List (S89)) (x8_1 : Int), v8 = .int .i64 x8_1 ∧ Aside0 (agatelaw10_Infos.l0 kq x3_1 l0 (l0.length : Int) x8_1 = some r) ∧ Aside0 (kq ≤ k) ∧ Aside0 (Kd.N k89 89 w' w.heap.size (fun k_ => (P0_ k_ ∨ w.heap.size ≤ k_)) v3 x3_1) ∧ Aside0 (Kd.V k40 40 w' w.heap.size (fun k_ => (P0_ k_ ∨ w.heap.size ≤ k_) ∧ some k_ ≠ (v3 : Value).ownBlock) (.slice A0 l0.length c0) l0) ∧ Aside0 (Below w.heap.size w w'))
 case atStart => exact ⟨(([] : List (S89))), (0), cl0, H', ⟨Nat.le_refl _⟩, ⟨by first | exact Kd.S_nil _ _ _ _ _ | exact Kd.N_nil _ _ _ _ _ | exact Kd.V_nil _ _ _ _ _ | exact Kd.Q_nil _ _ _ _ _ | exact Kd.R_nil _ _ _ _ _⟩, ⟨by (with_reducible repeat (first | apply Kd.V_alloc | apply Kd.V_drewN | apply Kd.V_drew)); exact Kd.V_mono HO0.out (fun _ hk => ⟨hk, (by simp [Value.ownBlock])⟩)⟩, ⟨hbA HB⟩⟩
 case round =>
  clear H'; obtain ⟨x3_1, x8_1, rfl, HA, HK1, HO_3, HO_6, HB⟩ := hrel
  cases gk with
  | zero => exact absurd HA.out (by simp [agatelaw10_Infos.l0])
  | succ k1 =>
   have H := HA.out; clear HA
   simp only [agatelaw10_Infos.l0] at H
   by_cases c2 : x8_1 < (l0.length : Int)
   ·
    rw [if_pos c2] at H; have c2b0 := decide_eq_true c2; clear c2; replace H := ifS H; obtain ⟨c3, H⟩ := H; have c3b0 := decide_eq_true c3; clear c3
    by_cases c4 : x8_1 < (l0.length : Int)
    ·
     rw [if_pos c4] at H; have c4b0 := decide_eq_true c4; clear c4; replace H := ifS H; obtain ⟨c5, H⟩ := H; have LMc5 := mk0 c5; clear c5; obtain ⟨y103, hy103⟩ : ∃ y_ : List (S89), y_ = (x3_1 ++ [(⟨(rd_T40 l0 x8_1).f0, (rd_T40 l0 x8_1).f1, (rd_T40 l0 x8_1).f2⟩ : S89)]) := ⟨_, rfl⟩; replace H : (agatelaw10_Infos.l0 k1 y103 l0 (l0.length : Int) (wrap64 (x8_1 + 1))) = some r := by first | (rw [hy103]; with_reducible exact H) | (have H2_ := (Option.bind_some _ _).symm.trans H; rw [hy103]; with_reducible exact H2_) | (have H2_ := (Option.bind_some _ _).symm.trans H; with_reducible exact H2_) | with_reducible exact H | (rw [hy103]; exact H) | exact H
     have Ny103 := mk0 hy103; clear hy103; have H' := mk0 H; clear H; have p101 : 0 ≤ (x8_1 : Int) := ofd; have q101 : x8_1 < (l0.length : Int) := ofd; obtain ⟨ad101, A101_2, c101_2, e101, hx101_0, hx101_1, hx101_2, hl101_2, hi101_2⟩ := at_T40 (Kd.V_reads' HO_6.out).2.2 x8_1 p101 q101; cases e101; obtain ⟨ce101, hce101, hMe101, hcc101⟩ := Kd.V_get HO_6.out z40 x8_1 p101 (by first | exact q101 | exact ofd | (have e_ := (Kd.V_reads' HO_6.out).1; omega))
     obtain ⟨ua101_2, uc101_2, rfl, ul101_2, ge101_2⟩ := k40_openF hMe101; have hv101_2 := hcc101 2 _ rfl
     rw [add_field _ _ 2 (by omega)] at hv101_2
     replace hv101_2 := Option.some.inj (hv101_2.symm.trans hx101_2); injection hv101_2 with hva_ hvn_ hvc_
     rw [hva_] at ge101_2
     rw [hvc_] at ul101_2
     have HL101_2 := mk0 (show Kd.V (Kd.int .i64) 2 _ w.heap.size _ _ ((rd_T40 l0 x8_1).f2) from Kd.V_mk ul101_2 ge101_2); clear hva_ hvn_ hvc_ ge101_2 ul101_2; clear hcc101 hce101; have HR101_2 := mk0 hi101_2; have HC101_2 := mk0 hl101_2; clear hi101_2 hl101_2; replace p101 := eq_true p101; replace q101 := eq_true q101
     go_wp2_with (first | ((with_reducible refine gate_dst (N := 5) rfl ?_); refine boxE (N := 5) (cs := #[.string (⟨#[]⟩ : ByteArray), .int .i64 0, .slice none 0 0]) (t := 40) ?_; intro gb102 hg w6 hbox hb; replace HO_3 := mk0 (Kd.N_below (Kd.N_elderB (by (with_reducible repeat (first | apply Kd.N_alloc | apply Kd.N_drewN | apply Kd.N_drew)); exact HO_3.out) gb102 (Nat.le_of_eq hg.symm)) hb); replace HO_6 := mk0 (Kd.V_below (Kd.V_elderB (by (with_reducible repeat (first | apply Kd.V_alloc | apply Kd.V_drewN | apply Kd.V_drew)); exact HO_6.out) gb102 (Nat.le_of_eq hg.symm)) hb); replace HL101_2 := mk0 (Kd.V_below (Kd.V_elderB (by (with_reducible repeat (first | apply Kd.V_alloc | apply Kd.V_drewN | apply Kd.V_drew)); exact HL101_2.out) gb102 (Nat.le_of_eq hg.symm)) hb); replace HR101_2 := mk0 (Kd.C_below (by repeat (first | (with_reducible exact HR101_2.out) | (with_reducible refine Kd.C_alloc ?_ _) | (with_reducible refine Kd.C_drewN ?_ _) | (with_reducible refine Kd.C_drew ?_) | exact HR101_2.out)) hb); have BK102 := mk0 hbox; have GW102 := gwS HB hg; have GE102 := gwS HB hg; replace HB := hbS HB hb; clear hb hbox hg; obtain ⟨hcz7_0, hcz7_1, hcz7_2⟩ := cz3 BK102; have hfz7_0 := fz BK102 0; have hfz7_1 := fz BK102 1; have hfz7_2 := fz BK102 2) | ((with_reducible refine gate_store (t := 40) (p := 5) rfl ?_); refine store_event (t := 40) (p := 5) (v := ?vo_w8) (w1 := (((w6.setCell ⟨gb102, 0, none⟩ (.string ((rd_T40 l0 x8_1).f0))).setCell ⟨gb102, 1, none⟩ (.int .i64 ((rd_T40 l0 x8_1).f1))).setCell ⟨gb102, 2, none⟩ (.slice A101_2 ((rd_T40 l0 x8_1).f2).length c101_2))) ?hg ?ho ?hn ?hr ?_; (case ho => rfl); (case hg => rfl); (case hn => rfl); (case hr => first | (go_simp; done) | (go_simp; rfl)); intro w8 hw; have n0_ : Aside0 (Kd.N k89 89 w8 w.heap.size (fun k_ => (P0_ k_ ∨ w.heap.size ≤ k_) ∧ k_ ≠ gb102) u3 x3_1) := ⟨(by rw [hw]; exact (by (with_reducible repeat (first | apply Kd.N_alloc | apply Kd.N_drewN | apply Kd.N_drew)); exact Kd.N_mono (Kd.N_far (p := ⟨gb102, 2, none⟩) (Kd.N_far (p := ⟨gb102, 1, none⟩) (Kd.N_far (p := ⟨gb102, 0, none⟩) (Kd.N_mono HO_3.out (fun k_ hk => (⟨hk, hk.2⟩ : _ ∧ k_ ≠ gb102))) (fun _ hk => hk.2) (.string ((rd_T40 l0 x8_1).f0))) (fun _ hk => hk.2) (.int .i64 ((rd_T40 l0 x8_1).f1))) (fun _ hk => hk.2) (.slice A101_2 ((rd_T40 l0 x8_1).f2).length c101_2)) (fun _ hk => ⟨hk.1.1, hk.1.2⟩)))⟩; have n1_ : Aside0 (Kd.V k40 40 w8 w.heap.size (fun k_ => (P0_ k_ ∨ w.heap.size ≤ k_) ∧ some k_ ≠ (u3 : Value).ownBlock ∧ k_ ≠ gb102) (.slice (some ad101) l0.length c0) l0) := ⟨(by rw [hw]; exact (by (with_reducible repeat (first | apply Kd.V_alloc | apply Kd.V_drewN | apply Kd.V_drew)); exact Kd.V_mono (Kd.V_far (p := ⟨gb102, 2, none⟩) (Kd.V_far (p := ⟨gb102, 1, none⟩) (Kd.V_far (p := ⟨gb102, 0, none⟩) (Kd.V_mono HO_6.out (fun k_ hk => (⟨hk, hk.2⟩ : _ ∧ k_ ≠ gb102))) (fun _ hk => hk.2) (.string ((rd_T40 l0 x8_1).f0))) (fun _ hk => hk.2) (.int .i64 ((rd_T40 l0 x8_1).f1))) (fun _ hk => hk.2) (.slice A101_2 ((rd_T40 l0 x8_1).f2).length c101_2)) (fun _ hk => ⟨hk.1.1.1, ⟨hk.1.1.2, hk.1.2⟩⟩)))⟩; have n2_ : Aside0 (Kd.V (Kd.int .i64) 2 w8 w.heap.size (fun k_ => (P0_ k_ ∨ w.heap.size ≤ k_) ∧ some k_ ≠ (u3 : Value).ownBlock ∧ k_ ≠ gb102) (.slice A101_2 ((rd_T40 l0 x8_1).f2).length c101_2) ((rd_T40 l0 x8_1).f2)) := ⟨(by rw [hw]; exact (by (with_reducible repeat (first | apply Kd.V_alloc | apply Kd.V_drewN | apply Kd.V_drew)); exact Kd.V_mono (Kd.V_far (p := ⟨gb102, 2, none⟩) (Kd.V_far (p := ⟨gb102, 1, none⟩) (Kd.V_far (p := ⟨gb102, 0, none⟩) (Kd.V_mono HL101_2.out (fun k_ hk => (⟨hk, hk.2⟩ : _ ∧ k_ ≠ gb102))) (fun _ hk => hk.2) (.string ((rd_T40 l0 x8_1).f0))) (fun _ hk => hk.2) (.int .i64 ((rd_T40 l0 x8_1).f1))) (fun _ hk => hk.2) (.slice A101_2 ((rd_T40 l0 x8_1).f2).length c101_2)) (fun _ hk => ⟨hk.1.1.1, ⟨hk.1.1.2, hk.1.2⟩⟩)))⟩; have n3_ : Aside0 (w8.heap[gb102]? = some (.cells #[.string ((rd_T40 l0 x8_1).f0), .int .i64 ((rd_T40 l0 x8_1).f1), .slice A101_2 ((rd_T40 l0 x8_1).f2).length c101_2] 40 (0, 0))) := ⟨(by rw [hw]; exact (bkW BK102))⟩; have n4_ : Aside0 (Below w.heap.size w w8) := ⟨(by rw [hw]; exact (hbA HB))⟩; clear hw; clear HO_3; clear HO_6; clear HL101_2; clear BK102; clear HB; have HO_3 := n0_; have HO_6 := n1_; have HL101_2 := n2_; have BK102 := n3_; have HB := n4_; clear n0_ n1_ n2_ n3_ n4_; obtain ⟨hcz9_0, hcz9_1, hcz9_2⟩ := cz3 BK102; have hfz9_0 := fz BK102 0; have hfz9_1 := fz BK102 1; have hfz9_2 := fz BK102 2) | ((with_reducible refine gate_builtin (b := .append) (xs := #[.tmp 12, .tmp 20]) rfl ?_); at_builtin; refine Kd.N_append k89 (w0 := w) w.heap.size rfl (.tmp 12) (.tmp 20) 29 89 (.agg #[(.string ⟨#[]⟩), (.int .i64 0), (.slice none 0 0)]) 48 rfl Try.underlying29 info89 rfl (by decide) (by omega) u3 x3_1 (⟨(rd_T40 l0 x8_1).f0, (rd_T40 l0 x8_1).f1, (rd_T40 l0 x8_1).f2⟩ : S89) [.string ((rd_T40 l0 x8_1).f0), .int .i64 ((rd_T40 l0 x8_1).f1), .slice A101_2 ((rd_T40 l0 x8_1).f2).length c101_2] (fun k_ => (P0_ k_ ∨ w.heap.size ≤ k_) ∧ k_ ≠ gb102) (fun k_ => ((fun k_ => (P0_ k_ ∨ w.heap.size ≤ k_) ∧ k_ ≠ gb102)) k_ ∧ some k_ ≠ (u3 : Value).ownBlock) rfl rfl ?aP (fun _ hk => hk) ?aF ?aO ?aB ?aS ?aL ?_; (case aP => exact (k89_mkF _ _ (⟨(rd_T40 l0 x8_1).f0, (rd_T40 l0 x8_1).f1, (rd_T40 l0 x8_1).f2⟩ : S89) (Kd.V_reads' (Kd.V_mono (ok' := (fun k_ => ((fun k_ => (P0_ k_ ∨ w.heap.size ≤ k_) ∧ k_ ≠ gb102)) k_ ∧ some k_ ≠ (u3 : Value).ownBlock)) (HL101_2.out) (fun k_ hk => ⟨⟨hk.1, hk.2.2⟩, hk.2.1⟩))).2.1 (Kd.V_F (Kd.V_mono (ok' := (fun k_ => ((fun k_ => (P0_ k_ ∨ w.heap.size ≤ k_) ∧ k_ ≠ gb102)) k_ ∧ some k_ ≠ (u3 : Value).ownBlock)) (HL101_2.out) (fun k_ hk => ⟨⟨hk.1, hk.2.2⟩, hk.2.1⟩))))); (case aB => exact (hbA HB)); (case aF => exact (fun k_ hk => ⟨(.inr (Nat.le_trans (below_size (hbA HB)) hk)), Kd.freshB (g := gb102) (bkA BK102) k_ hk⟩)); (case aO => exact (by (with_reducible repeat (first | apply Kd.N_alloc | apply Kd.N_drewN | apply Kd.N_drew)); exact HO_3.out)); (case aS => exact (below_size (hbA HB))); (case aL => have := LMc5.out; omega); intro v104 w10 ho hb hg hat; rw [← Ny103.out] at ho; replace HO_6 := mk0 (Kd.V_afterv (ok := (fun k_ => (P0_ k_ ∨ w.heap.size ≤ k_) ∧ k_ ≠ gb102)) (by (with_reducible repeat (first | apply Kd.V_alloc | apply Kd.V_drewN | apply Kd.V_drew)); exact Kd.V_mono HO_6.out (fun _ hk => ⟨⟨hk.1, hk.2.2⟩, hk.2.1⟩)) hg hat); replace HL101_2 := mk0 (Kd.V_afterv (ok := (fun k_ => (P0_ k_ ∨ w.heap.size ≤ k_) ∧ k_ ≠ gb102)) (by (with_reducible repeat (first | apply Kd.V_alloc | apply Kd.V_drewN | apply Kd.V_drew)); exact Kd.V_mono HL101_2.out (fun _ hk => ⟨⟨hk.1, hk.2.2⟩, hk.2.1⟩)) hg hat); replace BK102 := mk0 (blk_grown (g := gb102) (bkA BK102) hg (Kd.N_ne HO_3.out BK102.out (by decide))); replace HB := mk0 hb; have HO105 := mk0 ho; clear HO_3; clear ho hb hg hat))
     go_roundg k1
     case measure => have := HK1.out; omega
     case rel => exact ⟨(y103), (wrap64 (x8_1 + 1)), cl0, H', cl2 HK1, ⟨by (with_reducible repeat (first | apply Kd.N_alloc | apply Kd.N_drewN | apply Kd.N_drew)); exact Kd.N_mono HO105.out (fun _ hk => hk.1)⟩, ⟨by (with_reducible repeat (first | apply Kd.V_alloc | apply Kd.V_drewN | apply Kd.V_drew)); exact Kd.V_mono HO_6.out (fun _ hk => ⟨hk.1.1, hk.2⟩)⟩, ⟨hbA HB⟩⟩
    ·
     exact absurd (of_decide_eq_true c2b0) c4
   ·
    rw [if_neg c2] at H; have c2b0 := decide_eq_false c2; clear c2; obtain rfl := Option.some.inj H
    go_wp2
    go_ret
    exact ⟨_, cl3, by (with_reducible repeat (first | apply Kd.N_alloc | apply Kd.N_drewN | apply Kd.N_drew)); exact HO_3.out, hbA HB⟩
end Go.Proofs.Ytfejdnkmmjffcaa.X
