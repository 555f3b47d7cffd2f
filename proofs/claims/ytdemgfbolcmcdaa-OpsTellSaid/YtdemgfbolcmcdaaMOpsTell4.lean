import Derived.Test.YtdemgfbolcmcdaaMOpsTell2
import Derived.Test.YtdemgfbolcmcdaaMOpsTell3
import Derived.WalkLawsBesides
import Derived.Shelf.Strings.Builder1
import Derived.Deep.RegionHeld3
import Derived.Laws.BitsAllLaws
namespace Go.Proofs.Ytdemgfbolcmcdaa.X
open Go.RowKit Go.Proofs.YtdemgfbolcmcdaaW.PrintWords Go.Proofs.YtdemgfbolcmcdaaW.PrintLast Go.Proofs.YtdemgfbolcmcdaaW.PrintMore
attribute [local go_sem] max2_int min2_int max_two min_two max_three min_three max_four min_four
set_option linter.unusedVariables false
set_option linter.unusedSimpArgs false
def slices_Clone_int64.f (l0 : List Int) : Option (List Int) := if l0.length < 17592186044416 then some l0 else none
set_option maxHeartbeats 8000000 in
set_option maxRecDepth 100000 in
theorem slices_Clone_int64.calls (A0 : Option Addr) (c0 : Nat) (l0 : List Int) (r : List Int) (w : World) (hr0 : Kd.C (Kd.int .i64) w A0 l0.length l0) (hc0 : l0.length ≤ c0) (h : slices_Clone_int64.f l0 = some r) :
    Calls Try.prog 38 #[.slice A0 l0.length c0] w fun e w' => ∃ v0_ : Value, e = .returned (v0_) ∧ Kd.R (Kd.int .i64) 2 w' w.heap.size (fun k_ => w.heap.size ≤ k_) v0_ r ∧ Below w.heap.size w w' := by
  unfold slices_Clone_int64.f at h
  by_cases hl : l0.length < 17592186044416
  · rw [if_pos hl] at h
    obtain rfl := Option.some.inj h
    have LM := Aside0.mk hl
    have HR0 := Aside0.mk hr0
    have HB := Aside0.mk (Below.refl w.heap.size w)
    have q0 : ∀ w, (binOp .eql 27 (.slice A0 l0.length c0) (.slice none 0 0)).run Try.prog w = .ok (.bool A0.isNone) w := fun w => Lib.run_eql_slice_nil w 27 2 A0 l0.length c0 0 0 Try.underlying27
    clear h hl hr0
    cases A0 with
    | none =>
      have hn : l0 = [] := by
        rcases Nat.eq_zero_or_pos l0.length with h0 | h0
        · exact List.eq_nil_of_length_eq_zero h0
        · exfalso
          obtain ⟨ad, h1, _⟩ := (Kd.reads_of_C (enc := Value.int .i64) (d := (0 : Int)) (h1 := fun _ => rfl) HR0.out).2.2 h0
          cases h1
      have Hn := Aside0.mk hn
      clear hn
      have q1 : ∀ w, (binOp .eql 27 (.slice none l0.length c0) (.slice none 0 0)).run Try.prog w = .ok (.bool true) w := fun w => q0 w
      clear q0
      go_enter Try.func38, Try.ntmps38
      go_wp2
      go_ret
      exact ⟨_, rfl, by rw [Hn.out]; exact Kd.R_nil _ _ _ _ _, Below.refl _ _⟩
    | some ad =>
      have q1 : ∀ w, (binOp .eql 27 (.slice (some ad) l0.length c0) (.slice none 0 0)).run Try.prog w = .ok (.bool false) w := fun w => q0 w
      clear q0
      go_enter Try.func38, Try.ntmps38
      go_wp2_with (first | ((with_reducible refine gate_dst (N := 5) rfl ?_); refine Kd.R_lit (Kd.int .i64) _ 2 ?hg (N := 5) ?hd (xs := ([] : List Int)) (inner := []) (ok := fun k_ => w.heap.size ≤ k_) (okp := fun k_ => w.heap.size ≤ k_) ?hr ?hp (fun _ hk => hk) (Nat.le_refl _) (Below.refl _ _) (Nat.le_refl _) (by simp) ?_; (case hd => rfl); (case hg => rfl); (case hr => first | (go_simp; done) | (go_simp; rfl)); (case hp => exact (Reps.none _ _)); intro v102 w7 ho8 hb hg_ hnew_; clear hg_ hnew_; have n0_ := Aside0.mk (Kd.R_lower ho8 (below_size HB.out)); have n1_ := Aside0.mk (below_step HB.out hb); clear HB; have HO103 := n0_; have HB := n1_; clear n0_ n1_; clear hb ho8) | ((with_reducible refine gate_builtin (b := .append) (xs := #[.tmp 5, .tmp 6]) rfl ?_); at_builtin; refine Kd.R_append_rows (Kd.int .i64) (w0 := w) w.heap.size rfl (.tmp 5) (.tmp 6) 27 2 (.int .i64 0) 8 rfl Try.underlying27 info2 rfl (by decide) (by omega) v102 [] l0 _ _ _ (fun k_ => w.heap.size ≤ k_) (fun _ => False) rfl rfl ?aO ?aR (fun _ _ h => h) (fun _ h => h.elim) ?aF ?aB ?aS ?aL ?_; (case aR => exact (Kd.C_below HR0.out HB.out)); (case aB => exact HB.out); (case aF => exact (fun _ h => Nat.le_trans (below_size HB.out) h)); (case aO => exact HO103.out); (case aS => exact (below_size HB.out)); (case aL => have := LM.out; simp; omega); intro v106 w10 ho hb hg hat; have n0_ := Aside0.mk (hb); have n1_ := Aside0.mk (ho); clear HB; clear HO103; have HB := n0_; have HO107 := n1_; clear n0_ n1_; clear ho hb hg hat))
      go_ret
      exact ⟨_, rfl, HO107.out, HB.out⟩
  · rw [if_neg hl] at h; cases h
end Go.Proofs.Ytdemgfbolcmcdaa.X
namespace Go.Proofs.Ytdemgfbolcmcdaa.X
open Go.RowKit Go.Proofs.YtdemgfbolcmcdaaW.PrintWords Go.Proofs.YtdemgfbolcmcdaaW.PrintLast Go.Proofs.YtdemgfbolcmcdaaW.PrintMore
attribute [local go_sem] max2_int min2_int max_two min_two max_three min_three max_four min_four
set_option linter.unusedVariables false
set_option linter.unusedSimpArgs false
def Sh.lays166_ren : Go.Shelf.Ren := ⟨fun | 166 => 85 | 240 => 91 | 276 => 96 | n => n, fun | 0 => 0 | 3 => 3 | 4 => 4 | 5 => 5 | 9 => 9 | 20 => 20 | 37 => 149 | 70 => 148 | 72 => 151 | 75 => 153 | 80 => 137 | 164 => 176 | n => n, fun | n => n⟩
theorem Sh.lays166 : Go.Proofs.Lays.n166 Try.prog Sh.lays166_ren := {
  mixed := by kernel_rfl
  f166 := Try.func85.trans (congrArg some (by kernel_rfl))
  f240 := Try.func91.trans (congrArg some (by kernel_rfl))
  f276 := Try.func96.trans (congrArg some (by kernel_rfl))
  t0 := Try.underlying0
  a0 := Try.isAgg0
  z0 := Try.sizeOf0
  v0 := Try.zeroValue0
  t3 := Try.underlying3
  a3 := Try.isAgg3
  z3 := Try.sizeOf3
  v3 := Try.zeroValue3
  t4 := Try.underlying4
  a4 := Try.isAgg4
  z4 := Try.sizeOf4
  v4 := Try.zeroValue4
  t9 := Try.underlying9
  a9 := Try.isAgg9
  z9 := Try.sizeOf9
  v9 := Try.zeroValue9
  t20 := Try.underlying20
  a20 := Try.isAgg20
  z20 := Try.sizeOf20
  v20 := Try.zeroValue20
  t37 := Try.underlying149
  a37 := Try.isAgg149
  z37 := Try.sizeOf149
  v37 := Try.zeroValue149
  t70 := Try.underlying148
  a70 := Try.isAgg148
  z70 := Try.sizeOf148
  v70 := Try.zeroValue148
  t72 := Try.underlying151
  a72 := Try.isAgg151
  z72 := Try.sizeOf151
  v72 := Try.zeroValue151
  t75 := Try.underlying153
  a75 := Try.isAgg153
  z75 := Try.sizeOf153
  v75 := Try.zeroValue153
  t164 := Try.underlying176
  a164 := Try.isAgg176
  z164 := Try.sizeOf176
  v164 := Try.zeroValue176 }
theorem Sh.Builder_Extra_166 : Go.Proofs.Builder.Extra Try.prog Sh.lays166_ren := {
  sizeBuilder := by kernel_rfl
  liesBuilder := by kernel_rfl
  t5 := Try.underlying5
  a5 := Try.isAgg5
  z5 := Try.sizeOf5
  v5 := Try.zeroValue5
  infoByte := by kernel_rfl
  cellsByte := by kernel_rfl
  sizeByte := by kernel_rfl
  neB5 := by decide }
theorem Sh.WriteString (B b : Nat) (bs : List Value) (s : ByteArray) (w : World) (h : Lib.IsBuilder 151 5 B b bs w) (hlen : bs.length + s.size ≤ 140737488355328) (hBw : B ≤ w.heap.size) :
    Calls Try.prog 85 #[.pointer (some ⟨b, 0, none⟩), .string s] w fun e w' => e = .returned (.tuple #[.int .i64 s.size, .nilIface]) ∧ (Lib.BuilderAt 151 5 B b (.pointer (some ⟨b, 0, none⟩)) (bs ++ Lib.strCells s) w' ∧ Below B w w') :=
  Go.Proofs.Any.Builder_WriteString Sh.lays166 Sh.Builder_Extra_166 B b bs s w h hlen hBw
theorem builderAt_below {T e : TypeId} {B b : Nat} {p : Value} {bs : List Value} {w w1 : World} (h : Lib.BuilderAt T e B b p bs w) (hb : Below w.heap.size w w1) : Lib.BuilderAt T e B b p bs w1 := by
  have hlt := h.lt
  obtain ⟨hB, v, hbk, hown, hne⟩ := h
  exact ⟨hB, v, (hb.block b hlt).trans hbk, own_move hown (fun k hk => hb.block k (own_lt hown k hk)), hne⟩
theorem isBuilder_below {T e : TypeId} {B b : Nat} {bs : List Value} {w w1 : World} (h : Lib.IsBuilder T e B b bs w) (hb : Below w.heap.size w w1) : Lib.IsBuilder T e B b bs w1 := by
  rcases h with h | h
  · exact .inl (builderAt_below h hb)
  · exact .inr (builderAt_below h hb)
theorem byteCells_append (a b : ByteArray) : Lib.byteCells a.data.toList ++ Lib.strCells b = Lib.byteCells (a ++ b).data.toList := by
  simp [Lib.byteCells, Lib.strCells, ByteArray.data_append]
end Go.Proofs.Ytdemgfbolcmcdaa.X
namespace Go.Proofs.Ytdemgfbolcmcdaa.X
open Go.RowKit Go.Proofs.YtdemgfbolcmcdaaW.PrintWords Go.Proofs.YtdemgfbolcmcdaaW.PrintLast Go.Proofs.YtdemgfbolcmcdaaW.PrintMore
attribute [local go_sem] max2_int min2_int max_two min_two max_three min_three max_four min_four
set_option linter.unusedVariables false
set_option linter.unusedSimpArgs false
theorem builder_lies {B b : Nat} {l : List UInt8} {w : World} (h : Lib.IsBuilder 151 5 B b (Lib.byteCells l) w) (h0 : l ≠ []) :
    ∃ p g cap cur, B ≤ g ∧ g < w.heap.size ∧ b < w.heap.size ∧ w.heap[b]? = some (.cells #[p, .slice (some ⟨g, 0, none⟩) l.length cap] 151 (0, 0)) ∧ w.heap[g]? = some (.cells cur 5 (0, 0)) ∧ l.length ≤ cap ∧ cap ≤ maxLen ∧ cur.size = cap ∧ cur.toList.take l.length = Lib.byteCells l := by
  obtain ⟨p, hB, v, hbk, hown, hne⟩ : ∃ p, Lib.BuilderAt 151 5 B b p (Lib.byteCells l) w := by
    rcases h with h | h
    · exact ⟨_, h⟩
    · exact ⟨_, h⟩
  have hl0 : l.length ≠ 0 := by simpa using h0
  rw [Lib.byteCells_length] at hown
  rcases hown.2 with ⟨_, hz⟩ | ⟨g, cap, cur, rfl, hbg, hg, hnc, hcm, hcs, ht⟩
  · exact absurd hz hl0
  · rw [Nat.mul_one] at hcs ht
    exact ⟨p, g, cap, cur, hbg, blk_lt hg, blk_lt hbk, hbk, hg, hnc, hcm, hcs, ht⟩
theorem byte_cell {l : List UInt8} {cur : Array Value} {w : World} {g : Nat} (hg : w.heap[g]? = some (.cells cur 5 (0, 0))) (ht : cur.toList.take l.length = Lib.byteCells l) : ∀ j x, l[j]? = some x → w.cell? ((⟨g, 0, none⟩ : Addr).add j) = some (.int .u8 x.toNat) := by
  intro j x hx
  have hj : j < l.length := (List.getElem?_eq_some_iff.1 hx).1
  have h1 : (Lib.byteCells l)[j]? = some (.int .u8 x.toNat) := by simp [Lib.byteCells, hx]
  rw [← ht, List.getElem?_take] at h1
  rw [if_pos hj, Array.getElem?_toList] at h1
  have h2 : w.cell? ⟨g, j, none⟩ = cur[j]? := blk_cell hg j
  rw [← h1, ← h2]
  unfold Addr.add
  split
  · rename_i h0; subst h0; rfl
  · simp
theorem freeze_kept (w : World) (g n : Nat) : Kept w (w.drew.freeze ⟨g, 0, none⟩ n) (fun k => k = g) := by
  unfold World.freeze
  split
  · exact ⟨Nat.le_refl _, fun _ _ _ => rfl⟩
  · refine ⟨by show w.heap.size ≤ (w.heap.modify _ _).size; rw [Array.size_modify]; exact Nat.le_refl _, fun i hi hne => ?_⟩
    show (w.heap.modify g _)[i]? = _
    rw [Array.getElem?_modify]
    rw [if_neg (fun e => hne e.symm)]
set_option maxHeartbeats 4000000 in
set_option maxRecDepth 100000 in
theorem sh_String.calls (b g cap : Nat) (p : Value) (cur : Array Value) (l : List UInt8) (w : World) (h0 : l ≠ []) (hb : w.heap[b]? = some (.cells #[p, .slice (some ⟨g, 0, none⟩) l.length cap] 151 (0, 0))) (hg : w.heap[g]? = some (.cells cur 5 (0, 0))) (hnc : l.length ≤ cap) (hcm : cap ≤ maxLen) (hcs : cur.size = cap) (ht : cur.toList.take l.length = Lib.byteCells l) :
    Calls Try.prog 86 #[.pointer (some ⟨b, 0, none⟩)] w fun e w' => e = .returned (.string ⟨l.toArray⟩) ∧ w' = w.drew.freeze ⟨g, 0, none⟩ l.length := by
  have hl0 : l.length ≠ 0 := by simpa using h0
  have c1 : w.drew.cell? ⟨b, 1, none⟩ = some (.slice (some ⟨g, 0, none⟩) l.length cap) := (blk_cell (w := w.drew) hb 1).trans rfl
  have q1 : (Builtin.unsafeSliceData_ #[149] 167 #[.slice (some ⟨g, 0, none⟩) l.length cap]).run Try.prog w.drew = .ok (.pointer (some ⟨g, 0, none⟩)) w.drew :=
    Lib.run_unsafeSliceData_row _ _ _ _ _ _ (by omega)
  have q2 : (Builtin.unsafeString_ #[167, 3] 9 #[.pointer (some ⟨g, 0, none⟩), .int .i64 l.length]).run Try.prog w.drew = .ok (.string ⟨l.toArray⟩) (w.drew.freeze ⟨g, 0, none⟩ l.length) :=
    Lib.run_unsafeString_row w.drew 167 3 9 5 Try.underlying167 (by kernel_rfl) g cur.size (by have hg' : w.drew.heap[g]? = some (.cells cur 5 (0, 0)) := hg; simp [World.shape?, hg']) l h0 (by omega) (by unfold maxLen at hcm; omega) (byte_cell (w := w.drew) hg ht)
  have hne : b ≠ g := blk_ne hb hg (by decide)
  have q3 : (w.drew.freeze ⟨g, 0, none⟩ l.length).cell? ⟨b, 1, none⟩ = some (.slice (some ⟨g, 0, none⟩) l.length cap) := (blk_cell (((freeze_kept w g l.length).2 b (blk_lt hb) hne).trans hb) 1).trans rfl
  clear hb hg hcs ht hnc hcm hne
  go_enter Try.func86, Try.ntmps86
  go_wp2
  go_region_held3 (fun w' => w'.cell? ⟨b, 1, none⟩ = some (.slice (some ⟨g, 0, none⟩) l.length cap)) (go_keep) (first | (fail))
  all_goals (go_wp2; go_ret; exact ⟨rfl, rfl⟩)
end Go.Proofs.Ytdemgfbolcmcdaa.X
namespace Go.Proofs.Ytdemgfbolcmcdaa.X
open Go.RowKit Go.Proofs.YtdemgfbolcmcdaaW.PrintWords Go.Proofs.YtdemgfbolcmcdaaW.PrintLast Go.Proofs.YtdemgfbolcmcdaaW.PrintMore
attribute [local go_sem] max2_int min2_int max_two min_two max_three min_three max_four min_four
set_option linter.unusedVariables false
set_option linter.unusedSimpArgs false
def by8 (n : Int) (j : Nat) : Int := IntKind.u64.wrap n / 256 ^ j % 256
def laid8 (n : Int) : ByteArray := strOfNums [by8 n 0, by8 n 1, by8 n 2, by8 n 3, by8 n 4, by8 n 5, by8 n 6, by8 n 7]
def arr8 (n : Int) (i : Nat) : Array Value := #[.int .u8 (if 0 < i then by8 n 0 else 0), .int .u8 (if 1 < i then by8 n 1 else 0), .int .u8 (if 2 < i then by8 n 2 else 0), .int .u8 (if 3 < i then by8 n 3 else 0), .int .u8 (if 4 < i then by8 n 4 else 0), .int .u8 (if 5 < i then by8 n 5 else 0), .int .u8 (if 6 < i then by8 n 6 else 0), .int .u8 (if 7 < i then by8 n 7 else 0)]
theorem arr8_string (n : Int) {W : World} {g : Nat} (h : W.heap[g]? = some (.cells (arr8 n 8) 156 (0, 0))) : (convert 149 9 (.slice (some ⟨g, 0, none⟩) 8 8)).run Try.prog W = .ok (.string (laid8 n)) W := by
  refine string_of_reads Try.underlying149 Try.underlying5 Try.underlying9 ⟨rfl, by decide, fun _ => ⟨_, rfl, ?_⟩⟩
  intro j hj
  have hc : ∀ i, W.cell? ⟨g, i, none⟩ = (arr8 n 8)[i]? := fun i => blk_cell h i
  have : j = 0 ∨ j = 1 ∨ j = 2 ∨ j = 3 ∨ j = 4 ∨ j = 5 ∨ j = 6 ∨ j = 7 := by omega
  rcases this with rfl | rfl | rfl | rfl | rfl | rfl | rfl | rfl <;> simp [Addr.add, hc, arr8]
set_option maxHeartbeats 8000000 in
theorem tensor_laid.calls (n : Int) (w : World) :
    Calls Try.prog 75 #[.int .i64 n] w fun e w' => e = .returned (.string (laid8 n)) ∧ Below w.heap.size w w' := by
  go_enter Try.func75, Try.ntmps75
  go_wp2
  have HBk := Aside0.mk (show (w.alloc (Obj.cells #[.int .u8 0, .int .u8 0, .int .u8 0, .int .u8 0, .int .u8 0, .int .u8 0, .int .u8 0, .int .u8 0] 156)).heap[w.heap.size]? = some (.cells (arr8 n 0) 156 (0, 0)) from blk_new w _)
  have HB := Aside0.mk (below_alloc (Below.refl w.heap.size w) (Obj.cells #[.int .u8 0, .int .u8 0, .int .u8 0, .int .u8 0, .int .u8 0, .int .u8 0, .int .u8 0, .int .u8 0] 156))
  go_loopg [5] 8 (fun kq v5 w' => ∃ i : Nat, v5 = .int .i64 i ∧ Aside0 (i + kq = 8) ∧ i ≤ 8 ∧ Aside0 (w'.heap[w.heap.size]? = some (.cells (arr8 n i) 156 (0, 0))) ∧ Aside0 (Below w.heap.size w w'))
  case atStart => exact ⟨0, rfl, ⟨by omega⟩, Nat.zero_le _, HBk, HB⟩
  case round =>
    clear HBk HB
    obtain ⟨i, rfl, HK, hi, HBk, HB⟩ := hrel
    have h5 : i = 0 ∨ i = 1 ∨ i = 2 ∨ i = 3 ∨ i = 4 ∨ i = 5 ∨ i = 6 ∨ i = 7 ∨ i = 8 := by omega
    rcases h5 with rfl | rfl | rfl | rfl | rfl | rfl | rfl | rfl | rfl
    · obtain ⟨kk, rfl⟩ : ∃ m, gk = m + 1 := ⟨gk - 1, by have := HK.out; omega⟩
      have c0 : wr.cell? ⟨w.heap.size, 0, none⟩ = some (.int .u8 0) := (blk_cell HBk.out 0).trans rfl
      have f0 := blk_frozen HBk.out 0
      go_wp2_with (first | (fail))
      go_roundg kk
      case measure => have := HK.out; omega
      case rel => exact ⟨1, rfl, ⟨by have := HK.out; omega⟩, by omega, ⟨(blk_put HBk.out 0 _ rfl).trans (by simp [arr8, by8])⟩, ⟨below_set HB.out (Nat.le_refl _)⟩⟩
    · obtain ⟨kk, rfl⟩ : ∃ m, gk = m + 1 := ⟨gk - 1, by have := HK.out; omega⟩
      have c0 : wr.cell? ⟨w.heap.size, 1, none⟩ = some (.int .u8 0) := (blk_cell HBk.out 1).trans rfl
      have f0 := blk_frozen HBk.out 1
      go_wp2_with (first | (fail))
      go_roundg kk
      case measure => have := HK.out; omega
      case rel => exact ⟨2, rfl, ⟨by have := HK.out; omega⟩, by omega, ⟨(blk_put HBk.out 1 _ rfl).trans (by simp [arr8, by8])⟩, ⟨below_set HB.out (Nat.le_refl _)⟩⟩
    · obtain ⟨kk, rfl⟩ : ∃ m, gk = m + 1 := ⟨gk - 1, by have := HK.out; omega⟩
      have c0 : wr.cell? ⟨w.heap.size, 2, none⟩ = some (.int .u8 0) := (blk_cell HBk.out 2).trans rfl
      have f0 := blk_frozen HBk.out 2
      go_wp2_with (first | (fail))
      go_roundg kk
      case measure => have := HK.out; omega
      case rel => exact ⟨3, rfl, ⟨by have := HK.out; omega⟩, by omega, ⟨(blk_put HBk.out 2 _ rfl).trans (by simp [arr8, by8])⟩, ⟨below_set HB.out (Nat.le_refl _)⟩⟩
    · obtain ⟨kk, rfl⟩ : ∃ m, gk = m + 1 := ⟨gk - 1, by have := HK.out; omega⟩
      have c0 : wr.cell? ⟨w.heap.size, 3, none⟩ = some (.int .u8 0) := (blk_cell HBk.out 3).trans rfl
      have f0 := blk_frozen HBk.out 3
      go_wp2_with (first | (fail))
      go_roundg kk
      case measure => have := HK.out; omega
      case rel => exact ⟨4, rfl, ⟨by have := HK.out; omega⟩, by omega, ⟨(blk_put HBk.out 3 _ rfl).trans (by simp [arr8, by8])⟩, ⟨below_set HB.out (Nat.le_refl _)⟩⟩
    · obtain ⟨kk, rfl⟩ : ∃ m, gk = m + 1 := ⟨gk - 1, by have := HK.out; omega⟩
      have c0 : wr.cell? ⟨w.heap.size, 4, none⟩ = some (.int .u8 0) := (blk_cell HBk.out 4).trans rfl
      have f0 := blk_frozen HBk.out 4
      go_wp2_with (first | (fail))
      go_roundg kk
      case measure => have := HK.out; omega
      case rel => exact ⟨5, rfl, ⟨by have := HK.out; omega⟩, by omega, ⟨(blk_put HBk.out 4 _ rfl).trans (by simp [arr8, by8])⟩, ⟨below_set HB.out (Nat.le_refl _)⟩⟩
    · obtain ⟨kk, rfl⟩ : ∃ m, gk = m + 1 := ⟨gk - 1, by have := HK.out; omega⟩
      have c0 : wr.cell? ⟨w.heap.size, 5, none⟩ = some (.int .u8 0) := (blk_cell HBk.out 5).trans rfl
      have f0 := blk_frozen HBk.out 5
      go_wp2_with (first | (fail))
      go_roundg kk
      case measure => have := HK.out; omega
      case rel => exact ⟨6, rfl, ⟨by have := HK.out; omega⟩, by omega, ⟨(blk_put HBk.out 5 _ rfl).trans (by simp [arr8, by8])⟩, ⟨below_set HB.out (Nat.le_refl _)⟩⟩
    · obtain ⟨kk, rfl⟩ : ∃ m, gk = m + 1 := ⟨gk - 1, by have := HK.out; omega⟩
      have c0 : wr.cell? ⟨w.heap.size, 6, none⟩ = some (.int .u8 0) := (blk_cell HBk.out 6).trans rfl
      have f0 := blk_frozen HBk.out 6
      go_wp2_with (first | (fail))
      go_roundg kk
      case measure => have := HK.out; omega
      case rel => exact ⟨7, rfl, ⟨by have := HK.out; omega⟩, by omega, ⟨(blk_put HBk.out 6 _ rfl).trans (by simp [arr8, by8])⟩, ⟨below_set HB.out (Nat.le_refl _)⟩⟩
    · obtain ⟨kk, rfl⟩ : ∃ m, gk = m + 1 := ⟨gk - 1, by have := HK.out; omega⟩
      have c0 : wr.cell? ⟨w.heap.size, 7, none⟩ = some (.int .u8 0) := (blk_cell HBk.out 7).trans rfl
      have f0 := blk_frozen HBk.out 7
      go_wp2_with (first | (fail))
      go_roundg kk
      case measure => have := HK.out; omega
      case rel => exact ⟨8, rfl, ⟨by have := HK.out; omega⟩, by omega, ⟨(blk_put HBk.out 7 _ rfl).trans (by simp [arr8, by8])⟩, ⟨below_set HB.out (Nat.le_refl _)⟩⟩
    · have r3 := arr8_string n HBk.out
      go_wp2_with (first | (fail))
      go_ret
      exact ⟨rfl, HB.out⟩
end Go.Proofs.Ytdemgfbolcmcdaa.X
namespace Go.Proofs.Ytdemgfbolcmcdaa.X
open Go.RowKit Go.Proofs.YtdemgfbolcmcdaaW.PrintWords Go.Proofs.YtdemgfbolcmcdaaW.PrintLast Go.Proofs.YtdemgfbolcmcdaaW.PrintMore
attribute [local go_sem] max2_int min2_int max_two min_two max_three min_three max_four min_four
set_option linter.unusedVariables false
set_option linter.unusedSimpArgs false
def ns (s : ByteArray) : List Nat := s.data.toList.map UInt8.toNat
theorem ns_length (s : ByteArray) : (ns s).length = s.size := by simp [ns]
theorem ns_get (s : ByteArray) (i : Nat) (h : i < s.size) : (ns s)[i]'(by rw [ns_length]; exact h) = (s[i]'h).toNat := by simp [ns]; rfl
theorem ns_drop (s : ByteArray) (i : Nat) (h : i < s.size) : (ns s).drop i = (s[i]'h).toNat :: (ns s).drop (i + 1) := by
  rw [List.drop_eq_getElem_cons (by rw [ns_length]; exact h), ns_get s i h]
theorem ns_drop_end (s : ByteArray) (i : Nat) (h : s.size ≤ i) : (ns s).drop i = [] := by
  rw [List.drop_eq_nil_iff, ns_length]; exact h
theorem bt_ns (s : ByteArray) (i : Nat) (h : i < s.size) : bt s i = ((s[i]'h).toNat : Int) := by simp [bt, h]
end Go.Proofs.Ytdemgfbolcmcdaa.X
namespace Go.Proofs.Ytdemgfbolcmcdaa.X
open Go.RowKit Go.Proofs.YtdemgfbolcmcdaaW.PrintWords Go.Proofs.YtdemgfbolcmcdaaW.PrintLast Go.Proofs.YtdemgfbolcmcdaaW.PrintMore
attribute [local go_sem] max2_int min2_int max_two min_two max_three min_three max_four min_four
set_option linter.unusedVariables false
set_option linter.unusedSimpArgs false
theorem wrap64_id {x : Int} (h0 : -9223372036854775808 ≤ x) (h1 : x < 9223372036854775808) : wrap64 x = x := by unfold wrap64; omega
end Go.Proofs.Ytdemgfbolcmcdaa.X
namespace Go.Proofs.Ytdemgfbolcmcdaa.X
open Go.RowKit Go.Proofs.YtdemgfbolcmcdaaW.PrintWords Go.Proofs.YtdemgfbolcmcdaaW.PrintLast Go.Proofs.YtdemgfbolcmcdaaW.PrintMore
attribute [local go_sem] max2_int min2_int max_two min_two max_three min_three max_four min_four
set_option linter.unusedVariables false
set_option linter.unusedSimpArgs false
def catLaid : List Int → ByteArray
  | [] => ⟨#[]⟩
  | x :: l => laid8 x ++ catLaid l
theorem catLaid_snoc (l : List Int) (x : Int) : catLaid (l ++ [x]) = catLaid l ++ laid8 x := by
  induction l with
  | nil => apply ByteArray.ext; simp [catLaid, ByteArray.data_append]
  | cons y l ih => rw [List.cons_append, catLaid, ih, catLaid, ByteArray.append_assoc]
theorem laid8_size (n : Int) : (laid8 n).size = 8 := strOfNums_size _
theorem catLaid_size (l : List Int) : (catLaid l).size = 8 * l.length := by
  induction l with
  | nil => rfl
  | cons x l ih => rw [catLaid, ByteArray.size_append, ih, laid8_size, List.length_cons]; omega
theorem alloc_size (w : World) (o : Obj) : (w.alloc o).heap.size = w.heap.size + 1 := Array.size_push _
theorem below_low {b B : Nat} {w w1 : World} (h : Below B w w1) (hb : b ≤ B) : Below b w w1 := ⟨h.os, h.tape, h.output, h.size, fun i hi => h.block i (by omega)⟩
set_option maxHeartbeats 8000000 in
set_option maxRecDepth 100000 in
theorem of_ints.calls (name : ByteArray) (k : Int) (A0 : Option Addr) (c0 : Nat) (l0 : List Int) (A1 : Option Addr) (c1 : Nat) (l1 : List Int) (w : World) (hr0 : Kd.C (Kd.int .i64) w A0 l0.length l0) (hc0 : l0.length ≤ c0) (hr1 : Kd.C (Kd.int .i64) w A1 l1.length l1) (hc1 : l1.length ≤ c1) (hl0 : l0.length ≤ 1000000) (hl1 : l1.length ≤ 1000000) (hn1 : l1 ≠ []) :
    Calls Try.prog 74 #[.string name, .int .i64 k, .slice A0 l0.length c0, .slice A1 l1.length c1, .func (Fn.func 75) #[] #[]] w fun e w' => ∃ v2_, e = .returned (.agg #[.string name, .int .i64 k, v2_, .string (catLaid l1)]) ∧ Kd.R (Kd.int .i64) 2 w' w.heap.size (fun k_ => w.heap.size ≤ k_) v2_ l0 ∧ Below w.heap.size w w' := by
  have HR0 := Aside0.mk hr0
  have HC0 := Aside0.mk hc0
  have HL0 := Aside0.mk hl0
  have HR1 := Aside0.mk hr1
  have HC1 := Aside0.mk hc1
  have HL := Aside0.mk hl1
  clear hr0 hc0 hl0 hr1 hc1 hl1
  go_enter Try.func74, Try.ntmps74
  go_wp2
  have HRb := Aside0.mk (show ((w.alloc (Obj.cells #[Value.string { data := #[] }, Value.int IntKind.i64 0, Value.slice none 0 0, Value.string { data := #[] }] 51)).alloc (Obj.cells #[Value.pointer none, Value.slice none 0 0] 151)).heap[w.heap.size]? = some (Obj.cells #[Value.string { data := #[] }, Value.int IntKind.i64 0, Value.slice none 0 0, Value.string { data := #[] }] 51) from blk_alloc (blk_new w _) _)
  have HB := Aside0.mk (below_alloc (below_alloc (Below.refl w.heap.size w) (Obj.cells #[Value.string { data := #[] }, Value.int IntKind.i64 0, Value.slice none 0 0, Value.string { data := #[] }] 51)) (Obj.cells #[Value.pointer none, Value.slice none 0 0] 151))
  have HI : Aside0 (Lib.IsBuilder 151 5 (w.heap.size + 1) (w.heap.size + 1) (Lib.byteCells (catLaid (l1.take 0)).data.toList) ((w.alloc (Obj.cells #[Value.string { data := #[] }, Value.int IntKind.i64 0, Value.slice none 0 0, Value.string { data := #[] }] 51)).alloc (Obj.cells #[Value.pointer none, Value.slice none 0 0] 151))) := ⟨by
    have h := Lib.fresh_isBuilder 151 5 (w.alloc (Obj.cells #[Value.string { data := #[] }, Value.int IntKind.i64 0, Value.slice none 0 0, Value.string { data := #[] }] 51))
    have e : (w.alloc (Obj.cells #[Value.string { data := #[] }, Value.int IntKind.i64 0, Value.slice none 0 0, Value.string { data := #[] }] 51)).heap.size = w.heap.size + 1 := alloc_size _ _
    rw [e] at h
    exact h⟩
  go_loopg [16] l1.length (fun kq v16 w' => ∃ i : Nat, v16 = .int .i64 i ∧ Aside0 (i + kq = l1.length) ∧ i ≤ l1.length ∧ Aside0 (Lib.IsBuilder 151 5 (w.heap.size + 1) (w.heap.size + 1) (Lib.byteCells (catLaid (l1.take i)).data.toList) w') ∧ Aside0 (w'.heap[w.heap.size]? = some (Obj.cells #[Value.string { data := #[] }, Value.int IntKind.i64 0, Value.slice none 0 0, Value.string { data := #[] }] 51)) ∧ Aside0 (w.heap.size + 1 ≤ w'.heap.size) ∧ Aside0 (Below w.heap.size w w'))
  case atStart => exact ⟨0, rfl, ⟨by omega⟩, Nat.zero_le _, HI, HRb, ⟨by rw [alloc_size, alloc_size]; omega⟩, HB⟩
  case round =>
    clear HRb HB HI
    obtain ⟨i, rfl, HK, hi, HI, HRb, HS, HB⟩ := hrel
    by_cases hlt : i < l1.length
    · have hlt' : decide ((i : Int) < (l1.length : Int)) = true := by simpa using hlt
      obtain ⟨kk, rfl⟩ : ∃ m, gk = m + 1 := ⟨gk - 1, by have := HK.out; omega⟩
      have Hcat : Aside0 (Lib.byteCells (catLaid (l1.take i)).data.toList ++ Lib.strCells (laid8 (rd l1 i)) = Lib.byteCells (catLaid (l1.take (i + 1))).data.toList) := ⟨by
        rw [byteCells_append, List.take_succ_eq_append_getElem hlt, catLaid_snoc]
        simp [rd, List.getD_eq_getElem?_getD, hlt]⟩
      have Hlen : Aside0 ((Lib.byteCells (catLaid (l1.take i)).data.toList).length + (laid8 (rd l1 i)).size ≤ 140737488355328) := ⟨by
        have h1 := catLaid_size (l1.take i)
        have h3 : (Lib.byteCells (catLaid (l1.take i)).data.toList).length = (catLaid (l1.take i)).size := by simp [Lib.byteCells]
        have h4 := HL.out
        rw [List.length_take] at h1
        rw [laid8_size, h3]
        omega⟩
      have Hw : Aside0 (wrap64 ((i : Int) + 1) = (i : Int) + 1) := ⟨by have := HL.out; exact wrap64_id (by omega) (by omega)⟩
      have p101 : 0 ≤ (i : Int) := Int.natCast_nonneg i
      have q101 : (i : Int) < (l1.length : Int) := by omega
      obtain ⟨ad101, e101, hx101_0⟩ := Kd.at_int HR1.out i p101 q101
      cases e101
      replace hx101_0 := (HB.out.cell (World.block_lt_of_cell? w _ hx101_0)).trans hx101_0
      rw [Int.toNat_natCast] at hx101_0
      replace p101 := eq_true p101
      replace q101 := eq_true q101
      go_wp2_with (first | (fail))
      refine (tensor_laid.calls (rd l1 i) _).mono ?_
      rintro e w8 ⟨rfl, hb⟩
      have n0_ := Aside0.mk (below_step HB.out hb)
      have n1_ := Aside0.mk (isBuilder_below HI.out hb)
      have n2_ := Aside0.mk (blk_below HRb.out hb)
      have n3_ := Aside0.mk (Nat.le_trans HS.out hb.size)
      clear HB HI HRb HS hb
      have HB := n0_; have HI := n1_; have HRb := n2_; have HS := n3_
      clear n0_ n1_ n2_ n3_
      go_wp2_with (first | (fail))
      refine (Sh.WriteString (w.heap.size + 1) (w.heap.size + 1) _ (laid8 (rd l1 i)) _ HI.out Hlen.out HS.out).mono ?_
      rintro e w9 ⟨rfl, hi8, hb⟩
      have n0_ := Aside0.mk (HB.out.trans (below_low hb (Nat.le_succ _)))
      have n1_ := Aside0.mk (show Lib.IsBuilder 151 5 (w.heap.size + 1) (w.heap.size + 1) _ w9 from .inr hi8)
      have n2_ := Aside0.mk ((hb.block w.heap.size (Nat.lt_succ_self _)).trans HRb.out)
      have n3_ := Aside0.mk (Nat.le_trans HS.out hb.size)
      clear HB HI HRb HS hb hi8
      have HB := n0_; have HI := n1_; have HRb := n2_; have HS := n3_
      clear n0_ n1_ n2_ n3_
      go_wp2_with (first | (fail))
      go_roundg kk
      case measure => have := HK.out; omega
      case rel => exact ⟨i + 1, by rw [Hw.out]; rfl, ⟨by have := HK.out; omega⟩, by omega, ⟨by rw [← Hcat.out]; exact HI.out⟩, HRb, HS, HB⟩
    · have hlt' : decide ((i : Int) < (l1.length : Int)) = false := by simpa using hlt
      have Hi : Aside0 (l1.take i = l1) := ⟨List.take_of_length_le (by omega)⟩
      have HI2 : Aside0 (Lib.IsBuilder 151 5 (w.heap.size + 1) (w.heap.size + 1) (Lib.byteCells (catLaid l1).data.toList) wr) := ⟨by have := HI.out; rw [Hi.out] at this; exact this⟩
      have hne : (catLaid l1).data.toList ≠ [] := by
        intro e
        have h1 := catLaid_size l1
        have h2 : (catLaid l1).size = (catLaid l1).data.toList.length := (Array.length_toList).symm
        rw [e] at h2
        have h3 : l1.length ≠ 0 := fun h => hn1 (List.eq_nil_of_length_eq_zero h)
        rw [List.length_nil] at h2
        omega
      obtain ⟨p, g, cap, cur, hBg, hgl, hbl, hbk, hg, hnc, hcm, hcs, ht⟩ := builder_lies HI2.out hne
      have HBK := Aside0.mk hbk
      have HG := Aside0.mk hg
      have HT := Aside0.mk (And.intro hnc (And.intro hcm (And.intro hcs ht)))
      have HGL := Aside0.mk hgl
      have HBL := Aside0.mk hbl
      have HBG := Aside0.mk hBg
      have HNE := Aside0.mk hne
      clear hbk hg hnc hcm hcs ht hgl hbl hBg hne HI HI2
      have hlt2 : w.heap.size < wr.heap.size := by have := HS.out; omega
      go_wp2_with (first | (fail))
      refine (slices_Clone_int64.calls A0 c0 l0 l0 _ (Kd.C_below HR0.out HB.out) HC0.out (if_pos (by have := HL0.out; omega))).mono ?_
      rintro e w8 ⟨v2, rfl, hR, hb⟩
      obtain ⟨A2, c2, rfl⟩ := Kd.R_slice hR
      have n0_ := Aside0.mk (below_step HB.out hb)
      have n1_ := Aside0.mk (blk_below HRb.out hb)
      have n2_ := Aside0.mk (blk_below HBK.out hb)
      have n3_ := Aside0.mk (blk_below HG.out hb)
      have HO := Aside0.mk (Kd.R_lower hR (below_size HB.out))
      clear HB HRb HBK HG hb hR
      have HB := n0_; have HRb := n1_; have HBK := n2_; have HG := n3_
      clear n0_ n1_ n2_ n3_
      go_wp2_with (first | (fail))
      refine (sh_String.calls (w.heap.size + 1) g cap p cur _ _ HNE.out HBK.out HG.out HT.out.1 HT.out.2.1 HT.out.2.2.1 HT.out.2.2.2).mono ?_
      rintro e w9 ⟨rfl, hw9⟩
      have hk := freeze_kept w8 g (catLaid l1).data.toList.length
      rw [← hw9] at hk
      have n0_ := Aside0.mk (show Below w.heap.size w w9 by rw [hw9]; exact Lib.below_freeze (below_drew1 HB.out) (p := ⟨g, 0, none⟩) (by have := HBG.out; show w.heap.size ≤ g; omega) _)
      have n1_ := Aside0.mk ((hk.2 w.heap.size (blk_lt HRb.out) (by have := HBG.out; omega)).trans HRb.out)
      have HO2 := Aside0.mk (Kd.R_kept HO.out hk (fun k hk1 hk2 => by have := HGL.out; omega))
      clear HB HRb HO hk hw9 HBK HG
      have HB := n0_; have HRb := n1_
      clear n0_ n1_
      have cR0 : w9.cell? ⟨w.heap.size, 0, none⟩ = some (.string ⟨#[]⟩) := (blk_cell HRb.out 0).trans rfl
      have cR1 : w9.cell? ⟨w.heap.size, 1, none⟩ = some (.int .i64 0) := (blk_cell HRb.out 1).trans rfl
      have cR2 : w9.cell? ⟨w.heap.size, 2, none⟩ = some (.slice none 0 0) := (blk_cell HRb.out 2).trans rfl
      have cR3 : w9.cell? ⟨w.heap.size, 3, none⟩ = some (.string ⟨#[]⟩) := (blk_cell HRb.out 3).trans rfl
      have fR0 := blk_frozen HRb.out 0
      have fR1 := blk_frozen HRb.out 1
      have fR2 := blk_frozen HRb.out 2
      have fR3 := blk_frozen HRb.out 3
      go_wp2_with (first | (fail))
      refine bodyPost_ret (results_cell_row rfl _ _ w.heap.size 51 #[.string name, .int .i64 k, .slice A2 l0.length c2, .string ⟨(catLaid l1).data⟩] (0, 0) _ rfl (by refine blk_put (cs := #[.string name, .int .i64 k, .slice A2 l0.length c2, .string (⟨#[]⟩ : ByteArray)]) ?_ 3 _ rfl; refine blk_put (cs := #[.string name, .int .i64 k, .slice none 0 0, .string (⟨#[]⟩ : ByteArray)]) ?_ 2 _ rfl; refine blk_put (cs := #[.string name, .int .i64 0, .slice none 0 0, .string (⟨#[]⟩ : ByteArray)]) ?_ 1 _ rfl; refine blk_put (cs := #[.string (⟨#[]⟩ : ByteArray), .int .i64 0, .slice none 0 0, .string (⟨#[]⟩ : ByteArray)]) ?_ 0 _ rfl; exact HRb.out) Try.underlying51 rfl (by kernel_rfl)) rfl ?_
      have hfar : ∀ k_ : Nat, wr.heap.size ≤ k_ → k_ ≠ w.heap.size := fun k_ h => by omega
      exact ⟨_, rfl, Kd.R_mono (Kd.R_far (Kd.R_far (Kd.R_far (Kd.R_far HO2.out hfar _) hfar _) hfar _) hfar _) (fun k_ h => by omega), below_set (below_set (below_set (below_set HB.out (Nat.le_refl _)) (Nat.le_refl _)) (Nat.le_refl _)) (Nat.le_refl _)⟩
theorem tensor_OfInts0.calls (name : ByteArray) (A0 : Option Addr) (c0 : Nat) (l0 : List Int) (A1 : Option Addr) (c1 : Nat) (l1 : List Int) (w : World) (hr0 : Kd.C (Kd.int .i64) w A0 l0.length l0) (hc0 : l0.length ≤ c0) (hr1 : Kd.C (Kd.int .i64) w A1 l1.length l1) (hc1 : l1.length ≤ c1) (hl0 : l0.length ≤ 1000000) (hl1 : l1.length ≤ 1000000) (hn1 : l1 ≠ []) :
    Calls Try.prog 67 #[.string name, .slice A0 l0.length c0, .slice A1 l1.length c1] w fun e w' => ∃ v2_, e = .returned (.agg #[.string name, .int .i64 7, v2_, .string (catLaid l1)]) ∧ Kd.R (Kd.int .i64) 2 w' w.heap.size (fun k_ => w.heap.size ≤ k_) v2_ l0 ∧ Below w.heap.size w w' := by
  have HR0 := Aside0.mk hr0
  have HR1 := Aside0.mk hr1
  have HH := Aside0.mk (And.intro hc0 (And.intro hc1 (And.intro hl0 (And.intro hl1 hn1))))
  clear hr0 hr1 hc0 hc1 hl0 hl1 hn1
  go_enter Try.func67, Try.ntmps67
  go_wp2_with (first | (fail))
  have HRb := Aside0.mk (blk_new w (Obj.cells #[Value.string { data := #[] }, Value.int IntKind.i64 0, Value.slice none 0 0, Value.string { data := #[] }] 51))
  have HB := Aside0.mk (below_alloc (Below.refl w.heap.size w) (Obj.cells #[Value.string { data := #[] }, Value.int IntKind.i64 0, Value.slice none 0 0, Value.string { data := #[] }] 51))
  refine (of_ints.calls name 7 A0 c0 l0 A1 c1 l1 _ (Kd.C_below HR0.out HB.out) HH.out.1 (Kd.C_below HR1.out HB.out) HH.out.2.1 HH.out.2.2.1 HH.out.2.2.2.1 HH.out.2.2.2.2).mono ?_
  rintro e w8 ⟨v2, rfl, hR, hb⟩
  obtain ⟨A2, c2, rfl⟩ := Kd.R_slice hR
  have hlt : (w.alloc (Obj.cells #[Value.string { data := #[] }, Value.int IntKind.i64 0, Value.slice none 0 0, Value.string { data := #[] }] 51)).heap.size = w.heap.size + 1 := alloc_size _ _
  have n0_ := Aside0.mk (below_step HB.out hb)
  have n1_ := Aside0.mk (blk_below HRb.out hb)
  have HO := Aside0.mk (Kd.R_lower hR (below_size HB.out))
  rw [hlt] at HO
  clear HB HRb hb hR hlt
  have HB := n0_; have HRb := n1_
  clear n0_ n1_
  have cR0 : w8.cell? ⟨w.heap.size, 0, none⟩ = some (.string ⟨#[]⟩) := (blk_cell HRb.out 0).trans rfl
  have cR1 : w8.cell? ⟨w.heap.size, 1, none⟩ = some (.int .i64 0) := (blk_cell HRb.out 1).trans rfl
  have cR2 : w8.cell? ⟨w.heap.size, 2, none⟩ = some (.slice none 0 0) := (blk_cell HRb.out 2).trans rfl
  have cR3 : w8.cell? ⟨w.heap.size, 3, none⟩ = some (.string ⟨#[]⟩) := (blk_cell HRb.out 3).trans rfl
  have fR0 := blk_frozen HRb.out 0
  have fR1 := blk_frozen HRb.out 1
  have fR2 := blk_frozen HRb.out 2
  have fR3 := blk_frozen HRb.out 3
  go_wp2_with (first | (fail))
  refine bodyPost_ret (results_cell_row rfl _ _ w.heap.size 51 #[.string name, .int .i64 7, .slice A2 l0.length c2, .string (catLaid l1)] (0, 0) _ rfl (by refine blk_put (cs := #[.string name, .int .i64 7, .slice A2 l0.length c2, .string (⟨#[]⟩ : ByteArray)]) ?_ 3 _ rfl; refine blk_put (cs := #[.string name, .int .i64 7, .slice none 0 0, .string (⟨#[]⟩ : ByteArray)]) ?_ 2 _ rfl; refine blk_put (cs := #[.string name, .int .i64 0, .slice none 0 0, .string (⟨#[]⟩ : ByteArray)]) ?_ 1 _ rfl; refine blk_put (cs := #[.string (⟨#[]⟩ : ByteArray), .int .i64 0, .slice none 0 0, .string (⟨#[]⟩ : ByteArray)]) ?_ 0 _ rfl; exact HRb.out) Try.underlying51 rfl (by kernel_rfl)) rfl ?_
  have hfar : ∀ k_ : Nat, w.heap.size + 1 ≤ k_ → k_ ≠ w.heap.size := fun k_ h => by omega
  exact ⟨_, rfl, Kd.R_mono (Kd.R_far (Kd.R_far (Kd.R_far (Kd.R_far HO.out hfar _) hfar _) hfar _) hfar _) (fun k_ h => by omega), below_set (below_set (below_set (below_set HB.out (Nat.le_refl _)) (Nat.le_refl _)) (Nat.le_refl _)) (Nat.le_refl _)⟩
end Go.Proofs.Ytdemgfbolcmcdaa.X
namespace Go.Proofs.Ytdemgfbolcmcdaa.X
open Go.RowKit Go.Proofs.YtdemgfbolcmcdaaW.PrintWords Go.Proofs.YtdemgfbolcmcdaaW.PrintLast Go.Proofs.YtdemgfbolcmcdaaW.PrintMore
attribute [local go_sem] max2_int min2_int max_two min_two max_three min_three max_four min_four
set_option linter.unusedVariables false
set_option linter.unusedSimpArgs false
def stepI (n : Int) (x : S79) : Int := wrap64 (n + wrap64 (wrap64 (1 + (x.f0.size : Int)) + (x.f2.length : Int)))
def sumI (n : Int) (l : List S79) : Int := l.foldl stepI n
def stepT (n : Int) (x : S51) : Int := wrap64 (n + wrap64 (wrap64 (wrap64 (1 + (x.f0.size : Int)) + (x.f2.length : Int)) + (x.f3.size : Int)))
def sumT (n : Int) (l : List S51) : Int := l.foldl stepT n
def stepS (n : Int) (x : ByteArray) : Int := wrap64 (n + wrap64 (1 + (x.size : Int)))
def sumSt (n : Int) (l : List ByteArray) : Int := l.foldl stepS n
def stepA (n : Int) (x : S35) : Int := wrap64 (n + wrap64 (wrap64 (1 + (x.f0.size : Int)) + (x.f3.length : Int)))
def sumA (n : Int) (l : List S35) : Int := l.foldl stepA n
def stepD (n : Int) (x : S33) : Int := sumA (sumSt (wrap64 (n + wrap64 (wrap64 (1 + (x.f0.size : Int)) + (x.f2.size : Int)))) x.f1) x.f3
def sumD (n : Int) (l : List S33) : Int := l.foldl stepD n
def smallN (l1 l2 : List S79) (l3 : List S51) (l4 : List S33) : Int := sumD (sumT (sumI (sumI 0 l1) l2) l3) l4
def agatelaw10_Small.f (a0_0 : Int) (l0_1 : List S79) (l0_2 : List S79) (l0_3 : List S51) (l0_4 : List S33) : Option Bool := some (decide (smallN l0_1 l0_2 l0_3 l0_4 ≤ 6000))
set_option maxHeartbeats 8000000 in
set_option maxRecDepth 100000 in
theorem agatelaw10_Small.calls (a0_0 : Int) (A0_1 : Option Addr) (c0_1 : Nat) (l0_1 : List S79) (A0_2 : Option Addr) (c0_2 : Nat) (l0_2 : List S79) (A0_3 : Option Addr) (c0_3 : Nat) (l0_3 : List S51) (A0_4 : Option Addr) (c0_4 : Nat) (l0_4 : List S33) (r : Bool) (w : World) (hr0_1 : Kd.C k79 w A0_1 l0_1.length l0_1) (hc0_1 : l0_1.length ≤ c0_1) (hr0_2 : Kd.C k79 w A0_2 l0_2.length l0_2) (hc0_2 : l0_2.length ≤ c0_2) (hr0_3 : Kd.C k51 w A0_3 l0_3.length l0_3) (hc0_3 : l0_3.length ≤ c0_3) (hr0_4 : Kd.C k33 w A0_4 l0_4.length l0_4) (hc0_4 : l0_4.length ≤ c0_4) (h : agatelaw10_Small.f a0_0 l0_1 l0_2 l0_3 l0_4 = some r) :
    Calls Try.prog 7 #[.agg #[.int .i64 a0_0, .slice A0_1 l0_1.length c0_1, .slice A0_2 l0_2.length c0_2, .slice A0_3 l0_3.length c0_3, .slice A0_4 l0_4.length c0_4]] w fun e w' => e = .returned (.bool r) ∧ Below w.heap.size w w' := by
  obtain rfl := Option.some.inj h
  clear h
  obtain ⟨T4, hT4⟩ : ∃ T4, T4 = smallN l0_1 l0_2 l0_3 l0_4 := ⟨_, rfl⟩
  obtain ⟨T2, hT2⟩ : ∃ T2, T2 = sumI (sumI 0 l0_1) l0_2 := ⟨_, rfl⟩
  obtain ⟨T3, hT3⟩ : ∃ T3, T3 = sumT T2 l0_3 := ⟨_, rfl⟩
  have HT4 := Aside0.mk (show sumD T3 l0_4 = T4 by rw [hT4, hT3, hT2]; rfl)
  have HT3 := Aside0.mk hT3.symm
  have HT2 := Aside0.mk hT2.symm
  rw [← hT4]
  clear hT4 hT3 hT2
  have hu := Try.underlying26
  have hu2 := Try.underlying79
  have hu3 := Try.underlying51
  have hu4 := Try.underlying33
  have hu5 := Try.underlying35
  have HR1 := Aside0.mk hr0_1
  have HR2 := Aside0.mk hr0_2
  have HR3 := Aside0.mk hr0_3
  have HR4 := Aside0.mk hr0_4
  clear hr0_1 hc0_1 hr0_2 hc0_2 hr0_3 hc0_3 hr0_4 hc0_4
  go_enter Try.func7, Try.ntmps7
  go_wp2_with (first | (fail))
  have BK0 := Aside0.mk (show ((w.alloc (Obj.cells #[.int .i64 a0_0, .slice A0_1 l0_1.length c0_1, .slice A0_2 l0_2.length c0_2, .slice A0_3 l0_3.length c0_3, .slice A0_4 l0_4.length c0_4] 26)).alloc (Obj.cells #[.slice A0_1 l0_1.length c0_1, .slice A0_2 l0_2.length c0_2] 22)).heap[w.heap.size]? = some (.cells #[.int .i64 a0_0, .slice A0_1 l0_1.length c0_1, .slice A0_2 l0_2.length c0_2, .slice A0_3 l0_3.length c0_3, .slice A0_4 l0_4.length c0_4] 26 (0, 0)) from blk_alloc (blk_new w _) _)
  have BKr := Aside0.mk (show ((w.alloc (Obj.cells #[.int .i64 a0_0, .slice A0_1 l0_1.length c0_1, .slice A0_2 l0_2.length c0_2, .slice A0_3 l0_3.length c0_3, .slice A0_4 l0_4.length c0_4] 26)).alloc (Obj.cells #[.slice A0_1 l0_1.length c0_1, .slice A0_2 l0_2.length c0_2] 22)).heap[w.heap.size + 1]? = some (.cells #[.slice A0_1 l0_1.length c0_1, .slice A0_2 l0_2.length c0_2] 22 (0, 0)) from by rw [← alloc_size w (Obj.cells #[.int .i64 a0_0, .slice A0_1 l0_1.length c0_1, .slice A0_2 l0_2.length c0_2, .slice A0_3 l0_3.length c0_3, .slice A0_4 l0_4.length c0_4] 26)]; exact blk_new _ _)
  have HB := Aside0.mk (below_alloc (below_alloc (Below.refl w.heap.size w) (Obj.cells #[.int .i64 a0_0, .slice A0_1 l0_1.length c0_1, .slice A0_2 l0_2.length c0_2, .slice A0_3 l0_3.length c0_3, .slice A0_4 l0_4.length c0_4] 26)) (Obj.cells #[.slice A0_1 l0_1.length c0_1, .slice A0_2 l0_2.length c0_2] 22))
  generalize ((w.alloc (Obj.cells #[.int .i64 a0_0, .slice A0_1 l0_1.length c0_1, .slice A0_2 l0_2.length c0_2, .slice A0_3 l0_3.length c0_3, .slice A0_4 l0_4.length c0_4] 26)).alloc (Obj.cells #[.slice A0_1 l0_1.length c0_1, .slice A0_2 l0_2.length c0_2] 22)) = w3 at BK0 BKr HB ⊢
  obtain ⟨rb, hrb⟩ : ∃ rb, rb = w.heap.size + 1 := ⟨_, rfl⟩
  rw [← hrb] at BKr ⊢
  clear hrb
  go_loopg [3, 22] 2 (fun kq v3 v22 w' => ∃ (i : Nat) (n : Int), v3 = .int .i64 n ∧ v22 = .int .i64 i ∧ Aside0 (i + kq = 2) ∧ i ≤ 2 ∧ Aside0 (([l0_1, l0_2].drop i).foldl sumI n = T2) ∧ Aside0 (w'.heap[rb]? = some (.cells #[.slice A0_1 l0_1.length c0_1, .slice A0_2 l0_2.length c0_2] 22 (0, 0))) ∧ Aside0 (w'.heap[w.heap.size]? = some (.cells #[.int .i64 a0_0, .slice A0_1 l0_1.length c0_1, .slice A0_2 l0_2.length c0_2, .slice A0_3 l0_3.length c0_3, .slice A0_4 l0_4.length c0_4] 26 (0, 0))) ∧ Aside0 (Below w.heap.size w w'))
  case atStart => exact ⟨0, 0, rfl, rfl, ⟨by omega⟩, by omega, HT2, BKr, BK0, HB⟩
  case round =>
  clear HT2 BK0 HB BKr
  obtain ⟨i1, n1, rfl, rfl, HK1, hi1, HF1, BKr, BK0, HB⟩ := hrel
  by_cases hlt1 : i1 < 2
  · have hlt' : decide ((i1 : Int) < 2) = true := decide_eq_true (by omega)
    obtain ⟨kk1, rfl⟩ : ∃ m, gk = m + 1 := ⟨gk - 1, by have := HK1.out; omega⟩
    have p101 : 0 ≤ (i1 : Int) := Int.natCast_nonneg i1
    have q101 : (i1 : Int) < 2 := by omega
    obtain ⟨A, c, l, hc1, hC, hdr⟩ : ∃ (A : Option Addr) (c : Nat) (l : List S79), wr.cell? ⟨rb, i1, none⟩ = some (.slice A l.length c) ∧ Kd.C k79 w A l.length l ∧ [l0_1, l0_2].drop i1 = l :: [l0_1, l0_2].drop (i1 + 1) := by
      have h : i1 = 0 ∨ i1 = 1 := by omega
      rcases h with rfl | rfl
      · exact ⟨_, _, l0_1, blk_cell BKr.out 0, HR1.out, rfl⟩
      · exact ⟨_, _, l0_2, blk_cell BKr.out 1, HR2.out, rfl⟩
    have HC := Aside0.mk hC
    obtain ⟨T1, hT1⟩ : ∃ T1, T1 = sumI n1 l := ⟨_, rfl⟩
    have HF2 := Aside0.mk (show ([l0_1, l0_2].drop (i1 + 1)).foldl sumI T1 = T2 by have h := HF1.out; rw [hdr] at h; rw [hT1]; exact h)
    have HT1 := Aside0.mk hT1.symm
    clear HF1 hdr hC hT1
    have HF1 := HF2
    clear HF2
    replace p101 := eq_true p101
    replace q101 := eq_true q101
    go_wp2_with (first | (fail))
    go_loopg [3, 28] l.length (fun kq v3 v28 w' => ∃ (i : Nat) (n : Int), v3 = .int .i64 n ∧ v28 = .int .i64 i ∧ Aside0 (i + kq = l.length) ∧ i ≤ l.length ∧ Aside0 (sumI n (l.drop i) = T1) ∧ Aside0 (w'.heap[rb]? = some (.cells #[.slice A0_1 l0_1.length c0_1, .slice A0_2 l0_2.length c0_2] 22 (0, 0))) ∧ Aside0 (w'.heap[w.heap.size]? = some (.cells #[.int .i64 a0_0, .slice A0_1 l0_1.length c0_1, .slice A0_2 l0_2.length c0_2, .slice A0_3 l0_3.length c0_3, .slice A0_4 l0_4.length c0_4] 26 (0, 0))) ∧ Aside0 (Below w.heap.size w w'))
    case atStart => exact ⟨0, _, rfl, rfl, ⟨by omega⟩, Nat.zero_le _, HT1, BKr, BK0, HB⟩
    case round =>
    clear HT1 BKr BK0 HB
    obtain ⟨i2, n2, rfl, rfl, HK2, hi2, HF2, BKr, BK0, HB⟩ := hrel
    by_cases hlt2 : i2 < l.length
    · have hlt' : decide ((i2 : Int) < (l.length : Int)) = true := by simpa using hlt2
      obtain ⟨kk2, rfl⟩ : ∃ m, gk = m + 1 := ⟨gk - 1, by have := HK2.out; omega⟩
      have p101 : 0 ≤ (i2 : Int) := Int.natCast_nonneg i2
      have q101 : (i2 : Int) < (l.length : Int) := by omega
      obtain ⟨x2, hx2⟩ : ∃ x, x = l[i2] := ⟨_, rfl⟩
      have hdr : l.drop i2 = x2 :: l.drop (i2 + 1) := by rw [List.drop_eq_getElem_cons hlt2, hx2]
      have HFx := Aside0.mk (show sumI (stepI n2 x2) (l.drop (i2 + 1)) = T1 by have h := HF2.out; rw [hdr] at h; exact h)
      have Hw2 : Aside0 (wrap64 ((i2 : Int) + 1) = (i2 : Int) + 1) := ⟨by have h := (Kd.C_below HC.out HB.out).2.1; exact wrap64_id (by omega) (by omega)⟩
      obtain ⟨ad2, A2_2, c2_2, e101, h2_0, h2_1, h2_2, hl2_2, hi2_2⟩ := at_T79 (Kd.C_below HC.out HB.out) (i2 : Int) p101 q101
      cases e101
      rw [Int.toNat_natCast] at h2_0 h2_1 h2_2
      have hr : rd_T79 l (i2 : Int) = x2 := by rw [hx2]; simp [rd_T79, hlt2]
      rw [hr] at h2_0 h2_1 h2_2 hl2_2 hi2_2
      clear HF2 hdr hr hx2
      have HF2 := HFx
      clear HFx
      replace p101 := eq_true p101
      replace q101 := eq_true q101
      go_wp2_with (first | (fail))
      go_roundg kk2
      case measure => have := HK2.out; omega
      case rel => exact ⟨i2 + 1, _, rfl, by rw [Hw2.out]; rfl, ⟨by have := HK2.out; omega⟩, by omega, HF2, ⟨blk_alloc BKr.out _⟩, ⟨blk_alloc BK0.out _⟩, ⟨below_alloc HB.out _⟩⟩
    · have hlt' : decide ((i2 : Int) < (l.length : Int)) = false := by simpa using hlt2
      have HN := Aside0.mk (show n2 = T1 by have h := HF2.out; rw [List.drop_of_length_le (by omega)] at h; exact h)
      go_wp2_with (first | (fail))
      go_roundg kk1
      case measure => have := HK1.out; omega
      case rel => exact ⟨i1 + 1, _, rfl, by first | rfl | (rw [show wrap64 ((i1 : Int) + 1) = (i1 : Int) + 1 from wrap64_id (by omega) (by omega)]; rfl), ⟨by have := HK1.out; omega⟩, by omega, ⟨by rw [HN.out]; exact HF1.out⟩, BKr, BK0, HB⟩
  · have hlt' : decide ((i1 : Int) < 2) = false := decide_eq_false (by omega)
    have HN1 := Aside0.mk (show n1 = T2 by have h := HF1.out; rw [List.drop_of_length_le (by simp; omega)] at h; exact h)
    have g3 : wr.cell? ⟨w.heap.size, 3, none⟩ = some (.slice A0_3 l0_3.length c0_3) := blk_cell BK0.out 3
    go_wp2_with (first | (fail))
    have HTT := Aside0.mk (show sumT n1 (l0_3.drop 0) = T3 by rw [HN1.out]; exact HT3.out)
    clear g3 HF1 HT3 HN1
    go_loopg [3, 47] l0_3.length (fun kq v3 v47 w' => ∃ (i : Nat) (n : Int), v3 = .int .i64 n ∧ v47 = .int .i64 i ∧ Aside0 (i + kq = l0_3.length) ∧ i ≤ l0_3.length ∧ Aside0 (sumT n (l0_3.drop i) = T3) ∧ Aside0 (w'.heap[w.heap.size]? = some (.cells #[.int .i64 a0_0, .slice A0_1 l0_1.length c0_1, .slice A0_2 l0_2.length c0_2, .slice A0_3 l0_3.length c0_3, .slice A0_4 l0_4.length c0_4] 26 (0, 0))) ∧ Aside0 (Below w.heap.size w w'))
    case atStart => exact ⟨0, _, rfl, rfl, ⟨by omega⟩, Nat.zero_le _, HTT, BK0, HB⟩
    case round =>
    clear HTT BK0 HB
    obtain ⟨i3, n3, rfl, rfl, HK3, hi3, HF3, BK0, HB⟩ := hrel
    by_cases hlt3 : i3 < l0_3.length
    · have hlt' : decide ((i3 : Int) < (l0_3.length : Int)) = true := by simpa using hlt3
      obtain ⟨kk3, rfl⟩ : ∃ m, gk = m + 1 := ⟨gk - 1, by have := HK3.out; omega⟩
      have p101 : 0 ≤ (i3 : Int) := Int.natCast_nonneg i3
      have q101 : (i3 : Int) < (l0_3.length : Int) := by omega
      obtain ⟨x3, hx3⟩ : ∃ x, x = l0_3[i3] := ⟨_, rfl⟩
      have hdr : l0_3.drop i3 = x3 :: l0_3.drop (i3 + 1) := by rw [List.drop_eq_getElem_cons hlt3, hx3]
      have HFx := Aside0.mk (show sumT (stepT n3 x3) (l0_3.drop (i3 + 1)) = T3 by have h := HF3.out; rw [hdr] at h; exact h)
      have Hw3 : Aside0 (wrap64 ((i3 : Int) + 1) = (i3 : Int) + 1) := ⟨by have h := (Kd.C_below HR3.out HB.out).2.1; exact wrap64_id (by omega) (by omega)⟩
      obtain ⟨ad3, A3_2, c3_2, e101, h3_0, h3_1, h3_2, h3_3, hl3_2, hi3_2⟩ := at_T51 (Kd.C_below HR3.out HB.out) (i3 : Int) p101 q101
      cases e101
      rw [Int.toNat_natCast] at h3_0 h3_1 h3_2 h3_3
      have hr : rd_T51 l0_3 (i3 : Int) = x3 := by rw [hx3]; simp [rd_T51, hlt3]
      rw [hr] at h3_0 h3_1 h3_2 h3_3 hl3_2 hi3_2
      clear HF3 hdr hr hx3
      have HF3 := HFx
      clear HFx
      replace p101 := eq_true p101
      replace q101 := eq_true q101
      go_wp2_with (first | (fail))
      go_roundg kk3
      case measure => have := HK3.out; omega
      case rel => exact ⟨i3 + 1, _, rfl, by rw [Hw3.out]; rfl, ⟨by have := HK3.out; omega⟩, by omega, HF3, ⟨blk_alloc BK0.out _⟩, ⟨below_alloc HB.out _⟩⟩
    · have hlt' : decide ((i3 : Int) < (l0_3.length : Int)) = false := by simpa using hlt3
      have HN := Aside0.mk (show n3 = T3 by have h := HF3.out; rw [List.drop_of_length_le (by omega)] at h; exact h)
      have g4 : wr.cell? ⟨w.heap.size, 4, none⟩ = some (.slice A0_4 l0_4.length c0_4) := blk_cell BK0.out 4
      go_wp2_with (first | (fail))
      have HTD := Aside0.mk (show sumD n3 (l0_4.drop 0) = T4 by rw [HN.out]; exact HT4.out)
      clear g4 HN HF3 HT4
      go_loopg [3, 69] l0_4.length (fun kq v3 v69 w' => ∃ (i : Nat) (n : Int), v3 = .int .i64 n ∧ v69 = .int .i64 i ∧ Aside0 (i + kq = l0_4.length) ∧ i ≤ l0_4.length ∧ Aside0 (sumD n (l0_4.drop i) = T4) ∧ Aside0 (w'.heap[w.heap.size]? = some (.cells #[.int .i64 a0_0, .slice A0_1 l0_1.length c0_1, .slice A0_2 l0_2.length c0_2, .slice A0_3 l0_3.length c0_3, .slice A0_4 l0_4.length c0_4] 26 (0, 0))) ∧ Aside0 (Below w.heap.size w w'))
      case atStart => exact ⟨0, _, rfl, rfl, ⟨by omega⟩, Nat.zero_le _, HTD, BK0, HB⟩
      case round =>
      clear HTD BK0 HB
      obtain ⟨i4, n4, rfl, rfl, HK4, hi4, HF4, BK0, HB⟩ := hrel
      by_cases hlt4 : i4 < l0_4.length
      · have hlt' : decide ((i4 : Int) < (l0_4.length : Int)) = true := by simpa using hlt4
        obtain ⟨kk4, rfl⟩ : ∃ m, gk = m + 1 := ⟨gk - 1, by have := HK4.out; omega⟩
        have p101 : 0 ≤ (i4 : Int) := Int.natCast_nonneg i4
        have q101 : (i4 : Int) < (l0_4.length : Int) := by omega
        obtain ⟨x4, hx4⟩ : ∃ x, x = l0_4[i4] := ⟨_, rfl⟩
        have hdr : l0_4.drop i4 = x4 :: l0_4.drop (i4 + 1) := by rw [List.drop_eq_getElem_cons hlt4, hx4]
        have HFx := Aside0.mk (show sumD (stepD n4 x4) (l0_4.drop (i4 + 1)) = T4 by have h := HF4.out; rw [hdr] at h; exact h)
        have Hw4 : Aside0 (wrap64 ((i4 : Int) + 1) = (i4 : Int) + 1) := ⟨by have h := (Kd.C_below HR4.out HB.out).2.1; exact wrap64_id (by omega) (by omega)⟩
        obtain ⟨ad4, A4_1, c4_1, A4_3, c4_3, e101, h4_0, h4_1, h4_2, h4_3, hl4_1, hi4_1, hl4_3, hi4_3⟩ := at_T33 (Kd.C_below HR4.out HB.out) (i4 : Int) p101 q101
        cases e101
        rw [Int.toNat_natCast] at h4_0 h4_1 h4_2 h4_3
        have hr : rd_T33 l0_4 (i4 : Int) = x4 := by rw [hx4]; simp [rd_T33, hlt4]
        rw [hr] at h4_0 h4_1 h4_2 h4_3 hl4_1 hi4_1 hl4_3 hi4_3
        clear HF4 hdr hr hx4
        have HF4 := HFx
        clear HFx
        replace p101 := eq_true p101
        replace q101 := eq_true q101
        have HI1 := Aside0.mk hi4_1
        have HI3 := Aside0.mk hi4_3
        clear hi4_1 hl4_1 hi4_3 hl4_3
        obtain ⟨TS, hTS⟩ : ∃ TS, TS = sumSt (wrap64 (n4 + wrap64 (wrap64 (1 + (x4.f0.size : Int)) + (x4.f2.size : Int)))) x4.f1 := ⟨_, rfl⟩
        obtain ⟨TA, hTA⟩ : ∃ TA, TA = sumA TS x4.f3 := ⟨_, rfl⟩
        have HFD := Aside0.mk (show sumD TA (l0_4.drop (i4 + 1)) = T4 by have h := HF4.out; unfold stepD at h; rw [← hTS, ← hTA] at h; exact h)
        have HTS := Aside0.mk (show sumSt (wrap64 (n4 + wrap64 (wrap64 (1 + (x4.f0.size : Int)) + (x4.f2.size : Int)))) (x4.f1.drop 0) = TS from hTS.symm)
        have HTA := Aside0.mk (show sumA TS (x4.f3.drop 0) = TA from hTA.symm)
        clear hTS hTA HF4
        go_wp2_with (first | (fail))
        have BKd := Aside0.mk (show (wr.alloc (Obj.cells #[Value.string x4.f0, Value.slice A4_1 x4.f1.length c4_1, Value.string x4.f2, Value.slice A4_3 x4.f3.length c4_3] 33)).heap[wr.heap.size]? = some (.cells #[Value.string x4.f0, Value.slice A4_1 x4.f1.length c4_1, Value.string x4.f2, Value.slice A4_3 x4.f3.length c4_3] 33 (0, 0)) from blk_new _ _)
        have hbn := below_alloc (Below.refl wr.heap.size wr) (Obj.cells #[Value.string x4.f0, Value.slice A4_1 x4.f1.length c4_1, Value.string x4.f2, Value.slice A4_3 x4.f3.length c4_3] 33)
        have n0_ := Aside0.mk (below_step HB.out hbn)
        have n1_ := Aside0.mk (blk_below BK0.out hbn)
        have n2_ := Aside0.mk (Kd.C_below HI1.out hbn)
        have n3_ := Aside0.mk (Kd.C_below HI3.out hbn)
        clear HB BK0 HI1 HI3 hbn
        have HB := n0_; have BK0 := n1_; have HI1 := n2_; have HI3 := n3_
        clear n0_ n1_ n2_ n3_
        obtain ⟨db, hdb⟩ : ∃ db, db = wr.heap.size := ⟨_, rfl⟩
        rw [← hdb] at BKd ⊢
        clear hdb
        generalize wr.alloc (Obj.cells #[Value.string x4.f0, Value.slice A4_1 x4.f1.length c4_1, Value.string x4.f2, Value.slice A4_3 x4.f3.length c4_3] 33) = w5 at HB BK0 HI1 HI3 BKd ⊢
        go_loopg [3, 86] x4.f1.length (fun kq v3 v86 w' => ∃ (i : Nat) (n : Int), v3 = .int .i64 n ∧ v86 = .int .i64 i ∧ Aside0 (i + kq = x4.f1.length) ∧ i ≤ x4.f1.length ∧ Aside0 (sumSt n (x4.f1.drop i) = TS) ∧ Aside0 (w'.heap[db]? = some (.cells #[Value.string x4.f0, Value.slice A4_1 x4.f1.length c4_1, Value.string x4.f2, Value.slice A4_3 x4.f3.length c4_3] 33 (0, 0))) ∧ Aside0 (Below w5.heap.size w5 w') ∧ Aside0 (w'.heap[w.heap.size]? = some (.cells #[.int .i64 a0_0, .slice A0_1 l0_1.length c0_1, .slice A0_2 l0_2.length c0_2, .slice A0_3 l0_3.length c0_3, .slice (some ad4) l0_4.length c0_4] 26 (0, 0))) ∧ Aside0 (Below w.heap.size w w'))
        case atStart => exact ⟨0, _, rfl, rfl, ⟨by omega⟩, Nat.zero_le _, HTS, BKd, ⟨Below.refl _ _⟩, BK0, HB⟩
        case round =>
        clear HTS BKd BK0 HB
        obtain ⟨i5, n5, rfl, rfl, HK5, hi5, HF5, BKd, HB5, BK0, HB⟩ := hrel
        by_cases hlt5 : i5 < x4.f1.length
        · have hlt' : decide ((i5 : Int) < (x4.f1.length : Int)) = true := by simpa using hlt5
          obtain ⟨kk5, rfl⟩ : ∃ m, gk = m + 1 := ⟨gk - 1, by have := HK5.out; omega⟩
          have p101 : 0 ≤ (i5 : Int) := Int.natCast_nonneg i5
          have q101 : (i5 : Int) < (x4.f1.length : Int) := by omega
          obtain ⟨x5, hx5⟩ : ∃ x, x = x4.f1[i5] := ⟨_, rfl⟩
          have hdr : x4.f1.drop i5 = x5 :: x4.f1.drop (i5 + 1) := by rw [List.drop_eq_getElem_cons hlt5, hx5]
          have HFx := Aside0.mk (show sumSt (stepS n5 x5) (x4.f1.drop (i5 + 1)) = TS by have h := HF5.out; rw [hdr] at h; exact h)
          have Hw5 : Aside0 (wrap64 ((i5 : Int) + 1) = (i5 : Int) + 1) := ⟨by have h := (Kd.C_below HI1.out HB5.out).2.1; exact wrap64_id (by omega) (by omega)⟩
          obtain ⟨ad, e101, h5_0⟩ := Kd.at_string (Kd.C_below HI1.out HB5.out) (i5 : Int) p101 q101
          cases e101
          rw [Int.toNat_natCast] at h5_0
          have hr : rdOf ByteArray.empty x4.f1 (i5 : Int) = x5 := by rw [hx5]; simp [rdOf, hlt5]
          rw [hr] at h5_0
          clear HF5 hdr hr hx5
          have HF5 := HFx
          clear HFx
          replace p101 := eq_true p101
          replace q101 := eq_true q101
          go_wp2_with (first | (fail))
          go_roundg kk5
          case measure => have := HK5.out; omega
          case rel => exact ⟨i5 + 1, _, rfl, by rw [Hw5.out]; rfl, ⟨by have := HK5.out; omega⟩, by omega, HF5, BKd, HB5, BK0, HB⟩
        · have hlt' : decide ((i5 : Int) < (x4.f1.length : Int)) = false := by simpa using hlt5
          have HN := Aside0.mk (show n5 = TS by have h := HF5.out; rw [List.drop_of_length_le (by omega)] at h; exact h)
          have g5 : wr.cell? ⟨db, 3, none⟩ = some (.slice A4_3 x4.f3.length c4_3) := blk_cell BKd.out 3
          go_wp2_with (first | (fail))
          have HTB := Aside0.mk (show sumA n5 (x4.f3.drop 0) = TA by rw [HN.out]; exact HTA.out)
          clear g5 HN HF5 HTA
          go_loopg [3, 99] x4.f3.length (fun kq v3 v99 w' => ∃ (i : Nat) (n : Int), v3 = .int .i64 n ∧ v99 = .int .i64 i ∧ Aside0 (i + kq = x4.f3.length) ∧ i ≤ x4.f3.length ∧ Aside0 (sumA n (x4.f3.drop i) = TA) ∧ Aside0 (Below w5.heap.size w5 w') ∧ Aside0 (w'.heap[w.heap.size]? = some (.cells #[.int .i64 a0_0, .slice A0_1 l0_1.length c0_1, .slice A0_2 l0_2.length c0_2, .slice A0_3 l0_3.length c0_3, .slice (some ad4) l0_4.length c0_4] 26 (0, 0))) ∧ Aside0 (Below w.heap.size w w'))
          case atStart => exact ⟨0, _, rfl, rfl, ⟨by omega⟩, Nat.zero_le _, HTB, HB5, BK0, HB⟩
          case round =>
          clear HTB HB5 BK0 HB
          obtain ⟨i6, n6, rfl, rfl, HK6, hi6, HF6, HB5, BK0, HB⟩ := hrel
          by_cases hlt6 : i6 < x4.f3.length
          · have hlt' : decide ((i6 : Int) < (x4.f3.length : Int)) = true := by simpa using hlt6
            obtain ⟨kk6, rfl⟩ : ∃ m, gk = m + 1 := ⟨gk - 1, by have := HK6.out; omega⟩
            have p101 : 0 ≤ (i6 : Int) := Int.natCast_nonneg i6
            have q101 : (i6 : Int) < (x4.f3.length : Int) := by omega
            obtain ⟨x6, hx6⟩ : ∃ x, x = x4.f3[i6] := ⟨_, rfl⟩
            have hdr : x4.f3.drop i6 = x6 :: x4.f3.drop (i6 + 1) := by rw [List.drop_eq_getElem_cons hlt6, hx6]
            have HFx := Aside0.mk (show sumA (stepA n6 x6) (x4.f3.drop (i6 + 1)) = TA by have h := HF6.out; rw [hdr] at h; exact h)
            have Hw6 : Aside0 (wrap64 ((i6 : Int) + 1) = (i6 : Int) + 1) := ⟨by have h := (Kd.C_below HI3.out HB5.out).2.1; exact wrap64_id (by omega) (by omega)⟩
            obtain ⟨ad6, A6_3, c6_3, e101, h6_0, h6_1, h6_2, h6_3, hl6_3, hi6_3⟩ := at_T35 (Kd.C_below HI3.out HB5.out) (i6 : Int) p101 q101
            cases e101
            rw [Int.toNat_natCast] at h6_0 h6_1 h6_2 h6_3
            have hr : rd_T35 x4.f3 (i6 : Int) = x6 := by rw [hx6]; simp [rd_T35, hlt6]
            rw [hr] at h6_0 h6_1 h6_2 h6_3 hl6_3 hi6_3
            clear HF6 hdr hr hx6
            have HF6 := HFx
            clear HFx
            replace p101 := eq_true p101
            replace q101 := eq_true q101
            go_wp2_with (first | (fail))
            go_roundg kk6
            case measure => have := HK6.out; omega
            case rel => exact ⟨i6 + 1, _, rfl, by rw [Hw6.out]; rfl, ⟨by have := HK6.out; omega⟩, by omega, HF6, ⟨below_alloc HB5.out _⟩, ⟨blk_alloc BK0.out _⟩, ⟨below_alloc HB.out _⟩⟩
          · have hlt' : decide ((i6 : Int) < (x4.f3.length : Int)) = false := by simpa using hlt6
            have HN := Aside0.mk (show n6 = TA by have h := HF6.out; rw [List.drop_of_length_le (by omega)] at h; exact h)
            go_wp2_with (first | (fail))
            go_roundg kk4
            case measure => have := HK4.out; omega
            case rel => exact ⟨i4 + 1, _, rfl, by rw [Hw4.out]; rfl, ⟨by have := HK4.out; omega⟩, by omega, ⟨by rw [HN.out]; exact HFD.out⟩, BK0, HB⟩
      · have hlt' : decide ((i4 : Int) < (l0_4.length : Int)) = false := by simpa using hlt4
        have HN := Aside0.mk (show n4 = T4 by have h := HF4.out; rw [List.drop_of_length_le (by omega)] at h; exact h)
        have HD := Aside0.mk (show decide (n4 ≤ 6000) = decide (T4 ≤ 6000) by rw [HN.out])
        go_wp2_with (first | (fail))
        go_ret
        exact ⟨by rw [← HD.out]; rfl, HB.out⟩
end Go.Proofs.Ytdemgfbolcmcdaa.X
