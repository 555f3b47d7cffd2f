import Derived.Test.YtpojamikfcmnoaaMTensorTells2
import Derived.Shelf.Strings.Builder1
import Derived.Deep.RegionHeld3
import Derived.WalkLawsBesides
import Derived.Test.YtpojamikfcmnoaaMTensorTells9
import Derived.Test.YtpojamikfcmnoaaMTensorTells3
import Derived.Test.YtpojamikfcmnoaaMTensorTells6
namespace Go.Proofs.Ytpojamikfcmnoaa.X
open Go.RowKit Go.Proofs.YtpojamikfcmnoaaW.PrintWords Go.Proofs.YtpojamikfcmnoaaW.PrintLast Go.Proofs.YtpojamikfcmnoaaW.PrintMore
attribute [local go_sem] max2_int min2_int max_two min_two max_three min_three max_four min_four
set_option linter.unusedVariables false
set_option linter.unusedSimpArgs false
def Sh.lays166_ren : Go.Shelf.Ren := ⟨fun | 166 => 87 | 240 => 92 | 276 => 96 | n => n, fun | 0 => 0 | 3 => 3 | 4 => 4 | 5 => 5 | 9 => 9 | 20 => 20 | 37 => 109 | 70 => 124 | 72 => 126 | 75 => 128 | 80 => 119 | 164 => 137 | n => n, fun | n => n⟩
theorem Sh.lays166 : Go.Proofs.Lays.n166 Try.prog Sh.lays166_ren := {
  mixed := by kernel_rfl
  f166 := Try.func87.trans (congrArg some (by kernel_rfl))
  f240 := Try.func92.trans (congrArg some (by kernel_rfl))
  f276 := Try.func96.trans (congrArg some (by kernel_rfl))
  t0 := Try.underlying0
  a0 := Try.isAgg0
  z0 := Try.sizeOf0
  v0 := Try.zeroValue0
  t3 := Try.underlying3
  a3 := Try.isAgg3
  z3 := Try.sizeOf3
  v3 := Try.zeroValue3
  t4 := Try.underlying4
  a4 := Try.isAgg4
  z4 := Try.sizeOf4
  v4 := Try.zeroValue4
  t9 := Try.underlying9
  a9 := Try.isAgg9
  z9 := Try.sizeOf9
  v9 := Try.zeroValue9
  t20 := Try.underlying20
  a20 := Try.isAgg20
  z20 := Try.sizeOf20
  v20 := Try.zeroValue20
  t37 := Try.underlying109
  a37 := Try.isAgg109
  z37 := Try.sizeOf109
  v37 := Try.zeroValue109
  t70 := Try.underlying124
  a70 := Try.isAgg124
  z70 := Try.sizeOf124
  v70 := Try.zeroValue124
  t72 := Try.underlying126
  a72 := Try.isAgg126
  z72 := Try.sizeOf126
  v72 := Try.zeroValue126
  t75 := Try.underlying128
  a75 := Try.isAgg128
  z75 := Try.sizeOf128
  v75 := Try.zeroValue128
  t164 := Try.underlying137
  a164 := Try.isAgg137
  z164 := Try.sizeOf137
  v164 := Try.zeroValue137 }
theorem Sh.Builder_Extra_166 : Go.Proofs.Builder.Extra Try.prog Sh.lays166_ren := {
  sizeBuilder := by kernel_rfl
  liesBuilder := by kernel_rfl
  t5 := Try.underlying5
  a5 := Try.isAgg5
  z5 := Try.sizeOf5
  v5 := Try.zeroValue5
  infoByte := by kernel_rfl
  cellsByte := by kernel_rfl
  sizeByte := by kernel_rfl
  neB5 := by decide }
theorem Sh.WriteString (B b : Nat) (bs : List Value) (s : ByteArray) (w : World) (h : Lib.IsBuilder 126 5 B b bs w) (hlen : bs.length + s.size ≤ 140737488355328) (hBw : B ≤ w.heap.size) :
    Calls Try.prog 87 #[.pointer (some ⟨b, 0, none⟩), .string s] w fun e w' => e = .returned (.tuple #[.int .i64 s.size, .nilIface]) ∧ (Lib.BuilderAt 126 5 B b (.pointer (some ⟨b, 0, none⟩)) (bs ++ Lib.strCells s) w' ∧ Below B w w') :=
  Go.Proofs.Any.Builder_WriteString Sh.lays166 Sh.Builder_Extra_166 B b bs s w h hlen hBw
theorem builderAt_below {T e : TypeId} {B b : Nat} {p : Value} {bs : List Value} {w w1 : World} (h : Lib.BuilderAt T e B b p bs w) (hb : Below w.heap.size w w1) : Lib.BuilderAt T e B b p bs w1 := by
  have hlt := h.lt
  obtain ⟨hB, v, hbk, hown, hne⟩ := h
  exact ⟨hB, v, (hb.block b hlt).trans hbk, own_move hown (fun k hk => hb.block k (own_lt hown k hk)), hne⟩
theorem isBuilder_below {T e : TypeId} {B b : Nat} {bs : List Value} {w w1 : World} (h : Lib.IsBuilder T e B b bs w) (hb : Below w.heap.size w w1) : Lib.IsBuilder T e B b bs w1 := by
  rcases h with h | h
  · exact .inl (builderAt_below h hb)
  · exact .inr (builderAt_below h hb)
theorem byteCells_append (a b : ByteArray) : Lib.byteCells a.data.toList ++ Lib.strCells b = Lib.byteCells (a ++ b).data.toList := by
  simp [Lib.byteCells, Lib.strCells, ByteArray.data_append]
end Go.Proofs.Ytpojamikfcmnoaa.X
namespace Go.Proofs.Ytpojamikfcmnoaa.X
open Go.RowKit Go.Proofs.YtpojamikfcmnoaaW.PrintWords Go.Proofs.YtpojamikfcmnoaaW.PrintLast Go.Proofs.YtpojamikfcmnoaaW.PrintMore
attribute [local go_sem] max2_int min2_int max_two min_two max_three min_three max_four min_four
set_option linter.unusedVariables false
set_option linter.unusedSimpArgs false
theorem builder_lies {B b : Nat} {l : List UInt8} {w : World} (h : Lib.IsBuilder 126 5 B b (Lib.byteCells l) w) (h0 : l ≠ []) :
    ∃ p g cap cur, B ≤ g ∧ g < w.heap.size ∧ b < w.heap.size ∧ w.heap[b]? = some (.cells #[p, .slice (some ⟨g, 0, none⟩) l.length cap] 126 (0, 0)) ∧ w.heap[g]? = some (.cells cur 5 (0, 0)) ∧ l.length ≤ cap ∧ cap ≤ maxLen ∧ cur.size = cap ∧ cur.toList.take l.length = Lib.byteCells l := by
  obtain ⟨p, hB, v, hbk, hown, hne⟩ : ∃ p, Lib.BuilderAt 126 5 B b p (Lib.byteCells l) w := by
    rcases h with h | h
    · exact ⟨_, h⟩
    · exact ⟨_, h⟩
  have hl0 : l.length ≠ 0 := by simpa using h0
  rw [Lib.byteCells_length] at hown
  rcases hown.2 with ⟨_, hz⟩ | ⟨g, cap, cur, rfl, hbg, hg, hnc, hcm, hcs, ht⟩
  · exact absurd hz hl0
  · rw [Nat.mul_one] at hcs ht
    exact ⟨p, g, cap, cur, hbg, blk_lt hg, blk_lt hbk, hbk, hg, hnc, hcm, hcs, ht⟩
theorem byte_cell {l : List UInt8} {cur : Array Value} {w : World} {g : Nat} (hg : w.heap[g]? = some (.cells cur 5 (0, 0))) (ht : cur.toList.take l.length = Lib.byteCells l) : ∀ j x, l[j]? = some x → w.cell? ((⟨g, 0, none⟩ : Addr).add j) = some (.int .u8 x.toNat) := by
  intro j x hx
  have hj : j < l.length := (List.getElem?_eq_some_iff.1 hx).1
  have h1 : (Lib.byteCells l)[j]? = some (.int .u8 x.toNat) := by simp [Lib.byteCells, hx]
  rw [← ht, List.getElem?_take] at h1
  rw [if_pos hj, Array.getElem?_toList] at h1
  have h2 : w.cell? ⟨g, j, none⟩ = cur[j]? := blk_cell hg j
  rw [← h1, ← h2]
  unfold Addr.add
  split
  · rename_i h0; subst h0; rfl
  · simp
theorem freeze_kept (w : World) (g n : Nat) : Kept w (w.drew.freeze ⟨g, 0, none⟩ n) (fun k => k = g) := by
  unfold World.freeze
  split
  · exact ⟨Nat.le_refl _, fun _ _ _ => rfl⟩
  · refine ⟨by show w.heap.size ≤ (w.heap.modify _ _).size; rw [Array.size_modify]; exact Nat.le_refl _, fun i hi hne => ?_⟩
    show (w.heap.modify g _)[i]? = _
    rw [Array.getElem?_modify]
    rw [if_neg (fun e => hne e.symm)]
set_option maxHeartbeats 4000000 in
set_option maxRecDepth 100000 in
theorem sh_String.calls (b g cap : Nat) (p : Value) (cur : Array Value) (l : List UInt8) (w : World) (h0 : l ≠ []) (hb : w.heap[b]? = some (.cells #[p, .slice (some ⟨g, 0, none⟩) l.length cap] 126 (0, 0))) (hg : w.heap[g]? = some (.cells cur 5 (0, 0))) (hnc : l.length ≤ cap) (hcm : cap ≤ maxLen) (hcs : cur.size = cap) (ht : cur.toList.take l.length = Lib.byteCells l) :
    Calls Try.prog 89 #[.pointer (some ⟨b, 0, none⟩)] w fun e w' => e = .returned (.string ⟨l.toArray⟩) ∧ w' = w.drew.freeze ⟨g, 0, none⟩ l.length := by
  have hl0 : l.length ≠ 0 := by simpa using h0
  have c1 : w.drew.cell? ⟨b, 1, none⟩ = some (.slice (some ⟨g, 0, none⟩) l.length cap) := (blk_cell (w := w.drew) hb 1).trans rfl
  have q1 : (Builtin.unsafeSliceData_ #[109] 135 #[.slice (some ⟨g, 0, none⟩) l.length cap]).run Try.prog w.drew = .ok (.pointer (some ⟨g, 0, none⟩)) w.drew :=
    Lib.run_unsafeSliceData_row _ _ _ _ _ _ (by omega)
  have q2 : (Builtin.unsafeString_ #[135, 3] 9 #[.pointer (some ⟨g, 0, none⟩), .int .i64 l.length]).run Try.prog w.drew = .ok (.string ⟨l.toArray⟩) (w.drew.freeze ⟨g, 0, none⟩ l.length) :=
    Lib.run_unsafeString_row w.drew 135 3 9 5 Try.underlying135 (by kernel_rfl) g cur.size (by have hg' : w.drew.heap[g]? = some (.cells cur 5 (0, 0)) := hg; simp [World.shape?, hg']) l h0 (by omega) (by unfold maxLen at hcm; omega) (byte_cell (w := w.drew) hg ht)
  have hne : b ≠ g := blk_ne hb hg (by decide)
  have q3 : (w.drew.freeze ⟨g, 0, none⟩ l.length).cell? ⟨b, 1, none⟩ = some (.slice (some ⟨g, 0, none⟩) l.length cap) := (blk_cell (((freeze_kept w g l.length).2 b (blk_lt hb) hne).trans hb) 1).trans rfl
  clear hb hg hcs ht hnc hcm hne
  go_enter Try.func89, Try.ntmps89
  go_wp2
  go_region_held3 (fun w' => w'.cell? ⟨b, 1, none⟩ = some (.slice (some ⟨g, 0, none⟩) l.length cap)) (go_keep) (first | (fail))
  all_goals (go_wp2; go_ret; exact ⟨rfl, rfl⟩)
end Go.Proofs.Ytpojamikfcmnoaa.X
namespace Go.Proofs.Ytpojamikfcmnoaa.X
open Go.RowKit Go.Proofs.YtpojamikfcmnoaaW.PrintWords Go.Proofs.YtpojamikfcmnoaaW.PrintLast Go.Proofs.YtpojamikfcmnoaaW.PrintMore
attribute [local go_sem] max2_int min2_int max_two min_two max_three min_three max_four min_four
set_option linter.unusedVariables false
set_option linter.unusedSimpArgs false
def by8 (n : Int) (j : Nat) : Int := IntKind.u64.wrap n / 256 ^ j % 256
def laid8 (n : Int) : ByteArray := strOfNums [by8 n 0, by8 n 1, by8 n 2, by8 n 3, by8 n 4, by8 n 5, by8 n 6, by8 n 7]
def arr8 (n : Int) (i : Nat) : Array Value := #[.int .u8 (if 0 < i then by8 n 0 else 0), .int .u8 (if 1 < i then by8 n 1 else 0), .int .u8 (if 2 < i then by8 n 2 else 0), .int .u8 (if 3 < i then by8 n 3 else 0), .int .u8 (if 4 < i then by8 n 4 else 0), .int .u8 (if 5 < i then by8 n 5 else 0), .int .u8 (if 6 < i then by8 n 6 else 0), .int .u8 (if 7 < i then by8 n 7 else 0)]
theorem arr8_string (n : Int) {W : World} {g : Nat} (h : W.heap[g]? = some (.cells (arr8 n 8) 132 (0, 0))) : (convert 109 9 (.slice (some ⟨g, 0, none⟩) 8 8)).run Try.prog W = .ok (.string (laid8 n)) W := by
  refine string_of_reads Try.underlying109 Try.underlying5 Try.underlying9 ⟨rfl, by decide, fun _ => ⟨_, rfl, ?_⟩⟩
  intro j hj
  have hc : ∀ i, W.cell? ⟨g, i, none⟩ = (arr8 n 8)[i]? := fun i => blk_cell h i
  have : j = 0 ∨ j = 1 ∨ j = 2 ∨ j = 3 ∨ j = 4 ∨ j = 5 ∨ j = 6 ∨ j = 7 := by omega
  rcases this with rfl | rfl | rfl | rfl | rfl | rfl | rfl | rfl <;> simp [Addr.add, hc, arr8]
set_option maxHeartbeats 8000000 in
theorem tensor_laid.calls (n : Int) (w : World) :
    Calls Try.prog 77 #[.int .i64 n] w fun e w' => e = .returned (.string (laid8 n)) ∧ Below w.heap.size w w' := by
  go_enter Try.func77, Try.ntmps77
  go_wp2
  have HBk := Aside0.mk (show (w.alloc (Obj.cells #[.int .u8 0, .int .u8 0, .int .u8 0, .int .u8 0, .int .u8 0, .int .u8 0, .int .u8 0, .int .u8 0] 132)).heap[w.heap.size]? = some (.cells (arr8 n 0) 132 (0, 0)) from blk_new w _)
  have HB := Aside0.mk (below_alloc (Below.refl w.heap.size w) (Obj.cells #[.int .u8 0, .int .u8 0, .int .u8 0, .int .u8 0, .int .u8 0, .int .u8 0, .int .u8 0, .int .u8 0] 132))
  go_loopg [5] 8 (fun kq v5 w' => ∃ i : Nat, v5 = .int .i64 i ∧ Aside0 (i + kq = 8) ∧ i ≤ 8 ∧ Aside0 (w'.heap[w.heap.size]? = some (.cells (arr8 n i) 132 (0, 0))) ∧ Aside0 (Below w.heap.size w w'))
  case atStart => exact ⟨0, rfl, ⟨by omega⟩, Nat.zero_le _, HBk, HB⟩
  case round =>
    clear HBk HB
    obtain ⟨i, rfl, HK, hi, HBk, HB⟩ := hrel
    have h5 : i = 0 ∨ i = 1 ∨ i = 2 ∨ i = 3 ∨ i = 4 ∨ i = 5 ∨ i = 6 ∨ i = 7 ∨ i = 8 := by omega
    rcases h5 with rfl | rfl | rfl | rfl | rfl | rfl | rfl | rfl | rfl
    · obtain ⟨kk, rfl⟩ : ∃ m, gk = m + 1 := ⟨gk - 1, by have := HK.out; omega⟩
      have c0 : wr.cell? ⟨w.heap.size, 0, none⟩ = some (.int .u8 0) := (blk_cell HBk.out 0).trans rfl
      have f0 := blk_frozen HBk.out 0
      go_wp2_with (first | (fail))
      go_roundg kk
      case measure => have := HK.out; omega
      case rel => exact ⟨1, rfl, ⟨by have := HK.out; omega⟩, by omega, ⟨(blk_put HBk.out 0 _ rfl).trans (by simp [arr8, by8])⟩, ⟨below_set HB.out (Nat.le_refl _)⟩⟩
    · obtain ⟨kk, rfl⟩ : ∃ m, gk = m + 1 := ⟨gk - 1, by have := HK.out; omega⟩
      have c0 : wr.cell? ⟨w.heap.size, 1, none⟩ = some (.int .u8 0) := (blk_cell HBk.out 1).trans rfl
      have f0 := blk_frozen HBk.out 1
      go_wp2_with (first | (fail))
      go_roundg kk
      case measure => have := HK.out; omega
      case rel => exact ⟨2, rfl, ⟨by have := HK.out; omega⟩, by omega, ⟨(blk_put HBk.out 1 _ rfl).trans (by simp [arr8, by8])⟩, ⟨below_set HB.out (Nat.le_refl _)⟩⟩
    · obtain ⟨kk, rfl⟩ : ∃ m, gk = m + 1 := ⟨gk - 1, by have := HK.out; omega⟩
      have c0 : wr.cell? ⟨w.heap.size, 2, none⟩ = some (.int .u8 0) := (blk_cell HBk.out 2).trans rfl
      have f0 := blk_frozen HBk.out 2
      go_wp2_with (first | (fail))
      go_roundg kk
      case measure => have := HK.out; omega
      case rel => exact ⟨3, rfl, ⟨by have := HK.out; omega⟩, by omega, ⟨(blk_put HBk.out 2 _ rfl).trans (by simp [arr8, by8])⟩, ⟨below_set HB.out (Nat.le_refl _)⟩⟩
    · obtain ⟨kk, rfl⟩ : ∃ m, gk = m + 1 := ⟨gk - 1, by have := HK.out; omega⟩
      have c0 : wr.cell? ⟨w.heap.size, 3, none⟩ = some (.int .u8 0) := (blk_cell HBk.out 3).trans rfl
      have f0 := blk_frozen HBk.out 3
      go_wp2_with (first | (fail))
      go_roundg kk
      case measure => have := HK.out; omega
      case rel => exact ⟨4, rfl, ⟨by have := HK.out; omega⟩, by omega, ⟨(blk_put HBk.out 3 _ rfl).trans (by simp [arr8, by8])⟩, ⟨below_set HB.out (Nat.le_refl _)⟩⟩
    · obtain ⟨kk, rfl⟩ : ∃ m, gk = m + 1 := ⟨gk - 1, by have := HK.out; omega⟩
      have c0 : wr.cell? ⟨w.heap.size, 4, none⟩ = some (.int .u8 0) := (blk_cell HBk.out 4).trans rfl
      have f0 := blk_frozen HBk.out 4
      go_wp2_with (first | (fail))
      go_roundg kk
      case measure => have := HK.out; omega
      case rel => exact ⟨5, rfl, ⟨by have := HK.out; omega⟩, by omega, ⟨(blk_put HBk.out 4 _ rfl).trans (by simp [arr8, by8])⟩, ⟨below_set HB.out (Nat.le_refl _)⟩⟩
    · obtain ⟨kk, rfl⟩ : ∃ m, gk = m + 1 := ⟨gk - 1, by have := HK.out; omega⟩
      have c0 : wr.cell? ⟨w.heap.size, 5, none⟩ = some (.int .u8 0) := (blk_cell HBk.out 5).trans rfl
      have f0 := blk_frozen HBk.out 5
      go_wp2_with (first | (fail))
      go_roundg kk
      case measure => have := HK.out; omega
      case rel => exact ⟨6, rfl, ⟨by have := HK.out; omega⟩, by omega, ⟨(blk_put HBk.out 5 _ rfl).trans (by simp [arr8, by8])⟩, ⟨below_set HB.out (Nat.le_refl _)⟩⟩
    · obtain ⟨kk, rfl⟩ : ∃ m, gk = m + 1 := ⟨gk - 1, by have := HK.out; omega⟩
      have c0 : wr.cell? ⟨w.heap.size, 6, none⟩ = some (.int .u8 0) := (blk_cell HBk.out 6).trans rfl
      have f0 := blk_frozen HBk.out 6
      go_wp2_with (first | (fail))
      go_roundg kk
      case measure => have := HK.out; omega
      case rel => exact ⟨7, rfl, ⟨by have := HK.out; omega⟩, by omega, ⟨(blk_put HBk.out 6 _ rfl).trans (by simp [arr8, by8])⟩, ⟨below_set HB.out (Nat.le_refl _)⟩⟩
    · obtain ⟨kk, rfl⟩ : ∃ m, gk = m + 1 := ⟨gk - 1, by have := HK.out; omega⟩
      have c0 : wr.cell? ⟨w.heap.size, 7, none⟩ = some (.int .u8 0) := (blk_cell HBk.out 7).trans rfl
      have f0 := blk_frozen HBk.out 7
      go_wp2_with (first | (fail))
      go_roundg kk
      case measure => have := HK.out; omega
      case rel => exact ⟨8, rfl, ⟨by have := HK.out; omega⟩, by omega, ⟨(blk_put HBk.out 7 _ rfl).trans (by simp [arr8, by8])⟩, ⟨below_set HB.out (Nat.le_refl _)⟩⟩
    · have r3 := arr8_string n HBk.out
      go_wp2_with (first | (fail))
      go_ret
      exact ⟨rfl, HB.out⟩
end Go.Proofs.Ytpojamikfcmnoaa.X
namespace Go.Proofs.Ytpojamikfcmnoaa.X
open Go.RowKit Go.Proofs.YtpojamikfcmnoaaW.PrintWords Go.Proofs.YtpojamikfcmnoaaW.PrintLast Go.Proofs.YtpojamikfcmnoaaW.PrintMore
attribute [local go_sem] max2_int min2_int max_two min_two max_three min_three max_four min_four
set_option linter.unusedVariables false
set_option linter.unusedSimpArgs false
def catLaid : List Int → ByteArray
  | [] => ⟨#[]⟩
  | x :: l => laid8 x ++ catLaid l
theorem catLaid_snoc (l : List Int) (x : Int) : catLaid (l ++ [x]) = catLaid l ++ laid8 x := by
  induction l with
  | nil => apply ByteArray.ext; simp [catLaid, ByteArray.data_append]
  | cons y l ih => rw [List.cons_append, catLaid, ih, catLaid, ByteArray.append_assoc]
theorem laid8_size (n : Int) : (laid8 n).size = 8 := strOfNums_size _
theorem catLaid_size (l : List Int) : (catLaid l).size = 8 * l.length := by
  induction l with
  | nil => rfl
  | cons x l ih => rw [catLaid, ByteArray.size_append, ih, laid8_size, List.length_cons]; omega
theorem alloc_size (w : World) (o : Obj) : (w.alloc o).heap.size = w.heap.size + 1 := Array.size_push _
theorem below_low {b B : Nat} {w w1 : World} (h : Below B w w1) (hb : b ≤ B) : Below b w w1 := ⟨h.os, h.tape, h.output, h.size, fun i hi => h.block i (by omega)⟩
set_option maxHeartbeats 8000000 in
set_option maxRecDepth 100000 in
theorem of_ints.calls (name : ByteArray) (k : Int) (A0 : Option Addr) (c0 : Nat) (l0 : List Int) (A1 : Option Addr) (c1 : Nat) (l1 : List Int) (w : World) (hr0 : Kd.C (Kd.int .i64) w A0 l0.length l0) (hc0 : l0.length ≤ c0) (hr1 : Kd.C (Kd.int .i64) w A1 l1.length l1) (hc1 : l1.length ≤ c1) (hl0 : l0.length ≤ 1000000) (hl1 : l1.length ≤ 1000000) (hn1 : l1 ≠ []) :
    Calls Try.prog 76 #[.string name, .int .i64 k, .slice A0 l0.length c0, .slice A1 l1.length c1, .func (Fn.func 77) #[] #[]] w fun e w' => ∃ v2_, e = .returned (.agg #[.string name, .int .i64 k, v2_, .string (catLaid l1)]) ∧ Kd.R (Kd.int .i64) 2 w' w.heap.size (fun k_ => w.heap.size ≤ k_) v2_ l0 ∧ Below w.heap.size w w' := by
  have HR0 := Aside0.mk hr0
  have HC0 := Aside0.mk hc0
  have HL0 := Aside0.mk hl0
  have HR1 := Aside0.mk hr1
  have HC1 := Aside0.mk hc1
  have HL := Aside0.mk hl1
  clear hr0 hc0 hl0 hr1 hc1 hl1
  go_enter Try.func76, Try.ntmps76
  go_wp2
  have HRb := Aside0.mk (show ((w.alloc (Obj.cells #[Value.string { data := #[] }, Value.int IntKind.i64 0, Value.slice none 0 0, Value.string { data := #[] }] 62)).alloc (Obj.cells #[Value.pointer none, Value.slice none 0 0] 126)).heap[w.heap.size]? = some (Obj.cells #[Value.string { data := #[] }, Value.int IntKind.i64 0, Value.slice none 0 0, Value.string { data := #[] }] 62) from blk_alloc (blk_new w _) _)
  have HB := Aside0.mk (below_alloc (below_alloc (Below.refl w.heap.size w) (Obj.cells #[Value.string { data := #[] }, Value.int IntKind.i64 0, Value.slice none 0 0, Value.string { data := #[] }] 62)) (Obj.cells #[Value.pointer none, Value.slice none 0 0] 126))
  have HI : Aside0 (Lib.IsBuilder 126 5 (w.heap.size + 1) (w.heap.size + 1) (Lib.byteCells (catLaid (l1.take 0)).data.toList) ((w.alloc (Obj.cells #[Value.string { data := #[] }, Value.int IntKind.i64 0, Value.slice none 0 0, Value.string { data := #[] }] 62)).alloc (Obj.cells #[Value.pointer none, Value.slice none 0 0] 126))) := ⟨by
    have h := Lib.fresh_isBuilder 126 5 (w.alloc (Obj.cells #[Value.string { data := #[] }, Value.int IntKind.i64 0, Value.slice none 0 0, Value.string { data := #[] }] 62))
    have e : (w.alloc (Obj.cells #[Value.string { data := #[] }, Value.int IntKind.i64 0, Value.slice none 0 0, Value.string { data := #[] }] 62)).heap.size = w.heap.size + 1 := alloc_size _ _
    rw [e] at h
    exact h⟩
  go_loopg [16] l1.length (fun kq v16 w' => ∃ i : Nat, v16 = .int .i64 i ∧ Aside0 (i + kq = l1.length) ∧ i ≤ l1.length ∧ Aside0 (Lib.IsBuilder 126 5 (w.heap.size + 1) (w.heap.size + 1) (Lib.byteCells (catLaid (l1.take i)).data.toList) w') ∧ Aside0 (w'.heap[w.heap.size]? = some (Obj.cells #[Value.string { data := #[] }, Value.int IntKind.i64 0, Value.slice none 0 0, Value.string { data := #[] }] 62)) ∧ Aside0 (w.heap.size + 1 ≤ w'.heap.size) ∧ Aside0 (Below w.heap.size w w'))
  case atStart => exact ⟨0, rfl, ⟨by omega⟩, Nat.zero_le _, HI, HRb, ⟨by rw [alloc_size, alloc_size]; omega⟩, HB⟩
  case round =>
    clear HRb HB HI
    obtain ⟨i, rfl, HK, hi, HI, HRb, HS, HB⟩ := hrel
    by_cases hlt : i < l1.length
    · have hlt' : decide ((i : Int) < (l1.length : Int)) = true := by simpa using hlt
      obtain ⟨kk, rfl⟩ : ∃ m, gk = m + 1 := ⟨gk - 1, by have := HK.out; omega⟩
      have Hcat : Aside0 (Lib.byteCells (catLaid (l1.take i)).data.toList ++ Lib.strCells (laid8 (rd l1 i)) = Lib.byteCells (catLaid (l1.take (i + 1))).data.toList) := ⟨by
        rw [byteCells_append, List.take_succ_eq_append_getElem hlt, catLaid_snoc]
        simp [rd, List.getD_eq_getElem?_getD, hlt]⟩
      have Hlen : Aside0 ((Lib.byteCells (catLaid (l1.take i)).data.toList).length + (laid8 (rd l1 i)).size ≤ 140737488355328) := ⟨by
        have h1 := catLaid_size (l1.take i)
        have h3 : (Lib.byteCells (catLaid (l1.take i)).data.toList).length = (catLaid (l1.take i)).size := by simp [Lib.byteCells]
        have h4 := HL.out
        rw [List.length_take] at h1
        rw [laid8_size, h3]
        omega⟩
      have Hw : Aside0 (wrap64 ((i : Int) + 1) = (i : Int) + 1) := ⟨by have := HL.out; exact wrap64_id (by omega) (by omega)⟩
      have p101 : 0 ≤ (i : Int) := Int.natCast_nonneg i
      have q101 : (i : Int) < (l1.length : Int) := by omega
      obtain ⟨ad101, e101, hx101_0⟩ := Kd.at_int HR1.out i p101 q101
      cases e101
      replace hx101_0 := (HB.out.cell (World.block_lt_of_cell? w _ hx101_0)).trans hx101_0
      rw [Int.toNat_natCast] at hx101_0
      replace p101 := eq_true p101
      replace q101 := eq_true q101
      go_wp2_with (first | (fail))
      refine (tensor_laid.calls (rd l1 i) _).mono ?_
      rintro e w8 ⟨rfl, hb⟩
      have n0_ := Aside0.mk (below_step HB.out hb)
      have n1_ := Aside0.mk (isBuilder_below HI.out hb)
      have n2_ := Aside0.mk (blk_below HRb.out hb)
      have n3_ := Aside0.mk (Nat.le_trans HS.out hb.size)
      clear HB HI HRb HS hb
      have HB := n0_; have HI := n1_; have HRb := n2_; have HS := n3_
      clear n0_ n1_ n2_ n3_
      go_wp2_with (first | (fail))
      refine (Sh.WriteString (w.heap.size + 1) (w.heap.size + 1) _ (laid8 (rd l1 i)) _ HI.out Hlen.out HS.out).mono ?_
      rintro e w9 ⟨rfl, hi8, hb⟩
      have n0_ := Aside0.mk (HB.out.trans (below_low hb (Nat.le_succ _)))
      have n1_ := Aside0.mk (show Lib.IsBuilder 126 5 (w.heap.size + 1) (w.heap.size + 1) _ w9 from .inr hi8)
      have n2_ := Aside0.mk ((hb.block w.heap.size (Nat.lt_succ_self _)).trans HRb.out)
      have n3_ := Aside0.mk (Nat.le_trans HS.out hb.size)
      clear HB HI HRb HS hb hi8
      have HB := n0_; have HI := n1_; have HRb := n2_; have HS := n3_
      clear n0_ n1_ n2_ n3_
      go_wp2_with (first | (fail))
      go_roundg kk
      case measure => have := HK.out; omega
      case rel => exact ⟨i + 1, by rw [Hw.out]; rfl, ⟨by have := HK.out; omega⟩, by omega, ⟨by rw [← Hcat.out]; exact HI.out⟩, HRb, HS, HB⟩
    · have hlt' : decide ((i : Int) < (l1.length : Int)) = false := by simpa using hlt
      have Hi : Aside0 (l1.take i = l1) := ⟨List.take_of_length_le (by omega)⟩
      have HI2 : Aside0 (Lib.IsBuilder 126 5 (w.heap.size + 1) (w.heap.size + 1) (Lib.byteCells (catLaid l1).data.toList) wr) := ⟨by have := HI.out; rw [Hi.out] at this; exact this⟩
      have hne : (catLaid l1).data.toList ≠ [] := by
        intro e
        have h1 := catLaid_size l1
        have h2 : (catLaid l1).size = (catLaid l1).data.toList.length := (Array.length_toList).symm
        rw [e] at h2
        have h3 : l1.length ≠ 0 := fun h => hn1 (List.eq_nil_of_length_eq_zero h)
        rw [List.length_nil] at h2
        omega
      obtain ⟨p, g, cap, cur, hBg, hgl, hbl, hbk, hg, hnc, hcm, hcs, ht⟩ := builder_lies HI2.out hne
      have HBK := Aside0.mk hbk
      have HG := Aside0.mk hg
      have HT := Aside0.mk (And.intro hnc (And.intro hcm (And.intro hcs ht)))
      have HGL := Aside0.mk hgl
      have HBL := Aside0.mk hbl
      have HBG := Aside0.mk hBg
      have HNE := Aside0.mk hne
      clear hbk hg hnc hcm hcs ht hgl hbl hBg hne HI HI2
      have hlt2 : w.heap.size < wr.heap.size := by have := HS.out; omega
      go_wp2_with (first | (fail))
      refine (slices_Clone_int64.calls A0 c0 l0 l0 _ (Kd.C_below HR0.out HB.out) HC0.out (if_pos (by have := HL0.out; omega))).mono ?_
      rintro e w8 ⟨v2, rfl, hR, hb⟩
      obtain ⟨A2, c2, rfl⟩ := Kd.R_slice hR
      have n0_ := Aside0.mk (below_step HB.out hb)
      have n1_ := Aside0.mk (blk_below HRb.out hb)
      have n2_ := Aside0.mk (blk_below HBK.out hb)
      have n3_ := Aside0.mk (blk_below HG.out hb)
      have HO := Aside0.mk (Kd.R_lower hR (below_size HB.out))
      clear HB HRb HBK HG hb hR
      have HB := n0_; have HRb := n1_; have HBK := n2_; have HG := n3_
      clear n0_ n1_ n2_ n3_
      go_wp2_with (first | (fail))
      refine (sh_String.calls (w.heap.size + 1) g cap p cur _ _ HNE.out HBK.out HG.out HT.out.1 HT.out.2.1 HT.out.2.2.1 HT.out.2.2.2).mono ?_
      rintro e w9 ⟨rfl, hw9⟩
      have hk := freeze_kept w8 g (catLaid l1).data.toList.length
      rw [← hw9] at hk
      have n0_ := Aside0.mk (show Below w.heap.size w w9 by rw [hw9]; exact Lib.below_freeze (below_drew1 HB.out) (p := ⟨g, 0, none⟩) (by have := HBG.out; show w.heap.size ≤ g; omega) _)
      have n1_ := Aside0.mk ((hk.2 w.heap.size (blk_lt HRb.out) (by have := HBG.out; omega)).trans HRb.out)
      have HO2 := Aside0.mk (Kd.R_kept HO.out hk (fun k hk1 hk2 => by have := HGL.out; omega))
      clear HB HRb HO hk hw9 HBK HG
      have HB := n0_; have HRb := n1_
      clear n0_ n1_
      have cR0 : w9.cell? ⟨w.heap.size, 0, none⟩ = some (.string ⟨#[]⟩) := (blk_cell HRb.out 0).trans rfl
      have cR1 : w9.cell? ⟨w.heap.size, 1, none⟩ = some (.int .i64 0) := (blk_cell HRb.out 1).trans rfl
      have cR2 : w9.cell? ⟨w.heap.size, 2, none⟩ = some (.slice none 0 0) := (blk_cell HRb.out 2).trans rfl
      have cR3 : w9.cell? ⟨w.heap.size, 3, none⟩ = some (.string ⟨#[]⟩) := (blk_cell HRb.out 3).trans rfl
      have fR0 := blk_frozen HRb.out 0
      have fR1 := blk_frozen HRb.out 1
      have fR2 := blk_frozen HRb.out 2
      have fR3 := blk_frozen HRb.out 3
      go_wp2_with (first | (fail))
      refine bodyPost_ret (results_cell_row rfl _ _ w.heap.size 62 #[.string name, .int .i64 k, .slice A2 l0.length c2, .string ⟨(catLaid l1).data⟩] (0, 0) _ rfl (by refine blk_put (cs := #[.string name, .int .i64 k, .slice A2 l0.length c2, .string (⟨#[]⟩ : ByteArray)]) ?_ 3 _ rfl; refine blk_put (cs := #[.string name, .int .i64 k, .slice none 0 0, .string (⟨#[]⟩ : ByteArray)]) ?_ 2 _ rfl; refine blk_put (cs := #[.string name, .int .i64 0, .slice none 0 0, .string (⟨#[]⟩ : ByteArray)]) ?_ 1 _ rfl; refine blk_put (cs := #[.string (⟨#[]⟩ : ByteArray), .int .i64 0, .slice none 0 0, .string (⟨#[]⟩ : ByteArray)]) ?_ 0 _ rfl; exact HRb.out) Try.underlying62 rfl (by kernel_rfl)) rfl ?_
      have hfar : ∀ k_ : Nat, wr.heap.size ≤ k_ → k_ ≠ w.heap.size := fun k_ h => by omega
      exact ⟨_, rfl, Kd.R_mono (Kd.R_far (Kd.R_far (Kd.R_far (Kd.R_far HO2.out hfar _) hfar _) hfar _) hfar _) (fun k_ h => by omega), below_set (below_set (below_set (below_set HB.out (Nat.le_refl _)) (Nat.le_refl _)) (Nat.le_refl _)) (Nat.le_refl _)⟩
theorem tensor_OfInts0.calls (name : ByteArray) (A0 : Option Addr) (c0 : Nat) (l0 : List Int) (A1 : Option Addr) (c1 : Nat) (l1 : List Int) (w : World) (hr0 : Kd.C (Kd.int .i64) w A0 l0.length l0) (hc0 : l0.length ≤ c0) (hr1 : Kd.C (Kd.int .i64) w A1 l1.length l1) (hc1 : l1.length ≤ c1) (hl0 : l0.length ≤ 1000000) (hl1 : l1.length ≤ 1000000) (hn1 : l1 ≠ []) :
    Calls Try.prog 50 #[.string name, .slice A0 l0.length c0, .slice A1 l1.length c1] w fun e w' => ∃ v2_, e = .returned (.agg #[.string name, .int .i64 7, v2_, .string (catLaid l1)]) ∧ Kd.R (Kd.int .i64) 2 w' w.heap.size (fun k_ => w.heap.size ≤ k_) v2_ l0 ∧ Below w.heap.size w w' := by
  have HR0 := Aside0.mk hr0
  have HR1 := Aside0.mk hr1
  have HH := Aside0.mk (And.intro hc0 (And.intro hc1 (And.intro hl0 (And.intro hl1 hn1))))
  clear hr0 hr1 hc0 hc1 hl0 hl1 hn1
  go_enter Try.func50, Try.ntmps50
  go_wp2_with (first | (fail))
  have HRb := Aside0.mk (blk_new w (Obj.cells #[Value.string { data := #[] }, Value.int IntKind.i64 0, Value.slice none 0 0, Value.string { data := #[] }] 62))
  have HB := Aside0.mk (below_alloc (Below.refl w.heap.size w) (Obj.cells #[Value.string { data := #[] }, Value.int IntKind.i64 0, Value.slice none 0 0, Value.string { data := #[] }] 62))
  refine (of_ints.calls name 7 A0 c0 l0 A1 c1 l1 _ (Kd.C_below HR0.out HB.out) HH.out.1 (Kd.C_below HR1.out HB.out) HH.out.2.1 HH.out.2.2.1 HH.out.2.2.2.1 HH.out.2.2.2.2).mono ?_
  rintro e w8 ⟨v2, rfl, hR, hb⟩
  obtain ⟨A2, c2, rfl⟩ := Kd.R_slice hR
  have hlt : (w.alloc (Obj.cells #[Value.string { data := #[] }, Value.int IntKind.i64 0, Value.slice none 0 0, Value.string { data := #[] }] 62)).heap.size = w.heap.size + 1 := alloc_size _ _
  have n0_ := Aside0.mk (below_step HB.out hb)
  have n1_ := Aside0.mk (blk_below HRb.out hb)
  have HO := Aside0.mk (Kd.R_lower hR (below_size HB.out))
  rw [hlt] at HO
  clear HB HRb hb hR hlt
  have HB := n0_; have HRb := n1_
  clear n0_ n1_
  have cR0 : w8.cell? ⟨w.heap.size, 0, none⟩ = some (.string ⟨#[]⟩) := (blk_cell HRb.out 0).trans rfl
  have cR1 : w8.cell? ⟨w.heap.size, 1, none⟩ = some (.int .i64 0) := (blk_cell HRb.out 1).trans rfl
  have cR2 : w8.cell? ⟨w.heap.size, 2, none⟩ = some (.slice none 0 0) := (blk_cell HRb.out 2).trans rfl
  have cR3 : w8.cell? ⟨w.heap.size, 3, none⟩ = some (.string ⟨#[]⟩) := (blk_cell HRb.out 3).trans rfl
  have fR0 := blk_frozen HRb.out 0
  have fR1 := blk_frozen HRb.out 1
  have fR2 := blk_frozen HRb.out 2
  have fR3 := blk_frozen HRb.out 3
  go_wp2_with (first | (fail))
  refine bodyPost_ret (results_cell_row rfl _ _ w.heap.size 62 #[.string name, .int .i64 7, .slice A2 l0.length c2, .string (catLaid l1)] (0, 0) _ rfl (by refine blk_put (cs := #[.string name, .int .i64 7, .slice A2 l0.length c2, .string (⟨#[]⟩ : ByteArray)]) ?_ 3 _ rfl; refine blk_put (cs := #[.string name, .int .i64 7, .slice none 0 0, .string (⟨#[]⟩ : ByteArray)]) ?_ 2 _ rfl; refine blk_put (cs := #[.string name, .int .i64 0, .slice none 0 0, .string (⟨#[]⟩ : ByteArray)]) ?_ 1 _ rfl; refine blk_put (cs := #[.string (⟨#[]⟩ : ByteArray), .int .i64 0, .slice none 0 0, .string (⟨#[]⟩ : ByteArray)]) ?_ 0 _ rfl; exact HRb.out) Try.underlying62 rfl (by kernel_rfl)) rfl ?_
  have hfar : ∀ k_ : Nat, w.heap.size + 1 ≤ k_ → k_ ≠ w.heap.size := fun k_ h => by omega
  exact ⟨_, rfl, Kd.R_mono (Kd.R_far (Kd.R_far (Kd.R_far (Kd.R_far HO.out hfar _) hfar _) hfar _) hfar _) (fun k_ h => by omega), below_set (below_set (below_set (below_set HB.out (Nat.le_refl _)) (Nat.le_refl _)) (Nat.le_refl _)) (Nat.le_refl _)⟩
end Go.Proofs.Ytpojamikfcmnoaa.X
namespace Go.Proofs.Ytpojamikfcmnoaa.X
open Go.RowKit Go.Proofs.YtpojamikfcmnoaaW.PrintWords Go.Proofs.YtpojamikfcmnoaaW.PrintLast Go.Proofs.YtpojamikfcmnoaaW.PrintMore
attribute [local go_sem] max2_int min2_int max_two min_two max_three min_three max_four min_four
set_option linter.unusedVariables false
set_option linter.unusedSimpArgs false
def agatelaw07_Awake.f : Option Bool := some true
theorem awake07_check : tensor_Tensor_Check.f 20 ⟨#[97]⟩ 7 [2] (catLaid [1, -1]) = some 0 := by decide +kernel
theorem awake07_size : (catLaid [1, -1]).size = 16 := catLaid_size _
theorem set4_C {w : World} {A : Option Addr} {n g : Nat} {xs : List Int} {cs : Array Value} (h : Kd.C (Kd.int .i64) w A n xs) (hb : w.heap[g]? = some (.cells cs 62 (0, 0))) (hfar : ∀ ad, A = some ad → 0 < n → ad.block ≠ g) (a b c d : Value) : Kd.C (Kd.int .i64) ((((w.setCell ⟨g, 0, none⟩ a).setCell ⟨g, 1, none⟩ b).setCell ⟨g, 2, none⟩ c).setCell ⟨g, 3, none⟩ d) A n xs := by
  have h0 := Kd.reads_of_C (enc := Value.int .i64) (d := (0 : Int)) (h1 := fun _ => rfl) h
  refine Kd.C_of_reads (d := (0 : Int)) (h1 := fun _ => rfl) ⟨h0.1, h0.2.1, fun hn => ?_⟩
  obtain ⟨ad, e, hc⟩ := h0.2.2 hn
  refine ⟨ad, e, fun j hj => ?_⟩
  have hne := hfar ad e hn
  have hb2 : (ad.add j).block = ad.block := by unfold Addr.add; split <;> rfl
  rw [World.cell?_setCell_other _ _ _ _ (by intro he; exact hne (by rw [← hb2, ← he])), World.cell?_setCell_other _ _ _ _ (by intro he; exact hne (by rw [← hb2, ← he])), World.cell?_setCell_other _ _ _ _ (by intro he; exact hne (by rw [← hb2, ← he])), World.cell?_setCell_other _ _ _ _ (by intro he; exact hne (by rw [← hb2, ← he]))]
  exact hc j hj
set_option maxHeartbeats 8000000 in
set_option maxRecDepth 100000 in
theorem agatelaw07_Awake.calls (r : Bool) (w : World) (h : agatelaw07_Awake.f = some r) :
    Calls Try.prog 35 #[] w fun e w' => e = .returned (.bool r) ∧ Below w.heap.size w w' := by
  obtain rfl := Option.some.inj h
  clear h
  go_enter Try.func35, Try.ntmps35
  go_wp2_with (first | (fail))
  have hb0 : ((w.alloc (Obj.cells #[Value.int IntKind.i64 2] 2)).alloc (Obj.cells #[Value.int IntKind.i64 1, Value.int IntKind.i64 (-1)] 2)).heap[w.heap.size]? = some (Obj.cells #[Value.int IntKind.i64 2] 2) := blk_alloc (blk_new w _) _
  have hb1 : ((w.alloc (Obj.cells #[Value.int IntKind.i64 2] 2)).alloc (Obj.cells #[Value.int IntKind.i64 1, Value.int IntKind.i64 (-1)] 2)).heap[w.heap.size + 1]? = some (Obj.cells #[Value.int IntKind.i64 1, Value.int IntKind.i64 (-1)] 2) := by
    have h := blk_new (w.alloc (Obj.cells #[Value.int IntKind.i64 2] 2)) (Obj.cells #[Value.int IntKind.i64 1, Value.int IntKind.i64 (-1)] 2)
    rw [alloc_size] at h; exact h
  have r0 : Kd.C (Kd.int .i64) ((w.alloc (Obj.cells #[Value.int IntKind.i64 2] 2)).alloc (Obj.cells #[Value.int IntKind.i64 1, Value.int IntKind.i64 (-1)] 2)) (some ⟨w.heap.size, 0, none⟩) ([2] : List Int).length [2] := Kd.C_of_reads (d := (0 : Int)) (h1 := fun _ => rfl) ⟨rfl, by decide, fun _ => ⟨_, rfl, fun j hj => by
    have hj0 : j = 0 := by simp at hj; omega
    subst hj0
    exact (blk_cell hb0 0).trans rfl⟩⟩
  have r1 : Kd.C (Kd.int .i64) ((w.alloc (Obj.cells #[Value.int IntKind.i64 2] 2)).alloc (Obj.cells #[Value.int IntKind.i64 1, Value.int IntKind.i64 (-1)] 2)) (some ⟨w.heap.size + 1, 0, none⟩) ([1, -1] : List Int).length [1, -1] := Kd.C_of_reads (d := (0 : Int)) (h1 := fun _ => rfl) ⟨rfl, by decide, fun _ => ⟨_, rfl, fun j hj => by
    have hj0 : j = 0 ∨ j = 1 := by simp at hj; omega
    rcases hj0 with rfl | rfl
    · exact (blk_cell hb1 0).trans rfl
    · exact (blk_cell hb1 1).trans rfl⟩⟩
  have HB := Aside0.mk (below_alloc (below_alloc (Below.refl w.heap.size w) (Obj.cells #[Value.int IntKind.i64 2] 2)) (Obj.cells #[Value.int IntKind.i64 1, Value.int IntKind.i64 (-1)] 2))
  clear hb0 hb1
  refine (tensor_OfInts0.calls ⟨#[97]⟩ _ 1 [2] _ 2 [1, -1] _ r0 (Nat.le_refl _) r1 (Nat.le_refl _) (by decide) (by decide) (by simp)).mono ?_
  rintro e w1 ⟨v2, rfl, hR, hb⟩
  obtain ⟨A2, cp2, rfl⟩ := Kd.R_slice hR
  have n0_ := Aside0.mk (below_step HB.out hb)
  obtain ⟨A3, c3, he, hc3, hC⟩ := Kd.R_reads hR
  cases he
  have HC := Aside0.mk hC
  have HCC := Aside0.mk hc3
  have HF := Aside0.mk (show ∀ ad, A2 = some ad → ad.block < w1.heap.size from fun ad e => by
    obtain ⟨ad2, e2, h2⟩ := (Kd.reads_of_C (enc := Value.int .i64) (d := (0 : Int)) (h1 := fun _ => rfl) hC).2.2 (by decide)
    rw [e] at e2; cases e2
    exact World.block_lt_of_cell? w1 _ (h2 0 (by decide)))
  clear HB hb hR hC hc3 r0 r1
  have HB := n0_
  clear n0_
  have hsz := Aside0.mk awake07_size
  generalize hdd : catLaid [1, -1] = dd at hsz ⊢
  have HD := Aside0.mk hdd
  clear hdd
  go_wp2_with (first | ((with_reducible refine gate_dst (N := 1) rfl ?_); refine box_event ?hg (N := 1) ?hd (cs := #[.string (⟨#[]⟩ : ByteArray), .int .i64 0, .slice none 0 0, .string (⟨#[]⟩ : ByteArray)]) (t := 62) ?hr ?_; (case hd => rfl); (case hg => rfl); (case hr => first | (go_simp; done) | (go_simp; rfl)); intro gT hg wT hbox hb; have m0_ := Aside0.mk (below_step HB.out hb); have m1_ := Aside0.mk hbox; have m2_ := Aside0.mk (by rw [hg]; exact below_size HB.out : w.heap.size ≤ gT); have m3_ := Aside0.mk (Kd.C_below HC.out hb); clear HB HC; have HB := m0_; have BKT := m1_; have GWT := m2_; have HC := m3_; clear m0_ m1_ m2_ m3_; have HN := Aside0.mk (show ∀ ad, A2 = some ad → 0 < ([2] : List Int).length → ad.block ≠ gT from fun ad e _ => by have := HF.out ad e; omega); clear hb hbox hg; have c0 : wT.cell? ⟨gT, 0, none⟩ = some (.string (⟨#[]⟩ : ByteArray)) := (blk_cell BKT.out 0).trans rfl; have f0 := blk_frozen BKT.out 0; have c1 : wT.cell? ⟨gT, 1, none⟩ = some (.int .i64 0) := (blk_cell BKT.out 1).trans rfl; have f1 := blk_frozen BKT.out 1; have c2 : wT.cell? ⟨gT, 2, none⟩ = some (.slice none 0 0) := (blk_cell BKT.out 2).trans rfl; have f2 := blk_frozen BKT.out 2; have c3 : wT.cell? ⟨gT, 3, none⟩ = some (.string (⟨#[]⟩ : ByteArray)) := (blk_cell BKT.out 3).trans rfl; have f3 := blk_frozen BKT.out 3) | (fail))
  refine (agatelaw04_Awake.calls true _ rfl).mono ?_
  rintro e w4 ⟨rfl, hb⟩
  have n0_ := Aside0.mk (below_step (below_set (below_set (below_set (below_set HB.out GWT.out) GWT.out) GWT.out) GWT.out) hb)
  have n1_ := Aside0.mk (show w4.heap[gT]? = some (.cells #[.string ⟨#[97]⟩, .int .i64 7, .slice A2 ([2] : List Int).length cp2, .string dd] 62 (0, 0)) from blk_below (blk_put (blk_put (blk_put (blk_put BKT.out 0 _ rfl) 1 _ rfl) 2 _ rfl) 3 _ rfl) hb)
  have n2_ := Aside0.mk (Kd.C_below (set4_C HC.out BKT.out HN.out _ _ _ _) hb)
  clear HB BKT HC hb
  have HB := n0_
  have BKT := n1_
  have HC := n2_
  clear n0_ n1_ n2_
  have c0w4 : w4.cell? ⟨gT, 0, none⟩ = some (.string ⟨#[97]⟩) := (blk_cell BKT.out 0).trans rfl
  have f0w4 := blk_frozen BKT.out 0
  have c1w4 : w4.cell? ⟨gT, 1, none⟩ = some (.int .i64 7) := (blk_cell BKT.out 1).trans rfl
  have f1w4 := blk_frozen BKT.out 1
  have c2w4 : w4.cell? ⟨gT, 2, none⟩ = some (.slice A2 ([2] : List Int).length cp2) := (blk_cell BKT.out 2).trans rfl
  have f2w4 := blk_frozen BKT.out 2
  have c3w4 : w4.cell? ⟨gT, 3, none⟩ = some (.string dd) := (blk_cell BKT.out 3).trans rfl
  have f3w4 := blk_frozen BKT.out 3
  go_wp2_with (first | (fail))
  refine (agatelaw05_Awake_s.calls true _ rfl).mono ?_
  rintro e w5 ⟨rfl, hb⟩
  have n0_ := Aside0.mk (below_step (HB.out) hb)
  have n1_ := Aside0.mk (show w5.heap[gT]? = some (.cells #[.string ⟨#[97]⟩, .int .i64 7, .slice A2 ([2] : List Int).length cp2, .string dd] 62 (0, 0)) from blk_below BKT.out hb)
  have n2_ := Aside0.mk (Kd.C_below (HC.out) hb)
  clear HB BKT HC hb
  have HB := n0_
  have BKT := n1_
  have HC := n2_
  clear n0_ n1_ n2_
  have c0w5 : w5.cell? ⟨gT, 0, none⟩ = some (.string ⟨#[97]⟩) := (blk_cell BKT.out 0).trans rfl
  have f0w5 := blk_frozen BKT.out 0
  have c1w5 : w5.cell? ⟨gT, 1, none⟩ = some (.int .i64 7) := (blk_cell BKT.out 1).trans rfl
  have f1w5 := blk_frozen BKT.out 1
  have c2w5 : w5.cell? ⟨gT, 2, none⟩ = some (.slice A2 ([2] : List Int).length cp2) := (blk_cell BKT.out 2).trans rfl
  have f2w5 := blk_frozen BKT.out 2
  have c3w5 : w5.cell? ⟨gT, 3, none⟩ = some (.string dd) := (blk_cell BKT.out 3).trans rfl
  have f3w5 := blk_frozen BKT.out 3
  go_wp2_with (first | (fail))
  refine (agatelaw06_Awake.calls true _ rfl).mono ?_
  rintro e w6 ⟨rfl, hb⟩
  have n0_ := Aside0.mk (below_step (HB.out) hb)
  have n1_ := Aside0.mk (show w6.heap[gT]? = some (.cells #[.string ⟨#[97]⟩, .int .i64 7, .slice A2 ([2] : List Int).length cp2, .string dd] 62 (0, 0)) from blk_below BKT.out hb)
  have n2_ := Aside0.mk (Kd.C_below (HC.out) hb)
  clear HB BKT HC hb
  have HB := n0_
  have BKT := n1_
  have HC := n2_
  clear n0_ n1_ n2_
  have c0w6 : w6.cell? ⟨gT, 0, none⟩ = some (.string ⟨#[97]⟩) := (blk_cell BKT.out 0).trans rfl
  have f0w6 := blk_frozen BKT.out 0
  have c1w6 : w6.cell? ⟨gT, 1, none⟩ = some (.int .i64 7) := (blk_cell BKT.out 1).trans rfl
  have f1w6 := blk_frozen BKT.out 1
  have c2w6 : w6.cell? ⟨gT, 2, none⟩ = some (.slice A2 ([2] : List Int).length cp2) := (blk_cell BKT.out 2).trans rfl
  have f2w6 := blk_frozen BKT.out 2
  have c3w6 : w6.cell? ⟨gT, 3, none⟩ = some (.string dd) := (blk_cell BKT.out 3).trans rfl
  have f3w6 := blk_frozen BKT.out 3
  have q16 : ((dd.size : Int) == 16) = true := beq_iff_eq.2 (by have := hsz.out; omega)
  have q17 := hsz.out
  go_wp2_with (first | (fail))
  refine (tensor_Tensor_Check.calls 20 ⟨#[97]⟩ 7 A2 cp2 [2] dd 0 _ HC.out HCC.out (by rw [← HD.out]; exact awake07_check)).mono ?_
  rintro e w7 ⟨rfl, hb⟩
  have n0_ := Aside0.mk (below_step HB.out hb)
  clear HB hb
  have HB := n0_
  go_wp2_with (first | (fail))
  go_ret
  exact ⟨rfl, HB.out⟩
end Go.Proofs.Ytpojamikfcmnoaa.X
namespace Go.Proofs.Ytpojamikfcmnoaa.X
open Go.RowKit Go.Proofs.YtpojamikfcmnoaaW.PrintWords Go.Proofs.YtpojamikfcmnoaaW.PrintLast Go.Proofs.YtpojamikfcmnoaaW.PrintMore
attribute [local go_sem] max2_int min2_int max_two min_two max_three min_three max_four min_four
set_option linter.unusedVariables false
set_option linter.unusedSimpArgs false
def agatelaw07_Of.f (a0_0 : ByteArray) (a0_1 : Int) (l0_2 : List Int) (a0_3 : ByteArray) : Option (ByteArray × Int × ByteArray) := some (a0_0, a0_1, a0_3)
set_option maxHeartbeats 8000000 in
set_option maxRecDepth 100000 in
theorem agatelaw07_Of.calls (a0_0 : ByteArray) (a0_1 : Int) (A0_2 : Option Addr) (c0_2 : Nat) (l0_2 : List Int) (a0_3 : ByteArray) (r1 : ByteArray) (r2 : Int) (r4 : ByteArray) (w : World) (hr0_2 : Kd.C (Kd.int .i64) w A0_2 l0_2.length l0_2) (hc0_2 : l0_2.length ≤ c0_2) (h : agatelaw07_Of.f a0_0 a0_1 l0_2 a0_3 = some (r1, r2, r4)) :
    Calls Try.prog 36 #[.agg #[.string a0_0, .int .i64 a0_1, .slice A0_2 l0_2.length c0_2, .string a0_3]] w fun e w' => e = .returned (.agg #[.string r1, .int .i64 r2, .slice A0_2 l0_2.length c0_2, .string r4]) ∧ Below w.heap.size w w' := by
  have hu := Try.underlying62
  have hu2 := Try.underlying64
  clear hr0_2 hc0_2
  have h2 := Option.some.inj h
  obtain ⟨rfl, rfl, rfl⟩ : a0_0 = r1 ∧ a0_1 = r2 ∧ a0_3 = r4 := by simpa using h2
  clear h h2
  go_enter Try.func36, Try.ntmps36
  go_wp2
  refine bodyPost_ret (results_cell_row rfl _ _ (w.heap.size + 1) 64 #[.string a0_0, .int .i64 a0_1, .slice A0_2 l0_2.length c0_2, .string a0_3] (0, 0) _ rfl (by
    have e : (w.alloc (Obj.cells #[Value.string a0_0, Value.int IntKind.i64 a0_1, Value.slice A0_2 l0_2.length c0_2, Value.string a0_3] 62)).heap.size = w.heap.size + 1 := Array.size_push _
    rw [← e]
    exact blk_new _ _) Try.underlying64 rfl (by kernel_rfl)) rfl ?_
  exact ⟨rfl, below_alloc (below_alloc (Below.refl _ _) _) _⟩
end Go.Proofs.Ytpojamikfcmnoaa.X
