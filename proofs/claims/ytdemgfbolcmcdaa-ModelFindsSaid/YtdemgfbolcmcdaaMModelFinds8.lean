import Derived.Test.YtdemgfbolcmcdaaMModelFinds2
import Derived.WalkLawsBesides
import Derived.Test.YtdemgfbolcmcdaaMModelFinds7
import Derived.Test.YtdemgfbolcmcdaaMModelFinds3
import Derived.Shelf.Strings.Builder1
import Derived.Test.YtdemgfbolcmcdaaMModelFinds4
import Derived.Test.YtdemgfbolcmcdaaMModelFinds5
import Derived.Laws.ResultCell
namespace Go.Proofs.Ytdemgfbolcmcdaa.X
open Go.RowKit Go.Proofs.YtdemgfbolcmcdaaW.PrintWords Go.Proofs.YtdemgfbolcmcdaaW.PrintLast Go.Proofs.YtdemgfbolcmcdaaW.PrintMore
attribute [local go_sem] max2_int min2_int max_two min_two max_three min_three max_four min_four
set_option linter.unusedVariables false
set_option linter.unusedSimpArgs false
def by8 (n : Int) (j : Nat) : Int := IntKind.u64.wrap n / 256 ^ j % 256
def laid8 (n : Int) : ByteArray := strOfNums [by8 n 0, by8 n 1, by8 n 2, by8 n 3, by8 n 4, by8 n 5, by8 n 6, by8 n 7]
def arr8 (n : Int) (i : Nat) : Array Value := #[.int .u8 (if 0 < i then by8 n 0 else 0), .int .u8 (if 1 < i then by8 n 1 else 0), .int .u8 (if 2 < i then by8 n 2 else 0), .int .u8 (if 3 < i then by8 n 3 else 0), .int .u8 (if 4 < i then by8 n 4 else 0), .int .u8 (if 5 < i then by8 n 5 else 0), .int .u8 (if 6 < i then by8 n 6 else 0), .int .u8 (if 7 < i then by8 n 7 else 0)]
theorem arr8_string (n : Int) {W : World} {g : Nat} (h : W.heap[g]? = some (.cells (arr8 n 8) 156 (0, 0))) : (convert 149 9 (.slice (some ⟨g, 0, none⟩) 8 8)).run Try.prog W = .ok (.string (laid8 n)) W := by
  refine string_of_reads Try.underlying149 Try.underlying5 Try.underlying9 ⟨rfl, by decide, fun _ => ⟨_, rfl, ?_⟩⟩
  intro j hj
  have hc : ∀ i, W.cell? ⟨g, i, none⟩ = (arr8 n 8)[i]? := fun i => blk_cell h i
  have : j = 0 ∨ j = 1 ∨ j = 2 ∨ j = 3 ∨ j = 4 ∨ j = 5 ∨ j = 6 ∨ j = 7 := by omega
  rcases this with rfl | rfl | rfl | rfl | rfl | rfl | rfl | rfl <;> simp [Addr.add, hc, arr8]
set_option maxHeartbeats 8000000 in
theorem tensor_laid.calls (n : Int) (w : World) :
    Calls Try.prog 75 #[.int .i64 n] w fun e w' => e = .returned (.string (laid8 n)) ∧ Below w.heap.size w w' := by
  go_enter Try.func75, Try.ntmps75
  go_wp2
  have HBk := Aside0.mk (show (w.alloc (Obj.cells #[.int .u8 0, .int .u8 0, .int .u8 0, .int .u8 0, .int .u8 0, .int .u8 0, .int .u8 0, .int .u8 0] 156)).heap[w.heap.size]? = some (.cells (arr8 n 0) 156 (0, 0)) from blk_new w _)
  have HB := Aside0.mk (below_alloc (Below.refl w.heap.size w) (Obj.cells #[.int .u8 0, .int .u8 0, .int .u8 0, .int .u8 0, .int .u8 0, .int .u8 0, .int .u8 0, .int .u8 0] 156))
  go_loopg [5] 8 (fun kq v5 w' => ∃ i : Nat, v5 = .int .i64 i ∧ Aside0 (i + kq = 8) ∧ i ≤ 8 ∧ Aside0 (w'.heap[w.heap.size]? = some (.cells (arr8 n i) 156 (0, 0))) ∧ Aside0 (Below w.heap.size w w'))
  case atStart => exact ⟨0, rfl, ⟨by omega⟩, Nat.zero_le _, HBk, HB⟩
  case round =>
    clear HBk HB
    obtain ⟨i, rfl, HK, hi, HBk, HB⟩ := hrel
    have h5 : i = 0 ∨ i = 1 ∨ i = 2 ∨ i = 3 ∨ i = 4 ∨ i = 5 ∨ i = 6 ∨ i = 7 ∨ i = 8 := by omega
    rcases h5 with rfl | rfl | rfl | rfl | rfl | rfl | rfl | rfl | rfl
    · obtain ⟨kk, rfl⟩ : ∃ m, gk = m + 1 := ⟨gk - 1, by have := HK.out; omega⟩
      have c0 : wr.cell? ⟨w.heap.size, 0, none⟩ = some (.int .u8 0) := (blk_cell HBk.out 0).trans rfl
      have f0 := blk_frozen HBk.out 0
      go_wp2_with (first | (fail))
      go_roundg kk
      case measure => have := HK.out; omega
      case rel => exact ⟨1, rfl, ⟨by have := HK.out; omega⟩, by omega, ⟨(blk_put HBk.out 0 _ rfl).trans (by simp [arr8, by8])⟩, ⟨below_set HB.out (Nat.le_refl _)⟩⟩
    · obtain ⟨kk, rfl⟩ : ∃ m, gk = m + 1 := ⟨gk - 1, by have := HK.out; omega⟩
      have c0 : wr.cell? ⟨w.heap.size, 1, none⟩ = some (.int .u8 0) := (blk_cell HBk.out 1).trans rfl
      have f0 := blk_frozen HBk.out 1
      go_wp2_with (first | (fail))
      go_roundg kk
      case measure => have := HK.out; omega
      case rel => exact ⟨2, rfl, ⟨by have := HK.out; omega⟩, by omega, ⟨(blk_put HBk.out 1 _ rfl).trans (by simp [arr8, by8])⟩, ⟨below_set HB.out (Nat.le_refl _)⟩⟩
    · obtain ⟨kk, rfl⟩ : ∃ m, gk = m + 1 := ⟨gk - 1, by have := HK.out; omega⟩
      have c0 : wr.cell? ⟨w.heap.size, 2, none⟩ = some (.int .u8 0) := (blk_cell HBk.out 2).trans rfl
      have f0 := blk_frozen HBk.out 2
      go_wp2_with (first | (fail))
      go_roundg kk
      case measure => have := HK.out; omega
      case rel => exact ⟨3, rfl, ⟨by have := HK.out; omega⟩, by omega, ⟨(blk_put HBk.out 2 _ rfl).trans (by simp [arr8, by8])⟩, ⟨below_set HB.out (Nat.le_refl _)⟩⟩
    · obtain ⟨kk, rfl⟩ : ∃ m, gk = m + 1 := ⟨gk - 1, by have := HK.out; omega⟩
      have c0 : wr.cell? ⟨w.heap.size, 3, none⟩ = some (.int .u8 0) := (blk_cell HBk.out 3).trans rfl
      have f0 := blk_frozen HBk.out 3
      go_wp2_with (first | (fail))
      go_roundg kk
      case measure => have := HK.out; omega
      case rel => exact ⟨4, rfl, ⟨by have := HK.out; omega⟩, by omega, ⟨(blk_put HBk.out 3 _ rfl).trans (by simp [arr8, by8])⟩, ⟨below_set HB.out (Nat.le_refl _)⟩⟩
    · obtain ⟨kk, rfl⟩ : ∃ m, gk = m + 1 := ⟨gk - 1, by have := HK.out; omega⟩
      have c0 : wr.cell? ⟨w.heap.size, 4, none⟩ = some (.int .u8 0) := (blk_cell HBk.out 4).trans rfl
      have f0 := blk_frozen HBk.out 4
      go_wp2_with (first | (fail))
      go_roundg kk
      case measure => have := HK.out; omega
      case rel => exact ⟨5, rfl, ⟨by have := HK.out; omega⟩, by omega, ⟨(blk_put HBk.out 4 _ rfl).trans (by simp [arr8, by8])⟩, ⟨below_set HB.out (Nat.le_refl _)⟩⟩
    · obtain ⟨kk, rfl⟩ : ∃ m, gk = m + 1 := ⟨gk - 1, by have := HK.out; omega⟩
      have c0 : wr.cell? ⟨w.heap.size, 5, none⟩ = some (.int .u8 0) := (blk_cell HBk.out 5).trans rfl
      have f0 := blk_frozen HBk.out 5
      go_wp2_with (first | (fail))
      go_roundg kk
      case measure => have := HK.out; omega
      case rel => exact ⟨6, rfl, ⟨by have := HK.out; omega⟩, by omega, ⟨(blk_put HBk.out 5 _ rfl).trans (by simp [arr8, by8])⟩, ⟨below_set HB.out (Nat.le_refl _)⟩⟩
    · obtain ⟨kk, rfl⟩ : ∃ m, gk = m + 1 := ⟨gk - 1, by have := HK.out; omega⟩
      have c0 : wr.cell? ⟨w.heap.size, 6, none⟩ = some (.int .u8 0) := (blk_cell HBk.out 6).trans rfl
      have f0 := blk_frozen HBk.out 6
      go_wp2_with (first | (fail))
      go_roundg kk
      case measure => have := HK.out; omega
      case rel => exact ⟨7, rfl, ⟨by have := HK.out; omega⟩, by omega, ⟨(blk_put HBk.out 6 _ rfl).trans (by simp [arr8, by8])⟩, ⟨below_set HB.out (Nat.le_refl _)⟩⟩
    · obtain ⟨kk, rfl⟩ : ∃ m, gk = m + 1 := ⟨gk - 1, by have := HK.out; omega⟩
      have c0 : wr.cell? ⟨w.heap.size, 7, none⟩ = some (.int .u8 0) := (blk_cell HBk.out 7).trans rfl
      have f0 := blk_frozen HBk.out 7
      go_wp2_with (first | (fail))
      go_roundg kk
      case measure => have := HK.out; omega
      case rel => exact ⟨8, rfl, ⟨by have := HK.out; omega⟩, by omega, ⟨(blk_put HBk.out 7 _ rfl).trans (by simp [arr8, by8])⟩, ⟨below_set HB.out (Nat.le_refl _)⟩⟩
    · have r3 := arr8_string n HBk.out
      go_wp2_with (first | (fail))
      go_ret
      exact ⟨rfl, HB.out⟩
end Go.Proofs.Ytdemgfbolcmcdaa.X
namespace Go.Proofs.Ytdemgfbolcmcdaa.X
open Go.RowKit Go.Proofs.YtdemgfbolcmcdaaW.PrintWords Go.Proofs.YtdemgfbolcmcdaaW.PrintLast Go.Proofs.YtdemgfbolcmcdaaW.PrintMore
attribute [local go_sem] max2_int min2_int max_two min_two max_three min_three max_four min_four
set_option linter.unusedVariables false
set_option linter.unusedSimpArgs false
def catLaid : List Int → ByteArray
  | [] => ⟨#[]⟩
  | x :: l => laid8 x ++ catLaid l
theorem catLaid_snoc (l : List Int) (x : Int) : catLaid (l ++ [x]) = catLaid l ++ laid8 x := by
  induction l with
  | nil => apply ByteArray.ext; simp [catLaid, ByteArray.data_append]
  | cons y l ih => rw [List.cons_append, catLaid, ih, catLaid, ByteArray.append_assoc]
theorem laid8_size (n : Int) : (laid8 n).size = 8 := strOfNums_size _
theorem catLaid_size (l : List Int) : (catLaid l).size = 8 * l.length := by
  induction l with
  | nil => rfl
  | cons x l ih => rw [catLaid, ByteArray.size_append, ih, laid8_size, List.length_cons]; omega
theorem alloc_size (w : World) (o : Obj) : (w.alloc o).heap.size = w.heap.size + 1 := Array.size_push _
theorem below_low {b B : Nat} {w w1 : World} (h : Below B w w1) (hb : b ≤ B) : Below b w w1 := ⟨h.os, h.tape, h.output, h.size, fun i hi => h.block i (by omega)⟩
set_option maxHeartbeats 8000000 in
set_option maxRecDepth 100000 in
theorem of_ints.calls (name : ByteArray) (k : Int) (A0 : Option Addr) (c0 : Nat) (l0 : List Int) (A1 : Option Addr) (c1 : Nat) (l1 : List Int) (w : World) (hr0 : Kd.C (Kd.int .i64) w A0 l0.length l0) (hc0 : l0.length ≤ c0) (hr1 : Kd.C (Kd.int .i64) w A1 l1.length l1) (hc1 : l1.length ≤ c1) (hl0 : l0.length ≤ 1000000) (hl1 : l1.length ≤ 1000000) (hn1 : l1 ≠ []) :
    Calls Try.prog 74 #[.string name, .int .i64 k, .slice A0 l0.length c0, .slice A1 l1.length c1, .func (Fn.func 75) #[] #[]] w fun e w' => ∃ v2_, e = .returned (.agg #[.string name, .int .i64 k, v2_, .string (catLaid l1)]) ∧ Kd.R (Kd.int .i64) 2 w' w.heap.size (fun k_ => w.heap.size ≤ k_) v2_ l0 ∧ Below w.heap.size w w' := by
  have HR0 := Aside0.mk hr0
  have HC0 := Aside0.mk hc0
  have HL0 := Aside0.mk hl0
  have HR1 := Aside0.mk hr1
  have HC1 := Aside0.mk hc1
  have HL := Aside0.mk hl1
  clear hr0 hc0 hl0 hr1 hc1 hl1
  go_enter Try.func74, Try.ntmps74
  go_wp2
  have HRb := Aside0.mk (show ((w.alloc (Obj.cells #[Value.string { data := #[] }, Value.int IntKind.i64 0, Value.slice none 0 0, Value.string { data := #[] }] 51)).alloc (Obj.cells #[Value.pointer none, Value.slice none 0 0] 151)).heap[w.heap.size]? = some (Obj.cells #[Value.string { data := #[] }, Value.int IntKind.i64 0, Value.slice none 0 0, Value.string { data := #[] }] 51) from blk_alloc (blk_new w _) _)
  have HB := Aside0.mk (below_alloc (below_alloc (Below.refl w.heap.size w) (Obj.cells #[Value.string { data := #[] }, Value.int IntKind.i64 0, Value.slice none 0 0, Value.string { data := #[] }] 51)) (Obj.cells #[Value.pointer none, Value.slice none 0 0] 151))
  have HI : Aside0 (Lib.IsBuilder 151 5 (w.heap.size + 1) (w.heap.size + 1) (Lib.byteCells (catLaid (l1.take 0)).data.toList) ((w.alloc (Obj.cells #[Value.string { data := #[] }, Value.int IntKind.i64 0, Value.slice none 0 0, Value.string { data := #[] }] 51)).alloc (Obj.cells #[Value.pointer none, Value.slice none 0 0] 151))) := ⟨by
    have h := Lib.fresh_isBuilder 151 5 (w.alloc (Obj.cells #[Value.string { data := #[] }, Value.int IntKind.i64 0, Value.slice none 0 0, Value.string { data := #[] }] 51))
    have e : (w.alloc (Obj.cells #[Value.string { data := #[] }, Value.int IntKind.i64 0, Value.slice none 0 0, Value.string { data := #[] }] 51)).heap.size = w.heap.size + 1 := alloc_size _ _
    rw [e] at h
    exact h⟩
  go_loopg [16] l1.length (fun kq v16 w' => ∃ i : Nat, v16 = .int .i64 i ∧ Aside0 (i + kq = l1.length) ∧ i ≤ l1.length ∧ Aside0 (Lib.IsBuilder 151 5 (w.heap.size + 1) (w.heap.size + 1) (Lib.byteCells (catLaid (l1.take i)).data.toList) w') ∧ Aside0 (w'.heap[w.heap.size]? = some (Obj.cells #[Value.string { data := #[] }, Value.int IntKind.i64 0, Value.slice none 0 0, Value.string { data := #[] }] 51)) ∧ Aside0 (w.heap.size + 1 ≤ w'.heap.size) ∧ Aside0 (Below w.heap.size w w'))
  case atStart => exact ⟨0, rfl, ⟨by omega⟩, Nat.zero_le _, HI, HRb, ⟨by rw [alloc_size, alloc_size]; omega⟩, HB⟩
  case round =>
    clear HRb HB HI
    obtain ⟨i, rfl, HK, hi, HI, HRb, HS, HB⟩ := hrel
    by_cases hlt : i < l1.length
    · have hlt' : decide ((i : Int) < (l1.length : Int)) = true := by simpa using hlt
      obtain ⟨kk, rfl⟩ : ∃ m, gk = m + 1 := ⟨gk - 1, by have := HK.out; omega⟩
      have Hcat : Aside0 (Lib.byteCells (catLaid (l1.take i)).data.toList ++ Lib.strCells (laid8 (rd l1 i)) = Lib.byteCells (catLaid (l1.take (i + 1))).data.toList) := ⟨by
        rw [byteCells_append, List.take_succ_eq_append_getElem hlt, catLaid_snoc]
        simp [rd, List.getD_eq_getElem?_getD, hlt]⟩
      have Hlen : Aside0 ((Lib.byteCells (catLaid (l1.take i)).data.toList).length + (laid8 (rd l1 i)).size ≤ 140737488355328) := ⟨by
        have h1 := catLaid_size (l1.take i)
        have h3 : (Lib.byteCells (catLaid (l1.take i)).data.toList).length = (catLaid (l1.take i)).size := by simp [Lib.byteCells]
        have h4 := HL.out
        rw [List.length_take] at h1
        rw [laid8_size, h3]
        omega⟩
      have Hw : Aside0 (wrap64 ((i : Int) + 1) = (i : Int) + 1) := ⟨by have := HL.out; exact wrap64_id (by omega) (by omega)⟩
      have p101 : 0 ≤ (i : Int) := Int.natCast_nonneg i
      have q101 : (i : Int) < (l1.length : Int) := by omega
      obtain ⟨ad101, e101, hx101_0⟩ := Kd.at_int HR1.out i p101 q101
      cases e101
      replace hx101_0 := (HB.out.cell (World.block_lt_of_cell? w _ hx101_0)).trans hx101_0
      rw [Int.toNat_natCast] at hx101_0
      replace p101 := eq_true p101
      replace q101 := eq_true q101
      go_wp2_with (first | (fail))
      refine (tensor_laid.calls (rd l1 i) _).mono ?_
      rintro e w8 ⟨rfl, hb⟩
      have n0_ := Aside0.mk (below_step HB.out hb)
      have n1_ := Aside0.mk (isBuilder_below HI.out hb)
      have n2_ := Aside0.mk (blk_below HRb.out hb)
      have n3_ := Aside0.mk (Nat.le_trans HS.out hb.size)
      clear HB HI HRb HS hb
      have HB := n0_; have HI := n1_; have HRb := n2_; have HS := n3_
      clear n0_ n1_ n2_ n3_
      go_wp2_with (first | (fail))
      refine (Sh.WriteString (w.heap.size + 1) (w.heap.size + 1) _ (laid8 (rd l1 i)) _ HI.out Hlen.out HS.out).mono ?_
      rintro e w9 ⟨rfl, hi8, hb⟩
      have n0_ := Aside0.mk (HB.out.trans (below_low hb (Nat.le_succ _)))
      have n1_ := Aside0.mk (show Lib.IsBuilder 151 5 (w.heap.size + 1) (w.heap.size + 1) _ w9 from .inr hi8)
      have n2_ := Aside0.mk ((hb.block w.heap.size (Nat.lt_succ_self _)).trans HRb.out)
      have n3_ := Aside0.mk (Nat.le_trans HS.out hb.size)
      clear HB HI HRb HS hb hi8
      have HB := n0_; have HI := n1_; have HRb := n2_; have HS := n3_
      clear n0_ n1_ n2_ n3_
      go_wp2_with (first | (fail))
      go_roundg kk
      case measure => have := HK.out; omega
      case rel => exact ⟨i + 1, by rw [Hw.out]; rfl, ⟨by have := HK.out; omega⟩, by omega, ⟨by rw [← Hcat.out]; exact HI.out⟩, HRb, HS, HB⟩
    · have hlt' : decide ((i : Int) < (l1.length : Int)) = false := by simpa using hlt
      have Hi : Aside0 (l1.take i = l1) := ⟨List.take_of_length_le (by omega)⟩
      have HI2 : Aside0 (Lib.IsBuilder 151 5 (w.heap.size + 1) (w.heap.size + 1) (Lib.byteCells (catLaid l1).data.toList) wr) := ⟨by have := HI.out; rw [Hi.out] at this; exact this⟩
      have hne : (catLaid l1).data.toList ≠ [] := by
        intro e
        have h1 := catLaid_size l1
        have h2 : (catLaid l1).size = (catLaid l1).data.toList.length := (Array.length_toList).symm
        rw [e] at h2
        have h3 : l1.length ≠ 0 := fun h => hn1 (List.eq_nil_of_length_eq_zero h)
        rw [List.length_nil] at h2
        omega
      obtain ⟨p, g, cap, cur, hBg, hgl, hbl, hbk, hg, hnc, hcm, hcs, ht⟩ := builder_lies HI2.out hne
      have HBK := Aside0.mk hbk
      have HG := Aside0.mk hg
      have HT := Aside0.mk (And.intro hnc (And.intro hcm (And.intro hcs ht)))
      have HGL := Aside0.mk hgl
      have HBL := Aside0.mk hbl
      have HBG := Aside0.mk hBg
      have HNE := Aside0.mk hne
      clear hbk hg hnc hcm hcs ht hgl hbl hBg hne HI HI2
      have hlt2 : w.heap.size < wr.heap.size := by have := HS.out; omega
      go_wp2_with (first | (fail))
      refine (slices_Clone_int64.calls A0 c0 l0 l0 _ (Kd.C_below HR0.out HB.out) HC0.out (if_pos (by have := HL0.out; omega))).mono ?_
      rintro e w8 ⟨v2, rfl, hR, hb⟩
      obtain ⟨A2, c2, rfl⟩ := Kd.R_slice hR
      have n0_ := Aside0.mk (below_step HB.out hb)
      have n1_ := Aside0.mk (blk_below HRb.out hb)
      have n2_ := Aside0.mk (blk_below HBK.out hb)
      have n3_ := Aside0.mk (blk_below HG.out hb)
      have HO := Aside0.mk (Kd.R_lower hR (below_size HB.out))
      clear HB HRb HBK HG hb hR
      have HB := n0_; have HRb := n1_; have HBK := n2_; have HG := n3_
      clear n0_ n1_ n2_ n3_
      go_wp2_with (first | (fail))
      refine (sh_String.calls (w.heap.size + 1) g cap p cur _ _ HNE.out HBK.out HG.out HT.out.1 HT.out.2.1 HT.out.2.2.1 HT.out.2.2.2).mono ?_
      rintro e w9 ⟨rfl, hw9⟩
      have hk := freeze_kept w8 g (catLaid l1).data.toList.length
      rw [← hw9] at hk
      have n0_ := Aside0.mk (show Below w.heap.size w w9 by rw [hw9]; exact Lib.below_freeze (below_drew1 HB.out) (p := ⟨g, 0, none⟩) (by have := HBG.out; show w.heap.size ≤ g; omega) _)
      have n1_ := Aside0.mk ((hk.2 w.heap.size (blk_lt HRb.out) (by have := HBG.out; omega)).trans HRb.out)
      have HO2 := Aside0.mk (Kd.R_kept HO.out hk (fun k hk1 hk2 => by have := HGL.out; omega))
      clear HB HRb HO hk hw9 HBK HG
      have HB := n0_; have HRb := n1_
      clear n0_ n1_
      have cR0 : w9.cell? ⟨w.heap.size, 0, none⟩ = some (.string ⟨#[]⟩) := (blk_cell HRb.out 0).trans rfl
      have cR1 : w9.cell? ⟨w.heap.size, 1, none⟩ = some (.int .i64 0) := (blk_cell HRb.out 1).trans rfl
      have cR2 : w9.cell? ⟨w.heap.size, 2, none⟩ = some (.slice none 0 0) := (blk_cell HRb.out 2).trans rfl
      have cR3 : w9.cell? ⟨w.heap.size, 3, none⟩ = some (.string ⟨#[]⟩) := (blk_cell HRb.out 3).trans rfl
      have fR0 := blk_frozen HRb.out 0
      have fR1 := blk_frozen HRb.out 1
      have fR2 := blk_frozen HRb.out 2
      have fR3 := blk_frozen HRb.out 3
      go_wp2_with (first | (fail))
      refine bodyPost_ret (results_cell_row rfl _ _ w.heap.size 51 #[.string name, .int .i64 k, .slice A2 l0.length c2, .string ⟨(catLaid l1).data⟩] (0, 0) _ rfl (by refine blk_put (cs := #[.string name, .int .i64 k, .slice A2 l0.length c2, .string (⟨#[]⟩ : ByteArray)]) ?_ 3 _ rfl; refine blk_put (cs := #[.string name, .int .i64 k, .slice none 0 0, .string (⟨#[]⟩ : ByteArray)]) ?_ 2 _ rfl; refine blk_put (cs := #[.string name, .int .i64 0, .slice none 0 0, .string (⟨#[]⟩ : ByteArray)]) ?_ 1 _ rfl; refine blk_put (cs := #[.string (⟨#[]⟩ : ByteArray), .int .i64 0, .slice none 0 0, .string (⟨#[]⟩ : ByteArray)]) ?_ 0 _ rfl; exact HRb.out) Try.underlying51 rfl (by kernel_rfl)) rfl ?_
      have hfar : ∀ k_ : Nat, wr.heap.size ≤ k_ → k_ ≠ w.heap.size := fun k_ h => by omega
      exact ⟨_, rfl, Kd.R_mono (Kd.R_far (Kd.R_far (Kd.R_far (Kd.R_far HO2.out hfar _) hfar _) hfar _) hfar _) (fun k_ h => by omega), below_set (below_set (below_set (below_set HB.out (Nat.le_refl _)) (Nat.le_refl _)) (Nat.le_refl _)) (Nat.le_refl _)⟩
theorem tensor_OfInts0.calls (name : ByteArray) (A0 : Option Addr) (c0 : Nat) (l0 : List Int) (A1 : Option Addr) (c1 : Nat) (l1 : List Int) (w : World) (hr0 : Kd.C (Kd.int .i64) w A0 l0.length l0) (hc0 : l0.length ≤ c0) (hr1 : Kd.C (Kd.int .i64) w A1 l1.length l1) (hc1 : l1.length ≤ c1) (hl0 : l0.length ≤ 1000000) (hl1 : l1.length ≤ 1000000) (hn1 : l1 ≠ []) :
    Calls Try.prog 67 #[.string name, .slice A0 l0.length c0, .slice A1 l1.length c1] w fun e w' => ∃ v2_, e = .returned (.agg #[.string name, .int .i64 7, v2_, .string (catLaid l1)]) ∧ Kd.R (Kd.int .i64) 2 w' w.heap.size (fun k_ => w.heap.size ≤ k_) v2_ l0 ∧ Below w.heap.size w w' := by
  have HR0 := Aside0.mk hr0
  have HR1 := Aside0.mk hr1
  have HH := Aside0.mk (And.intro hc0 (And.intro hc1 (And.intro hl0 (And.intro hl1 hn1))))
  clear hr0 hr1 hc0 hc1 hl0 hl1 hn1
  go_enter Try.func67, Try.ntmps67
  go_wp2_with (first | (fail))
  have HRb := Aside0.mk (blk_new w (Obj.cells #[Value.string { data := #[] }, Value.int IntKind.i64 0, Value.slice none 0 0, Value.string { data := #[] }] 51))
  have HB := Aside0.mk (below_alloc (Below.refl w.heap.size w) (Obj.cells #[Value.string { data := #[] }, Value.int IntKind.i64 0, Value.slice none 0 0, Value.string { data := #[] }] 51))
  refine (of_ints.calls name 7 A0 c0 l0 A1 c1 l1 _ (Kd.C_below HR0.out HB.out) HH.out.1 (Kd.C_below HR1.out HB.out) HH.out.2.1 HH.out.2.2.1 HH.out.2.2.2.1 HH.out.2.2.2.2).mono ?_
  rintro e w8 ⟨v2, rfl, hR, hb⟩
  obtain ⟨A2, c2, rfl⟩ := Kd.R_slice hR
  have hlt : (w.alloc (Obj.cells #[Value.string { data := #[] }, Value.int IntKind.i64 0, Value.slice none 0 0, Value.string { data := #[] }] 51)).heap.size = w.heap.size + 1 := alloc_size _ _
  have n0_ := Aside0.mk (below_step HB.out hb)
  have n1_ := Aside0.mk (blk_below HRb.out hb)
  have HO := Aside0.mk (Kd.R_lower hR (below_size HB.out))
  rw [hlt] at HO
  clear HB HRb hb hR hlt
  have HB := n0_; have HRb := n1_
  clear n0_ n1_
  have cR0 : w8.cell? ⟨w.heap.size, 0, none⟩ = some (.string ⟨#[]⟩) := (blk_cell HRb.out 0).trans rfl
  have cR1 : w8.cell? ⟨w.heap.size, 1, none⟩ = some (.int .i64 0) := (blk_cell HRb.out 1).trans rfl
  have cR2 : w8.cell? ⟨w.heap.size, 2, none⟩ = some (.slice none 0 0) := (blk_cell HRb.out 2).trans rfl
  have cR3 : w8.cell? ⟨w.heap.size, 3, none⟩ = some (.string ⟨#[]⟩) := (blk_cell HRb.out 3).trans rfl
  have fR0 := blk_frozen HRb.out 0
  have fR1 := blk_frozen HRb.out 1
  have fR2 := blk_frozen HRb.out 2
  have fR3 := blk_frozen HRb.out 3
  go_wp2_with (first | (fail))
  refine bodyPost_ret (results_cell_row rfl _ _ w.heap.size 51 #[.string name, .int .i64 7, .slice A2 l0.length c2, .string (catLaid l1)] (0, 0) _ rfl (by refine blk_put (cs := #[.string name, .int .i64 7, .slice A2 l0.length c2, .string (⟨#[]⟩ : ByteArray)]) ?_ 3 _ rfl; refine blk_put (cs := #[.string name, .int .i64 7, .slice none 0 0, .string (⟨#[]⟩ : ByteArray)]) ?_ 2 _ rfl; refine blk_put (cs := #[.string name, .int .i64 0, .slice none 0 0, .string (⟨#[]⟩ : ByteArray)]) ?_ 1 _ rfl; refine blk_put (cs := #[.string (⟨#[]⟩ : ByteArray), .int .i64 0, .slice none 0 0, .string (⟨#[]⟩ : ByteArray)]) ?_ 0 _ rfl; exact HRb.out) Try.underlying51 rfl (by kernel_rfl)) rfl ?_
  have hfar : ∀ k_ : Nat, w.heap.size + 1 ≤ k_ → k_ ≠ w.heap.size := fun k_ h => by omega
  exact ⟨_, rfl, Kd.R_mono (Kd.R_far (Kd.R_far (Kd.R_far (Kd.R_far HO.out hfar _) hfar _) hfar _) hfar _) (fun k_ h => by omega), below_set (below_set (below_set (below_set HB.out (Nat.le_refl _)) (Nat.le_refl _)) (Nat.le_refl _)) (Nat.le_refl _)⟩
end Go.Proofs.Ytdemgfbolcmcdaa.X
namespace Go.Proofs.Ytdemgfbolcmcdaa.X
open Go.RowKit Go.Proofs.YtdemgfbolcmcdaaW.PrintWords Go.Proofs.YtdemgfbolcmcdaaW.PrintLast Go.Proofs.YtdemgfbolcmcdaaW.PrintMore
attribute [local go_sem] max2_int min2_int max_two min_two max_three min_three max_four min_four
set_option linter.unusedVariables false
set_option linter.unusedSimpArgs false
def agatelaw07_Awake.f : Option Bool := some true
theorem awake07_check : tensor_Tensor_Check.f 20 ⟨#[97]⟩ 7 [2] (catLaid [1, -1]) = some 0 := by decide +kernel
theorem awake07_size : (catLaid [1, -1]).size = 16 := catLaid_size _
theorem set4_C {w : World} {A : Option Addr} {n g : Nat} {xs : List Int} {cs : Array Value} (h : Kd.C (Kd.int .i64) w A n xs) (hb : w.heap[g]? = some (.cells cs 51 (0, 0))) (hfar : ∀ ad, A = some ad → 0 < n → ad.block ≠ g) (a b c d : Value) : Kd.C (Kd.int .i64) ((((w.setCell ⟨g, 0, none⟩ a).setCell ⟨g, 1, none⟩ b).setCell ⟨g, 2, none⟩ c).setCell ⟨g, 3, none⟩ d) A n xs := by
  have h0 := Kd.reads_of_C (enc := Value.int .i64) (d := (0 : Int)) (h1 := fun _ => rfl) h
  refine Kd.C_of_reads (d := (0 : Int)) (h1 := fun _ => rfl) ⟨h0.1, h0.2.1, fun hn => ?_⟩
  obtain ⟨ad, e, hc⟩ := h0.2.2 hn
  refine ⟨ad, e, fun j hj => ?_⟩
  have hne := hfar ad e hn
  have hb2 : (ad.add j).block = ad.block := by unfold Addr.add; split <;> rfl
  rw [World.cell?_setCell_other _ _ _ _ (by intro he; exact hne (by rw [← hb2, ← he])), World.cell?_setCell_other _ _ _ _ (by intro he; exact hne (by rw [← hb2, ← he])), World.cell?_setCell_other _ _ _ _ (by intro he; exact hne (by rw [← hb2, ← he])), World.cell?_setCell_other _ _ _ _ (by intro he; exact hne (by rw [← hb2, ← he]))]
  exact hc j hj
set_option maxHeartbeats 8000000 in
set_option maxRecDepth 100000 in
theorem agatelaw07_Awake.calls (r : Bool) (w : World) (h : agatelaw07_Awake.f = some r) :
    Calls Try.prog 35 #[] w fun e w' => e = .returned (.bool r) ∧ Below w.heap.size w w' := by
  obtain rfl := Option.some.inj h
  clear h
  go_enter Try.func35, Try.ntmps35
  go_wp2_with (first | (fail))
  have hb0 : ((w.alloc (Obj.cells #[Value.int IntKind.i64 2] 2)).alloc (Obj.cells #[Value.int IntKind.i64 1, Value.int IntKind.i64 (-1)] 2)).heap[w.heap.size]? = some (Obj.cells #[Value.int IntKind.i64 2] 2) := blk_alloc (blk_new w _) _
  have hb1 : ((w.alloc (Obj.cells #[Value.int IntKind.i64 2] 2)).alloc (Obj.cells #[Value.int IntKind.i64 1, Value.int IntKind.i64 (-1)] 2)).heap[w.heap.size + 1]? = some (Obj.cells #[Value.int IntKind.i64 1, Value.int IntKind.i64 (-1)] 2) := by
    have h := blk_new (w.alloc (Obj.cells #[Value.int IntKind.i64 2] 2)) (Obj.cells #[Value.int IntKind.i64 1, Value.int IntKind.i64 (-1)] 2)
    rw [alloc_size] at h; exact h
  have r0 : Kd.C (Kd.int .i64) ((w.alloc (Obj.cells #[Value.int IntKind.i64 2] 2)).alloc (Obj.cells #[Value.int IntKind.i64 1, Value.int IntKind.i64 (-1)] 2)) (some ⟨w.heap.size, 0, none⟩) ([2] : List Int).length [2] := Kd.C_of_reads (d := (0 : Int)) (h1 := fun _ => rfl) ⟨rfl, by decide, fun _ => ⟨_, rfl, fun j hj => by
    have hj0 : j = 0 := by simp at hj; omega
    subst hj0
    exact (blk_cell hb0 0).trans rfl⟩⟩
  have r1 : Kd.C (Kd.int .i64) ((w.alloc (Obj.cells #[Value.int IntKind.i64 2] 2)).alloc (Obj.cells #[Value.int IntKind.i64 1, Value.int IntKind.i64 (-1)] 2)) (some ⟨w.heap.size + 1, 0, none⟩) ([1, -1] : List Int).length [1, -1] := Kd.C_of_reads (d := (0 : Int)) (h1 := fun _ => rfl) ⟨rfl, by decide, fun _ => ⟨_, rfl, fun j hj => by
    have hj0 : j = 0 ∨ j = 1 := by simp at hj; omega
    rcases hj0 with rfl | rfl
    · exact (blk_cell hb1 0).trans rfl
    · exact (blk_cell hb1 1).trans rfl⟩⟩
  have HB := Aside0.mk (below_alloc (below_alloc (Below.refl w.heap.size w) (Obj.cells #[Value.int IntKind.i64 2] 2)) (Obj.cells #[Value.int IntKind.i64 1, Value.int IntKind.i64 (-1)] 2))
  clear hb0 hb1
  refine (tensor_OfInts0.calls ⟨#[97]⟩ _ 1 [2] _ 2 [1, -1] _ r0 (Nat.le_refl _) r1 (Nat.le_refl _) (by decide) (by decide) (by simp)).mono ?_
  rintro e w1 ⟨v2, rfl, hR, hb⟩
  obtain ⟨A2, cp2, rfl⟩ := Kd.R_slice hR
  have n0_ := Aside0.mk (below_step HB.out hb)
  obtain ⟨A3, c3, he, hc3, hC⟩ := Kd.R_reads hR
  cases he
  have HC := Aside0.mk hC
  have HCC := Aside0.mk hc3
  have HF := Aside0.mk (show ∀ ad, A2 = some ad → ad.block < w1.heap.size from fun ad e => by
    obtain ⟨ad2, e2, h2⟩ := (Kd.reads_of_C (enc := Value.int .i64) (d := (0 : Int)) (h1 := fun _ => rfl) hC).2.2 (by decide)
    rw [e] at e2; cases e2
    exact World.block_lt_of_cell? w1 _ (h2 0 (by decide)))
  clear HB hb hR hC hc3 r0 r1
  have HB := n0_
  clear n0_
  have hsz := Aside0.mk awake07_size
  generalize hdd : catLaid [1, -1] = dd at hsz ⊢
  have HD := Aside0.mk hdd
  clear hdd
  go_wp2_with (first | ((with_reducible refine gate_dst (N := 1) rfl ?_); refine box_event ?hg (N := 1) ?hd (cs := #[.string (⟨#[]⟩ : ByteArray), .int .i64 0, .slice none 0 0, .string (⟨#[]⟩ : ByteArray)]) (t := 51) ?hr ?_; (case hd => rfl); (case hg => rfl); (case hr => first | (go_simp; done) | (go_simp; rfl)); intro gT hg wT hbox hb; have m0_ := Aside0.mk (below_step HB.out hb); have m1_ := Aside0.mk hbox; have m2_ := Aside0.mk (by rw [hg]; exact below_size HB.out : w.heap.size ≤ gT); have m3_ := Aside0.mk (Kd.C_below HC.out hb); clear HB HC; have HB := m0_; have BKT := m1_; have GWT := m2_; have HC := m3_; clear m0_ m1_ m2_ m3_; have HN := Aside0.mk (show ∀ ad, A2 = some ad → 0 < ([2] : List Int).length → ad.block ≠ gT from fun ad e _ => by have := HF.out ad e; omega); clear hb hbox hg; have c0 : wT.cell? ⟨gT, 0, none⟩ = some (.string (⟨#[]⟩ : ByteArray)) := (blk_cell BKT.out 0).trans rfl; have f0 := blk_frozen BKT.out 0; have c1 : wT.cell? ⟨gT, 1, none⟩ = some (.int .i64 0) := (blk_cell BKT.out 1).trans rfl; have f1 := blk_frozen BKT.out 1; have c2 : wT.cell? ⟨gT, 2, none⟩ = some (.slice none 0 0) := (blk_cell BKT.out 2).trans rfl; have f2 := blk_frozen BKT.out 2; have c3 : wT.cell? ⟨gT, 3, none⟩ = some (.string (⟨#[]⟩ : ByteArray)) := (blk_cell BKT.out 3).trans rfl; have f3 := blk_frozen BKT.out 3) | (fail))
  refine (agatelaw04_Awake.calls true _ rfl).mono ?_
  rintro e w4 ⟨rfl, hb⟩
  have n0_ := Aside0.mk (below_step (below_set (below_set (below_set (below_set HB.out GWT.out) GWT.out) GWT.out) GWT.out) hb)
  have n1_ := Aside0.mk (show w4.heap[gT]? = some (.cells #[.string ⟨#[97]⟩, .int .i64 7, .slice A2 ([2] : List Int).length cp2, .string dd] 51 (0, 0)) from blk_below (blk_put (blk_put (blk_put (blk_put BKT.out 0 _ rfl) 1 _ rfl) 2 _ rfl) 3 _ rfl) hb)
  have n2_ := Aside0.mk (Kd.C_below (set4_C HC.out BKT.out HN.out _ _ _ _) hb)
  clear HB BKT HC hb
  have HB := n0_
  have BKT := n1_
  have HC := n2_
  clear n0_ n1_ n2_
  have c0w4 : w4.cell? ⟨gT, 0, none⟩ = some (.string ⟨#[97]⟩) := (blk_cell BKT.out 0).trans rfl
  have f0w4 := blk_frozen BKT.out 0
  have c1w4 : w4.cell? ⟨gT, 1, none⟩ = some (.int .i64 7) := (blk_cell BKT.out 1).trans rfl
  have f1w4 := blk_frozen BKT.out 1
  have c2w4 : w4.cell? ⟨gT, 2, none⟩ = some (.slice A2 ([2] : List Int).length cp2) := (blk_cell BKT.out 2).trans rfl
  have f2w4 := blk_frozen BKT.out 2
  have c3w4 : w4.cell? ⟨gT, 3, none⟩ = some (.string dd) := (blk_cell BKT.out 3).trans rfl
  have f3w4 := blk_frozen BKT.out 3
  go_wp2_with (first | (fail))
  refine (agatelaw05_Awake_s.calls true _ rfl).mono ?_
  rintro e w5 ⟨rfl, hb⟩
  have n0_ := Aside0.mk (below_step (HB.out) hb)
  have n1_ := Aside0.mk (show w5.heap[gT]? = some (.cells #[.string ⟨#[97]⟩, .int .i64 7, .slice A2 ([2] : List Int).length cp2, .string dd] 51 (0, 0)) from blk_below BKT.out hb)
  have n2_ := Aside0.mk (Kd.C_below (HC.out) hb)
  clear HB BKT HC hb
  have HB := n0_
  have BKT := n1_
  have HC := n2_
  clear n0_ n1_ n2_
  have c0w5 : w5.cell? ⟨gT, 0, none⟩ = some (.string ⟨#[97]⟩) := (blk_cell BKT.out 0).trans rfl
  have f0w5 := blk_frozen BKT.out 0
  have c1w5 : w5.cell? ⟨gT, 1, none⟩ = some (.int .i64 7) := (blk_cell BKT.out 1).trans rfl
  have f1w5 := blk_frozen BKT.out 1
  have c2w5 : w5.cell? ⟨gT, 2, none⟩ = some (.slice A2 ([2] : List Int).length cp2) := (blk_cell BKT.out 2).trans rfl
  have f2w5 := blk_frozen BKT.out 2
  have c3w5 : w5.cell? ⟨gT, 3, none⟩ = some (.string dd) := (blk_cell BKT.out 3).trans rfl
  have f3w5 := blk_frozen BKT.out 3
  go_wp2_with (first | (fail))
  refine (agatelaw06_Awake.calls true _ rfl).mono ?_
  rintro e w6 ⟨rfl, hb⟩
  have n0_ := Aside0.mk (below_step (HB.out) hb)
  have n1_ := Aside0.mk (show w6.heap[gT]? = some (.cells #[.string ⟨#[97]⟩, .int .i64 7, .slice A2 ([2] : List Int).length cp2, .string dd] 51 (0, 0)) from blk_below BKT.out hb)
  have n2_ := Aside0.mk (Kd.C_below (HC.out) hb)
  clear HB BKT HC hb
  have HB := n0_
  have BKT := n1_
  have HC := n2_
  clear n0_ n1_ n2_
  have c0w6 : w6.cell? ⟨gT, 0, none⟩ = some (.string ⟨#[97]⟩) := (blk_cell BKT.out 0).trans rfl
  have f0w6 := blk_frozen BKT.out 0
  have c1w6 : w6.cell? ⟨gT, 1, none⟩ = some (.int .i64 7) := (blk_cell BKT.out 1).trans rfl
  have f1w6 := blk_frozen BKT.out 1
  have c2w6 : w6.cell? ⟨gT, 2, none⟩ = some (.slice A2 ([2] : List Int).length cp2) := (blk_cell BKT.out 2).trans rfl
  have f2w6 := blk_frozen BKT.out 2
  have c3w6 : w6.cell? ⟨gT, 3, none⟩ = some (.string dd) := (blk_cell BKT.out 3).trans rfl
  have f3w6 := blk_frozen BKT.out 3
  have q16 : ((dd.size : Int) == 16) = true := beq_iff_eq.2 (by have := hsz.out; omega)
  have q17 := hsz.out
  go_wp2_with (first | (fail))
  refine (tensor_Tensor_Check.calls 20 ⟨#[97]⟩ 7 A2 cp2 [2] dd 0 _ HC.out HCC.out (by rw [← HD.out]; exact awake07_check)).mono ?_
  rintro e w7 ⟨rfl, hb⟩
  have n0_ := Aside0.mk (below_step HB.out hb)
  clear HB hb
  have HB := n0_
  go_wp2_with (first | (fail))
  go_ret
  exact ⟨rfl, HB.out⟩
end Go.Proofs.Ytdemgfbolcmcdaa.X
namespace Go.Proofs.Ytdemgfbolcmcdaa.X
open Go.RowKit Go.Proofs.YtdemgfbolcmcdaaW.PrintWords Go.Proofs.YtdemgfbolcmcdaaW.PrintLast Go.Proofs.YtdemgfbolcmcdaaW.PrintMore
attribute [local go_sem] max2_int min2_int max_two min_two max_three min_three max_four min_four
set_option linter.unusedVariables false
set_option linter.unusedSimpArgs false
def idxS : List ByteArray → ByteArray → Nat → Int
  | [], _, _ => -1
  | x :: t, nm, i => if x = nm then (i : Int) else idxS t nm (i + 1)
def nmAttr (l : List S35) : List ByteArray := l.map (fun x => x.f0)
set_option maxHeartbeats 8000000 in
theorem closAttr.calls (e : S35) (A3 : Option Addr) (c3 : Nat) (gb : Nat) (nm : ByteArray) (w : World) (hb : w.heap[gb]? = some (.cells #[.string nm] 9 (0, 0))) :
    Calls Try.prog 37 #[.agg #[.string e.f0, .bool e.f1, .int .i64 e.f2, .slice A3 e.f3.length c3], .pointer (some ⟨gb, 0, none⟩)] w fun e' w' => e' = .returned (.bool (e.f0.toList == nm.toList)) ∧ Below w.heap.size w w' := by
  have hu := Try.underlying35
  have HB0 := Aside0.mk hb
  have hc : w.cell? ⟨gb, 0, none⟩ = some (.string nm) := blk_cell hb 0
  clear hb
  go_enter Try.func37, Try.ntmps37
  have hlt : gb < w.heap.size := blk_lt HB0.out
  go_wp2
  go_ret
  exact ⟨rfl, below_alloc (Below.refl w.heap.size w) _⟩
set_option maxHeartbeats 8000000 in
set_option maxRecDepth 100000 in
theorem idxAttr.calls (A0 : Option Addr) (c0 : Nat) (l0 : List S35) (gb : Nat) (nm : ByteArray) (w : World) (hr0 : Kd.C k35 w A0 l0.length l0) (hc0 : l0.length ≤ c0) (hb : w.heap[gb]? = some (.cells #[.string nm] 9 (0, 0))) :
    Calls Try.prog 36 #[.slice A0 l0.length c0, .func (Fn.func 37) #[] #[.pointer (some ⟨gb, 0, none⟩)]] w fun e w' => e = .returned (.int .i64 (idxS (nmAttr l0) nm 0)) ∧ Below w.heap.size w w' := by
  have HR0 := Aside0.mk hr0
  have HB0 := Aside0.mk hb
  have HL := Aside0.mk hr0.2.1
  have HB := Aside0.mk (Below.refl w.heap.size w)
  clear hr0 hb hc0
  go_enter Try.func36, Try.ntmps36
  go_wp2
  go_loopg [8] l0.length (fun kq v8 w' => ∃ i : Nat, v8 = .int .i64 i ∧ Aside0 (i + kq = l0.length) ∧ i ≤ l0.length ∧ Aside0 (idxS (nmAttr l0) nm 0 = idxS ((nmAttr l0).drop i) nm i) ∧ Aside0 (Below w.heap.size w w'))
  case atStart => exact ⟨0, rfl, ⟨by omega⟩, Nat.zero_le _, ⟨rfl⟩, HB⟩
  case round =>
    clear HB
    obtain ⟨i, rfl, HK, hi, HI, HB⟩ := hrel
    by_cases hlt : i < l0.length
    · have hlt' : decide ((i : Int) < (l0.length : Int)) = true := by simpa using hlt
      obtain ⟨kk, rfl⟩ : ∃ m, gk = m + 1 := ⟨gk - 1, by have := HK.out; omega⟩
      have p101 : 0 ≤ (i : Int) := Int.natCast_nonneg i
      have q101 : (i : Int) < (l0.length : Int) := by omega
      obtain ⟨ad101, A3, c3, e101, hx101_0, hx101_1, hx101_2, hx101_3, hl101_3, hi101_3⟩ := at_T35 (Kd.C_below HR0.out HB.out) (i : Int) p101 q101
      cases e101
      clear hl101_3 hi101_3
      rw [Int.toNat_natCast] at hx101_0 hx101_1 hx101_2 hx101_3
      have hr : rd_T35 l0 (i : Int) = l0[i] := by simp [rd_T35, hlt]
      have hn : (nmAttr l0).drop i = l0[i].f0 :: (nmAttr l0).drop (i + 1) := by
        unfold nmAttr
        rw [List.drop_eq_getElem_cons (by rw [List.length_map]; exact hlt), List.getElem_map]
      rw [hr] at hx101_0 hx101_1 hx101_2 hx101_3
      have HN := Aside0.mk hn
      clear hr hn
      have Hw : Aside0 (wrap64 ((i : Int) + 1) = (i : Int) + 1) := ⟨by have := HL.out; exact wrap64_id (by omega) (by omega)⟩
      replace p101 := eq_true p101
      replace q101 := eq_true q101
      go_wp2_with (first | (fail))
      refine (closAttr.calls l0[i] A3 c3 gb nm _ (blk_below HB0.out HB.out)).mono ?_
      rintro e w8 ⟨rfl, hb⟩
      have n0_ := Aside0.mk (below_step HB.out hb)
      clear HB hb
      have HB := n0_
      clear n0_
      by_cases hx : l0[i].f0 = nm
      · have hq : (l0[i].f0.toList == nm.toList) = true := by rw [hx]; exact beq_self_eq_true _
        have HX : Aside0 (idxS (nmAttr l0) nm 0 = (i : Int)) := ⟨by rw [HI.out, HN.out, idxS, if_pos hx]⟩
        clear hx
        go_wp2_with (first | (fail))
        go_ret
        exact ⟨by rw [HX.out]; rfl, HB.out⟩
      · have hq : (l0[i].f0.toList == nm.toList) = false := beq_eq_false_iff_ne.2 (fun h => hx (toList_inj.1 h))
        have HX : Aside0 (idxS (nmAttr l0) nm 0 = idxS ((nmAttr l0).drop (i + 1)) nm (i + 1)) := ⟨by rw [HI.out, HN.out, idxS, if_neg hx]⟩
        clear hx
        go_wp2_with (first | (fail))
        go_roundg kk
        case measure => have := HK.out; omega
        case rel => exact ⟨i + 1, by rw [Hw.out]; rfl, ⟨by have := HK.out; omega⟩, by omega, HX, HB⟩
    · have hlt' : decide ((i : Int) < (l0.length : Int)) = false := by simpa using hlt
      have HX : Aside0 (idxS (nmAttr l0) nm 0 = -1) := ⟨by rw [HI.out, List.drop_of_length_le (by unfold nmAttr; rw [List.length_map]; omega)]; rfl⟩
      go_wp2_with (first | (fail))
      go_ret
      exact ⟨by rw [HX.out]; rfl, HB.out⟩
end Go.Proofs.Ytdemgfbolcmcdaa.X
namespace Go.Proofs.Ytdemgfbolcmcdaa.X
open Go.RowKit Go.Proofs.YtdemgfbolcmcdaaW.PrintWords Go.Proofs.YtdemgfbolcmcdaaW.PrintLast Go.Proofs.YtdemgfbolcmcdaaW.PrintMore
attribute [local go_sem] max2_int min2_int max_two min_two max_three min_three max_four min_four
set_option linter.unusedVariables false
set_option linter.unusedSimpArgs false
theorem results_cell_tmp_row {P : Program} {fn : Func} {p u : Tmp} {ty : TypeId} (h : fn.results = #[.cell p ty, .tmp u]) (tmps : Array Value) (w : World) (g : Nat) (t : TypeId) (cs : Array Value) (fr : Nat × Nat) (d : TypeDesc)
    (hp : tmps.getD p undef = .pointer (some ⟨g, 0, none⟩)) (hg : w.heap[g]? = some (.cells cs t fr))
    (hu : P.underlying ty = some d) (hd : (match d with | .struct _ | .array _ _ => true | _ => false) = true) (hi : (P.info? ty).map (·.size) = some cs.size) :
    (results fn tmps).run P w = .ok (.tuple #[.agg cs, tmps.getD u undef]) w := by
  have hp' : tmps[p]?.getD undef = .pointer (some ⟨g, 0, none⟩) := by simpa using hp
  rw [results_cell_tmp h]
  simp [hp', asAddr, run_loadVar_row w g t ty cs fr d hg hu hd hi]
def attrR (l : List S35) (nm : ByteArray) : S35 := if idxS (nmAttr l) nm 0 < 0 then z35 else rd_T35 l (idxS (nmAttr l) nm 0)
theorem idxS_lt : ∀ (l : List ByteArray) (nm : ByteArray) (i : Nat), idxS l nm i = -1 ∨ ∃ j, j < l.length ∧ idxS l nm i = ((i + j : Nat) : Int)
  | [], nm, i => .inl rfl
  | x :: t, nm, i => by
    unfold idxS
    by_cases h : x = nm
    · rw [if_pos h]; exact .inr ⟨0, by simp, by simp⟩
    · rw [if_neg h]
      rcases idxS_lt t nm (i + 1) with h | ⟨j, hj, h⟩
      · exact .inl h
      · exact .inr ⟨j + 1, by simp; exact hj, by rw [h]; omega⟩
set_option maxHeartbeats 8000000 in
set_option maxRecDepth 100000 in
theorem nodeAttr.calls (op : ByteArray) (A1 : Option Addr) (n1 c1 : Nat) (out : ByteArray) (A3 : Option Addr) (c3 : Nat) (l3 : List S35) (nm : ByteArray) (P : Nat → Prop) (w : World) (hs3 : Kd.V k35 35 w w.heap.size P (.slice A3 l3.length c3) l3) :
    Calls Try.prog 9 #[.agg #[.string op, .slice A1 n1 c1, .string out, .slice A3 l3.length c3], .string nm] w fun e w' => (∃ A c, e = .returned (.tuple #[.agg #[.string (attrR l3 nm).f0, .bool (attrR l3 nm).f1, .int .i64 (attrR l3 nm).f2, .slice A (attrR l3 nm).f3.length c], .bool (decide (0 ≤ idxS (nmAttr l3) nm 0))]) ∧ Kd.V (Kd.int .i64) 2 w' w.heap.size (fun k_ => P k_ ∨ w.heap.size ≤ k_) (.slice A (attrR l3 nm).f3.length c) (attrR l3 nm).f3) ∧ Below w.heap.size w w' := by
  have hu := Try.underlying35
  have hu2 := Try.underlying33
  have HS0 := Aside0.mk hs3
  have HR0 := Aside0.mk (Kd.V_reads' hs3).2.2
  have HC0 := Aside0.mk (Kd.V_reads' hs3).2.1
  clear hs3
  go_enter Try.func9, Try.ntmps9
  go_wp2_with (first | (fail))
  have e1 : (w.alloc (Obj.cells #[Value.string op, Value.slice A1 n1 c1, Value.string out, Value.slice A3 l3.length c3] 33)).heap.size = w.heap.size + 1 := alloc_size _ _
  have e2 : ((w.alloc (Obj.cells #[Value.string op, Value.slice A1 n1 c1, Value.string out, Value.slice A3 l3.length c3] 33)).alloc (Obj.cells #[Value.string nm] 9)).heap.size = w.heap.size + 1 + 1 := by rw [alloc_size, e1]
  have BK0 := Aside0.mk (show (((w.alloc (Obj.cells #[Value.string op, Value.slice A1 n1 c1, Value.string out, Value.slice A3 l3.length c3] 33)).alloc (Obj.cells #[Value.string nm] 9)).alloc (Obj.cells #[Value.string { data := #[] }, Value.bool false, Value.int IntKind.i64 0, Value.slice none 0 0] 35)).heap[w.heap.size]? = some (.cells #[Value.string op, Value.slice A1 n1 c1, Value.string out, Value.slice A3 l3.length c3] 33 (0, 0)) from blk_alloc (blk_alloc (blk_new w _) _) _)
  have BK1 := Aside0.mk (show (((w.alloc (Obj.cells #[Value.string op, Value.slice A1 n1 c1, Value.string out, Value.slice A3 l3.length c3] 33)).alloc (Obj.cells #[Value.string nm] 9)).alloc (Obj.cells #[Value.string { data := #[] }, Value.bool false, Value.int IntKind.i64 0, Value.slice none 0 0] 35)).heap[w.heap.size + 1]? = some (.cells #[Value.string nm] 9 (0, 0)) from blk_alloc (by rw [← e1]; exact blk_new _ _) _)
  have BK2 := Aside0.mk (show (((w.alloc (Obj.cells #[Value.string op, Value.slice A1 n1 c1, Value.string out, Value.slice A3 l3.length c3] 33)).alloc (Obj.cells #[Value.string nm] 9)).alloc (Obj.cells #[Value.string { data := #[] }, Value.bool false, Value.int IntKind.i64 0, Value.slice none 0 0] 35)).heap[w.heap.size + 1 + 1]? = some (.cells #[Value.string { data := #[] }, Value.bool false, Value.int IntKind.i64 0, Value.slice none 0 0] 35 (0, 0)) from by rw [← e2]; exact blk_new _ _)
  have HB := Aside0.mk (below_alloc (below_alloc (below_alloc (Below.refl w.heap.size w) (Obj.cells #[Value.string op, Value.slice A1 n1 c1, Value.string out, Value.slice A3 l3.length c3] 33)) (Obj.cells #[Value.string nm] 9)) (Obj.cells #[Value.string { data := #[] }, Value.bool false, Value.int IntKind.i64 0, Value.slice none 0 0] 35))
  clear e1 e2
  generalize (((w.alloc (Obj.cells #[Value.string op, Value.slice A1 n1 c1, Value.string out, Value.slice A3 l3.length c3] 33)).alloc (Obj.cells #[Value.string nm] 9)).alloc (Obj.cells #[Value.string { data := #[] }, Value.bool false, Value.int IntKind.i64 0, Value.slice none 0 0] 35)) = w3 at BK0 BK1 BK2 HB ⊢
  refine (idxAttr.calls A3 c3 l3 (w.heap.size + 1) nm _ (Kd.C_below HR0.out HB.out) HC0.out BK1.out).mono ?_
  rintro e w8 ⟨rfl, hb⟩
  have n0_ := Aside0.mk (below_step HB.out hb)
  have n1_ := Aside0.mk (blk_below BK0.out hb)
  have n2_ := Aside0.mk (blk_below BK2.out hb)
  clear HB BK0 BK1 BK2 hb
  have HB := n0_; have BK0 := n1_; have BK2 := n2_
  clear n0_ n1_ n2_
  have f2 := blk_frozen BK2.out 0
  have f3 := blk_frozen BK2.out 1
  have f4 := blk_frozen BK2.out 2
  have f5 := blk_frozen BK2.out 3
  have g0 : w8.cell? ⟨w.heap.size + 1 + 1, 0, none⟩ = some (.string ⟨#[]⟩) := blk_cell BK2.out 0
  have g1 : w8.cell? ⟨w.heap.size + 1 + 1, 1, none⟩ = some (.bool false) := blk_cell BK2.out 1
  have g2 : w8.cell? ⟨w.heap.size + 1 + 1, 2, none⟩ = some (.int .i64 0) := blk_cell BK2.out 2
  have g3 : w8.cell? ⟨w.heap.size + 1 + 1, 3, none⟩ = some (.slice none 0 0) := blk_cell BK2.out 3
  have g4 : w8.cell? ⟨w.heap.size, 3, none⟩ = some (.slice A3 l3.length c3) := blk_cell BK0.out 3
  rcases idxS_lt (nmAttr l3) nm 0 with hx | ⟨j, hj, hx⟩
  · have HX := Aside0.mk (show attrR l3 nm = z35 by unfold attrR; rw [hx]; rfl)
    have HX2 := Aside0.mk (show decide (0 ≤ idxS (nmAttr l3) nm 0) = false by rw [hx]; rfl)
    rw [hx]
    clear hx
    go_wp2_with (first | (fail))
    refine bodyPost_ret (results_cell_tmp_row rfl _ _ (w.heap.size + 1 + 1) 35 #[.string ⟨#[]⟩, .bool false, .int .i64 0, .slice none 0 0] (0, 0) _ rfl (by refine blk_put (cs := #[.string ⟨#[]⟩, .bool false, .int .i64 0, .slice none 0 0]) ?_ 3 _ rfl; refine blk_put (cs := #[.string ⟨#[]⟩, .bool false, .int .i64 0, .slice none 0 0]) ?_ 2 _ rfl; refine blk_put (cs := #[.string ⟨#[]⟩, .bool false, .int .i64 0, .slice none 0 0]) ?_ 1 _ rfl; refine blk_put (cs := #[.string ⟨#[]⟩, .bool false, .int .i64 0, .slice none 0 0]) ?_ 0 _ rfl; exact BK2.out) Try.underlying35 rfl (by kernel_rfl)) rfl ?_
    rw [HX.out, HX2.out]
    exact ⟨⟨none, 0, rfl, Kd.V_nil _ _ _ _ _⟩, below_set (below_set (below_set (below_set HB.out (by omega)) (by omega)) (by omega)) (by omega)⟩
  · have hx0 : idxS (nmAttr l3) nm 0 = (j : Int) := by rw [hx]; simp
    have hjl : j < l3.length := by unfold nmAttr at hj; rw [List.length_map] at hj; exact hj
    have hr : rd_T35 l3 (j : Int) = l3[j] := by simp [rd_T35, hjl]
    obtain ⟨x, hxe⟩ : ∃ x, x = l3[j] := ⟨_, rfl⟩
    have HX := Aside0.mk (show attrR l3 nm = x by unfold attrR; rw [hx0, if_neg (by omega), hr, hxe])
    have HX2 := Aside0.mk (show decide (0 ≤ idxS (nmAttr l3) nm 0) = true by rw [hx0]; exact decide_eq_true (by omega))
    have hneg : decide ((j : Int) < 0) = false := decide_eq_false (by omega)
    have p101 : 0 ≤ (j : Int) := Int.natCast_nonneg j
    have q101 : (j : Int) < (l3.length : Int) := by omega
    obtain ⟨ad101, A4, c4, e101, hx101_0, hx101_1, hx101_2, hx101_3, hl4, hi4⟩ := at_T35 HR0.out (j : Int) p101 q101
    cases e101
    obtain ⟨ce, hce, hMe, hcc⟩ := Kd.V_get HS0.out z35 (j : Int) p101 q101
    obtain ⟨ua, uc, rfl, ul, ge⟩ := k35_openF hMe
    have hv := hcc 3 _ rfl
    rw [add_field _ _ 3 (by omega)] at hv
    replace hv := Option.some.inj (hv.symm.trans hx101_3)
    injection hv with hva hvn hvc
    rw [hva] at ge
    rw [hvc] at ul
    have hV4 := (show Kd.V (Kd.int .i64) 2 w w.heap.size P (.slice A4 (rd_T35 l3 (j : Int)).f3.length c4) (rd_T35 l3 (j : Int)).f3 from Kd.V_mk ul ge)
    clear hva hvn hvc ge ul hcc hce hMe
    replace hx101_0 := (HB.out.cell (World.block_lt_of_cell? w _ hx101_0)).trans hx101_0
    replace hx101_1 := (HB.out.cell (World.block_lt_of_cell? w _ hx101_1)).trans hx101_1
    replace hx101_2 := (HB.out.cell (World.block_lt_of_cell? w _ hx101_2)).trans hx101_2
    replace hx101_3 := (HB.out.cell (World.block_lt_of_cell? w _ hx101_3)).trans hx101_3
    rw [Int.toNat_natCast] at hx101_0 hx101_1 hx101_2 hx101_3
    rw [hr, ← hxe] at hx101_0 hx101_1 hx101_2 hx101_3 hV4
    have HR4 := Aside0.mk hV4
    rw [hx0]
    clear hr hx hx0 hi4 hl4 hxe hV4 hj
    clear hjl
    replace p101 := eq_true p101
    replace q101 := eq_true q101
    go_wp2_with (first | (fail))
    have hBs := Aside0.mk (show Below w.heap.size w ((((w8.setCell ⟨w.heap.size + 1 + 1, 0, none⟩ (.string x.f0)).setCell ⟨w.heap.size + 1 + 1, 1, none⟩ (.bool x.f1)).setCell ⟨w.heap.size + 1 + 1, 2, none⟩ (.int .i64 x.f2)).setCell ⟨w.heap.size + 1 + 1, 3, none⟩ (.slice A4 x.f3.length c4)) from below_set (below_set (below_set (below_set HB.out (by omega)) (by omega)) (by omega)) (by omega))
    refine bodyPost_ret (results_cell_tmp_row rfl _ _ (w.heap.size + 1 + 1) 35 #[.string x.f0, .bool x.f1, .int .i64 x.f2, .slice A4 x.f3.length c4] (0, 0) _ rfl (by refine blk_put (cs := #[.string x.f0, .bool x.f1, .int .i64 x.f2, .slice none 0 0]) ?_ 3 _ rfl; refine blk_put (cs := #[.string x.f0, .bool x.f1, .int .i64 0, .slice none 0 0]) ?_ 2 _ rfl; refine blk_put (cs := #[.string x.f0, .bool false, .int .i64 0, .slice none 0 0]) ?_ 1 _ rfl; refine blk_put (cs := #[.string ⟨#[]⟩, .bool false, .int .i64 0, .slice none 0 0]) ?_ 0 _ rfl; exact BK2.out) Try.underlying35 rfl (by kernel_rfl)) rfl ?_
    rw [HX.out, HX2.out]
    exact ⟨⟨A4, c4, rfl, Kd.V_mono (Kd.V_below HR4.out hBs.out) (fun k_ h => .inl h)⟩, hBs.out⟩
end Go.Proofs.Ytdemgfbolcmcdaa.X
