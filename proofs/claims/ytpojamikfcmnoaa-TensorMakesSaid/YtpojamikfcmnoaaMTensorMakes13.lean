import Derived.Test.YtpojamikfcmnoaaMTensorMakes2
import Derived.Test.YtpojamikfcmnoaaMTensorMakes11
import Derived.Test.YtpojamikfcmnoaaMTensorMakes12
import Derived.Test.YtpojamikfcmnoaaMTensorMakes3
import Derived.Shelf.Strings.Builder1
namespace Go.Proofs.Ytpojamikfcmnoaa.X
open Go.RowKit Go.Proofs.YtpojamikfcmnoaaW.PrintWords Go.Proofs.YtpojamikfcmnoaaW.PrintLast Go.Proofs.YtpojamikfcmnoaaW.PrintMore
attribute [local go_sem] max2_int min2_int max_two min_two max_three min_three max_four min_four
set_option linter.unusedVariables false
set_option linter.unusedSimpArgs false
def tensor_laidX.f (a0 : Int) : Option ByteArray := some (laid8 a0)
theorem tensor_laidX.calls (a0 : Int) (r : ByteArray) (w : World) (h : tensor_laidX.f a0 = some r) :
    Calls Try.prog 77 #[.int .i64 a0] w fun e w' => e = .returned (.string r) ∧ Below w.heap.size w w' := by
  obtain rfl := Option.some.inj h
  exact tensor_laid.calls a0 w
theorem tensor_laidX_size (x : Int) (s : ByteArray) (h : tensor_laidX.f x = some s) : 0 < s.size := by
  obtain rfl := Option.some.inj h
  rw [laid8_size]; omega
end Go.Proofs.Ytpojamikfcmnoaa.X
namespace Go.Proofs.Ytpojamikfcmnoaa.X
open Go.RowKit Go.Proofs.YtpojamikfcmnoaaW.PrintWords Go.Proofs.YtpojamikfcmnoaaW.PrintLast Go.Proofs.YtpojamikfcmnoaaW.PrintMore
attribute [local go_sem] max2_int min2_int max_two min_two max_three min_three max_four min_four
set_option linter.unusedVariables false
set_option linter.unusedSimpArgs false
def tensor_of_int64.f (a0 : ByteArray) (a1 : Int) (l2 : List Int) (l3 : List Int) : Option (ByteArray × Int × List Int × ByteArray) := if l2.length ≤ 1000000 then (if l3.length ≤ 1000000 then (catOf tensor_laidX.f l3).bind fun s => (if s.size ≤ 100000000 then some (a0, a1, l2, s) else none) else none) else none
set_option maxHeartbeats 8000000 in
set_option maxRecDepth 100000 in
theorem tensor_of_int64.calls (a0 : ByteArray) (a1 : Int) (A2 : Option Addr) (c2 : Nat) (l2 : List Int) (A3 : Option Addr) (c3 : Nat) (l3 : List Int) (r1 : ByteArray) (r2 : Int) (r3 : List Int) (r4 : ByteArray) (w : World) (hr2 : Kd.C (Kd.int .i64) w A2 l2.length l2) (hc2 : l2.length ≤ c2) (hr3 : Kd.C (Kd.int .i64) w A3 l3.length l3) (hc3 : l3.length ≤ c3) (h : tensor_of_int64.f a0 a1 l2 l3 = some (r1, r2, r3, r4)) :
    Calls Try.prog 76 #[.string a0, .int .i64 a1, .slice A2 l2.length c2, .slice A3 l3.length c3, .func (Fn.func 77) #[] #[]] w fun e w' => ∃ v2_ : Value, e = .returned (.agg #[.string r1, .int .i64 r2, v2_, .string r4]) ∧ Kd.R (Kd.int .i64) 2 w' w.heap.size (fun _ => True) v2_ r3 ∧ Below w.heap.size w w' := by
  unfold tensor_of_int64.f at h
  by_cases hl2 : l2.length ≤ 1000000
  case neg => rw [if_neg hl2] at h; cases h
  rw [if_pos hl2] at h
  by_cases hl3 : l3.length ≤ 1000000
  case neg => rw [if_neg hl3] at h; cases h
  rw [if_pos hl3] at h
  obtain ⟨s, hs, h⟩ := Option.bind_eq_some_iff.mp h
  by_cases hl4 : s.size ≤ 100000000
  case neg => rw [if_neg hl4] at h; cases h
  rw [if_pos hl4] at h
  obtain ⟨rfl, rfl, rfl, rfl⟩ : a0 = r1 ∧ a1 = r2 ∧ l2 = r3 ∧ s = r4 := by have h2 := Option.some.inj h; simpa using h2
  clear h
  have HR0 := Aside0.mk hr2
  have HC0 := Aside0.mk hc2
  have HL0 := Aside0.mk hl2
  have HR1 := Aside0.mk hr3
  have HC1 := Aside0.mk hc3
  have HL := Aside0.mk hl3
  have HS4 := Aside0.mk hl4
  have HCAT := Aside0.mk hs
  clear hr2 hc2 hl2 hr3 hc3 hl3 hl4 hs
  go_enter Try.func76, Try.ntmps76
  go_wp2
  have HRb := Aside0.mk (show ((w.alloc (Obj.cells #[Value.string { data := #[] }, Value.int IntKind.i64 0, Value.slice none 0 0, Value.string { data := #[] }] 62)).alloc (Obj.cells #[Value.pointer none, Value.slice none 0 0] 126)).heap[w.heap.size]? = some (Obj.cells #[Value.string { data := #[] }, Value.int IntKind.i64 0, Value.slice none 0 0, Value.string { data := #[] }] 62) from blk_alloc (blk_new w _) _)
  have HB := Aside0.mk (below_alloc (below_alloc (Below.refl w.heap.size w) (Obj.cells #[Value.string { data := #[] }, Value.int IntKind.i64 0, Value.slice none 0 0, Value.string { data := #[] }] 62)) (Obj.cells #[Value.pointer none, Value.slice none 0 0] 126))
  have HF : Aside0 ((0 : Nat) = 0 → ((w.alloc (Obj.cells #[Value.string { data := #[] }, Value.int IntKind.i64 0, Value.slice none 0 0, Value.string { data := #[] }] 62)).alloc (Obj.cells #[Value.pointer none, Value.slice none 0 0] 126)).heap[w.heap.size + 1]? = some (Obj.cells #[Value.pointer none, Value.slice none 0 0] 126)) := ⟨fun _ => by
    have e : (w.alloc (Obj.cells #[Value.string { data := #[] }, Value.int IntKind.i64 0, Value.slice none 0 0, Value.string { data := #[] }] 62)).heap.size = w.heap.size + 1 := alloc_size _ _
    rw [← e]; exact blk_new _ _⟩
  have HI : Aside0 (Lib.IsBuilder 126 5 (w.heap.size + 1) (w.heap.size + 1) (Lib.byteCells (⟨#[]⟩ : ByteArray).data.toList) ((w.alloc (Obj.cells #[Value.string { data := #[] }, Value.int IntKind.i64 0, Value.slice none 0 0, Value.string { data := #[] }] 62)).alloc (Obj.cells #[Value.pointer none, Value.slice none 0 0] 126))) := ⟨by
    have h := Lib.fresh_isBuilder 126 5 (w.alloc (Obj.cells #[Value.string { data := #[] }, Value.int IntKind.i64 0, Value.slice none 0 0, Value.string { data := #[] }] 62))
    have e : (w.alloc (Obj.cells #[Value.string { data := #[] }, Value.int IntKind.i64 0, Value.slice none 0 0, Value.string { data := #[] }] 62)).heap.size = w.heap.size + 1 := alloc_size _ _
    rw [e] at h
    exact h⟩
  go_loopg [16] l3.length (fun kq v16 w' => ∃ (i : Nat) (si : ByteArray), v16 = .int .i64 i ∧ Aside0 (i + kq = l3.length) ∧ i ≤ l3.length ∧ Aside0 (catOf tensor_laidX.f (l3.take i) = some si) ∧ Aside0 (i = 0 → w'.heap[w.heap.size + 1]? = some (Obj.cells #[Value.pointer none, Value.slice none 0 0] 126)) ∧ Aside0 (Lib.IsBuilder 126 5 (w.heap.size + 1) (w.heap.size + 1) (Lib.byteCells si.data.toList) w') ∧ Aside0 (w'.heap[w.heap.size]? = some (Obj.cells #[Value.string { data := #[] }, Value.int IntKind.i64 0, Value.slice none 0 0, Value.string { data := #[] }] 62)) ∧ Aside0 (w.heap.size + 1 ≤ w'.heap.size) ∧ Aside0 (Below w.heap.size w w'))
  case atStart => exact ⟨0, ⟨#[]⟩, rfl, ⟨by omega⟩, Nat.zero_le _, ⟨rfl⟩, HF, HI, HRb, ⟨by rw [alloc_size, alloc_size]; omega⟩, HB⟩
  case round =>
    clear HRb HB HI HF
    obtain ⟨i, si, rfl, HK, hi, HCi, HF, HI, HRb, HS, HB⟩ := hrel
    by_cases hlt : i < l3.length
    · have hlt' : decide ((i : Int) < (l3.length : Int)) = true := by simpa using hlt
      obtain ⟨kk, rfl⟩ : ∃ m, gk = m + 1 := ⟨gk - 1, by have := HK.out; omega⟩
      obtain ⟨si', x, q1_, q2_, q3_, q4_⟩ := catOf_step HCAT.out 0 i hlt
      obtain rfl : si' = si := Option.some.inj (q1_.symm.trans HCi.out)
      have Hone := Aside0.mk q2_
      have Hcat := Aside0.mk q3_
      have Hsz := Aside0.mk q4_
      clear q1_ q2_ q3_ q4_ HF HCi
      have Hlen : Aside0 ((Lib.byteCells si'.data.toList).length + x.size ≤ 140737488355328) := ⟨by
        have h1 := Hsz.out
        have h2 := HS4.out
        rw [ByteArray.size_append] at h1
        rw [byteCells_len]
        omega⟩
      have Hw : Aside0 (wrap64 ((i : Int) + 1) = (i : Int) + 1) := ⟨by have := HL.out; exact wrap64_id (by omega) (by omega)⟩
      have p101 : 0 ≤ (i : Int) := Int.natCast_nonneg i
      have q101 : (i : Int) < (l3.length : Int) := by omega
      obtain ⟨ad101, e101, hx101_0⟩ := Kd.at_int HR1.out i p101 q101
      cases e101
      replace hx101_0 := (HB.out.cell (World.block_lt_of_cell? w _ hx101_0)).trans hx101_0
      rw [Int.toNat_natCast] at hx101_0
      have Hone2 : Aside0 (tensor_laidX.f (rd l3 (i : Int)) = some x) := ⟨Hone.out⟩
      replace p101 := eq_true p101
      replace q101 := eq_true q101
      go_wp2_with (first | (fail))
      refine (tensor_laidX.calls (rd l3 (i : Int)) x _ Hone2.out).mono ?_
      rintro e w8 ⟨rfl, hb⟩
      have n0_ := Aside0.mk (below_step HB.out hb)
      have n1_ := Aside0.mk (isBuilder_below HI.out hb)
      have n2_ := Aside0.mk (blk_below HRb.out hb)
      have n3_ := Aside0.mk (Nat.le_trans HS.out hb.size)
      clear HB HI HRb HS hb
      have HB := n0_; have HI := n1_; have HRb := n2_; have HS := n3_
      clear n0_ n1_ n2_ n3_
      go_wp2_with (first | (fail))
      refine (Sh.WriteString (w.heap.size + 1) (w.heap.size + 1) _ x _ HI.out Hlen.out HS.out).mono ?_
      rintro e w9 ⟨rfl, hi8, hb⟩
      have n0_ := Aside0.mk (HB.out.trans (below_low hb (Nat.le_succ _)))
      have n1_ := Aside0.mk (show Lib.IsBuilder 126 5 (w.heap.size + 1) (w.heap.size + 1) _ w9 from .inr hi8)
      have n2_ := Aside0.mk ((hb.block w.heap.size (Nat.lt_succ_self _)).trans HRb.out)
      have n3_ := Aside0.mk (Nat.le_trans HS.out hb.size)
      clear HB HI HRb HS hb hi8
      have HB := n0_; have HI := n1_; have HRb := n2_; have HS := n3_
      clear n0_ n1_ n2_ n3_
      go_wp2_with (first | (fail))
      go_roundg kk
      case measure => have := HK.out; omega
      case rel => exact ⟨i + 1, _, by rw [Hw.out]; rfl, ⟨by have := HK.out; omega⟩, by omega, Hcat, ⟨fun h => absurd h (Nat.succ_ne_zero _)⟩, ⟨by rw [← byteCells_cat]; exact HI.out⟩, HRb, HS, HB⟩
    · have hlt' : decide ((i : Int) < (l3.length : Int)) = false := by simpa using hlt
      obtain rfl := catOf_all HCAT.out i (by omega) HCi.out
      have hlt2 : w.heap.size < wr.heap.size := by have := HS.out; omega
      by_cases hne : si.data.toList = []
      · by_cases hn1 : l3 = []
        · subst hn1
          obtain rfl : i = 0 := by simpa using hi
          have HG := Aside0.mk (HF.out rfl)
          have HE := Aside0.mk (show si = ⟨#[]⟩ from catOf_nil HCAT.out)
          clear HF HI
          go_wp2_with (first | (fail))
          refine (slices_Clone_int64.calls A2 c2 l2 l2 _ (Kd.C_below HR0.out HB.out) HC0.out (if_pos (by have := HL0.out; omega))).mono ?_
          rintro e w8 ⟨v2, rfl, hR, hb⟩
          obtain ⟨A4, c4, rfl⟩ := Kd.R_slice hR
          have n0_ := Aside0.mk (below_step HB.out hb)
          have n1_ := Aside0.mk (blk_below HRb.out hb)
          have n3_ := Aside0.mk (blk_below HG.out hb)
          have HO := Aside0.mk (Kd.R_lower hR (below_size HB.out))
          clear HB HRb HG hb hR
          have HB := n0_; have HRb := n1_; have HG := n3_
          clear n0_ n1_ n3_
          go_wp2_with (first | (fail))
          refine (sh_String_nil.calls (w.heap.size + 1) _ _ HG.out).mono ?_
          rintro e w9 ⟨rfl, rfl⟩
          have n0_ := Aside0.mk (below_drew1 HB.out)
          have n1_ := Aside0.mk (blk_drew HRb.out)
          have HO2 := Aside0.mk (Kd.R_drew HO.out)
          generalize w8.drew = w9 at n0_ n1_ HO2 ⊢
          clear HB HRb HO HG
          have HB := n0_; have HRb := n1_
          clear n0_ n1_
          have cR0 : w9.cell? ⟨w.heap.size, 0, none⟩ = some (.string ⟨#[]⟩) := (blk_cell HRb.out 0).trans rfl
          have cR1 : w9.cell? ⟨w.heap.size, 1, none⟩ = some (.int .i64 0) := (blk_cell HRb.out 1).trans rfl
          have cR2 : w9.cell? ⟨w.heap.size, 2, none⟩ = some (.slice none 0 0) := (blk_cell HRb.out 2).trans rfl
          have cR3 : w9.cell? ⟨w.heap.size, 3, none⟩ = some (.string ⟨#[]⟩) := (blk_cell HRb.out 3).trans rfl
          have fR0 := blk_frozen HRb.out 0
          have fR1 := blk_frozen HRb.out 1
          have fR2 := blk_frozen HRb.out 2
          have fR3 := blk_frozen HRb.out 3
          go_wp2_with (first | (fail))
          refine bodyPost_ret (results_cell_row rfl _ _ w.heap.size 62 #[.string a0, .int .i64 a1, .slice A4 l2.length c4, .string ⟨#[]⟩] (0, 0) _ rfl (by refine blk_put (cs := #[.string a0, .int .i64 a1, .slice A4 l2.length c4, .string (⟨#[]⟩ : ByteArray)]) ?_ 3 _ rfl; refine blk_put (cs := #[.string a0, .int .i64 a1, .slice none 0 0, .string (⟨#[]⟩ : ByteArray)]) ?_ 2 _ rfl; refine blk_put (cs := #[.string a0, .int .i64 0, .slice none 0 0, .string (⟨#[]⟩ : ByteArray)]) ?_ 1 _ rfl; refine blk_put (cs := #[.string (⟨#[]⟩ : ByteArray), .int .i64 0, .slice none 0 0, .string (⟨#[]⟩ : ByteArray)]) ?_ 0 _ rfl; exact HRb.out) Try.underlying62 rfl (by kernel_rfl)) rfl ?_
          have hfar : ∀ k_ : Nat, wr.heap.size ≤ k_ → k_ ≠ w.heap.size := fun k_ h => by omega
          exact ⟨_, by rw [HE.out], Kd.R_mono (Kd.R_far (Kd.R_far (Kd.R_far (Kd.R_far HO2.out hfar _) hfar _) hfar _) hfar _) (fun k_ h => trivial), below_set (below_set (below_set (below_set HB.out (Nat.le_refl _)) (Nat.le_refl _)) (Nat.le_refl _)) (Nat.le_refl _)⟩
        · exfalso
          obtain ⟨si', x, q1_, q2_, q3_, q4_⟩ := catOf_step HCAT.out 0 0 (Nat.pos_of_ne_zero (fun h => hn1 (List.eq_nil_of_length_eq_zero h)))
          have h1 := tensor_laidX_size _ _ q2_
          have h2 : si.size = 0 := by rw [show si.size = si.data.toList.length from Array.length_toList.symm, hne]; rfl
          rw [ByteArray.size_append] at q4_
          omega
      · obtain ⟨p, g, cap, cur, hBg, hgl, hbl, hbk, hg, hnc, hcm, hcs, ht⟩ := builder_lies HI.out hne
        have HBK := Aside0.mk hbk
        have HG := Aside0.mk hg
        have HT := Aside0.mk (And.intro hnc (And.intro hcm (And.intro hcs ht)))
        have HGL := Aside0.mk hgl
        have HBL := Aside0.mk hbl
        have HBG := Aside0.mk hBg
        have HNE := Aside0.mk hne
        clear hbk hg hnc hcm hcs ht hgl hbl hBg hne HI HF
        go_wp2_with (first | (fail))
        refine (slices_Clone_int64.calls A2 c2 l2 l2 _ (Kd.C_below HR0.out HB.out) HC0.out (if_pos (by have := HL0.out; omega))).mono ?_
        rintro e w8 ⟨v2, rfl, hR, hb⟩
        obtain ⟨A4, c4, rfl⟩ := Kd.R_slice hR
        have n0_ := Aside0.mk (below_step HB.out hb)
        have n1_ := Aside0.mk (blk_below HRb.out hb)
        have n2_ := Aside0.mk (blk_below HBK.out hb)
        have n3_ := Aside0.mk (blk_below HG.out hb)
        have HO := Aside0.mk (Kd.R_lower hR (below_size HB.out))
        clear HB HRb HBK HG hb hR
        have HB := n0_; have HRb := n1_; have HBK := n2_; have HG := n3_
        clear n0_ n1_ n2_ n3_
        go_wp2_with (first | (fail))
        refine (sh_String.calls (w.heap.size + 1) g cap p cur _ _ HNE.out HBK.out HG.out HT.out.1 HT.out.2.1 HT.out.2.2.1 HT.out.2.2.2).mono ?_
        rintro e w9 ⟨rfl, hw9⟩
        have hk := freeze_kept w8 g si.data.toList.length
        rw [← hw9] at hk
        have n0_ := Aside0.mk (show Below w.heap.size w w9 by rw [hw9]; exact Lib.below_freeze (below_drew1 HB.out) (p := ⟨g, 0, none⟩) (by have := HBG.out; show w.heap.size ≤ g; omega) _)
        have n1_ := Aside0.mk ((hk.2 w.heap.size (blk_lt HRb.out) (by have := HBG.out; omega)).trans HRb.out)
        have HO2 := Aside0.mk (Kd.R_kept HO.out hk (fun k hk1 hk2 => by have := HGL.out; omega))
        clear HB HRb HO hk hw9 HBK HG
        have HB := n0_; have HRb := n1_
        clear n0_ n1_
        have cR0 : w9.cell? ⟨w.heap.size, 0, none⟩ = some (.string ⟨#[]⟩) := (blk_cell HRb.out 0).trans rfl
        have cR1 : w9.cell? ⟨w.heap.size, 1, none⟩ = some (.int .i64 0) := (blk_cell HRb.out 1).trans rfl
        have cR2 : w9.cell? ⟨w.heap.size, 2, none⟩ = some (.slice none 0 0) := (blk_cell HRb.out 2).trans rfl
        have cR3 : w9.cell? ⟨w.heap.size, 3, none⟩ = some (.string ⟨#[]⟩) := (blk_cell HRb.out 3).trans rfl
        have fR0 := blk_frozen HRb.out 0
        have fR1 := blk_frozen HRb.out 1
        have fR2 := blk_frozen HRb.out 2
        have fR3 := blk_frozen HRb.out 3
        go_wp2_with (first | (fail))
        refine bodyPost_ret (results_cell_row rfl _ _ w.heap.size 62 #[.string a0, .int .i64 a1, .slice A4 l2.length c4, .string ⟨si.data⟩] (0, 0) _ rfl (by refine blk_put (cs := #[.string a0, .int .i64 a1, .slice A4 l2.length c4, .string (⟨#[]⟩ : ByteArray)]) ?_ 3 _ rfl; refine blk_put (cs := #[.string a0, .int .i64 a1, .slice none 0 0, .string (⟨#[]⟩ : ByteArray)]) ?_ 2 _ rfl; refine blk_put (cs := #[.string a0, .int .i64 0, .slice none 0 0, .string (⟨#[]⟩ : ByteArray)]) ?_ 1 _ rfl; refine blk_put (cs := #[.string (⟨#[]⟩ : ByteArray), .int .i64 0, .slice none 0 0, .string (⟨#[]⟩ : ByteArray)]) ?_ 0 _ rfl; exact HRb.out) Try.underlying62 rfl (by kernel_rfl)) rfl ?_
        have hfar : ∀ k_ : Nat, wr.heap.size ≤ k_ → k_ ≠ w.heap.size := fun k_ h => by omega
        exact ⟨_, rfl, Kd.R_mono (Kd.R_far (Kd.R_far (Kd.R_far (Kd.R_far HO2.out hfar _) hfar _) hfar _) hfar _) (fun k_ h => trivial), below_set (below_set (below_set (below_set HB.out (Nat.le_refl _)) (Nat.le_refl _)) (Nat.le_refl _)) (Nat.le_refl _)⟩
end Go.Proofs.Ytpojamikfcmnoaa.X
namespace Go.Proofs.Ytpojamikfcmnoaa.X
open Go.RowKit Go.Proofs.YtpojamikfcmnoaaW.PrintWords Go.Proofs.YtpojamikfcmnoaaW.PrintLast Go.Proofs.YtpojamikfcmnoaaW.PrintMore
attribute [local go_sem] max2_int min2_int max_two min_two max_three min_three max_four min_four
set_option linter.unusedVariables false
set_option linter.unusedSimpArgs false
def tensor_OfInts.f (a0 : ByteArray) (l1 : List Int) (l2 : List Int) : Option (ByteArray × Int × List Int × ByteArray) := (tensor_of_int64.f a0 7 l1 l2).bind fun bt102 => (some (bt102.1, bt102.2.1, bt102.2.2.1, bt102.2.2.2))
set_option maxHeartbeats 8000000 in
set_option maxRecDepth 100000 in
theorem tensor_OfInts.calls (a0 : ByteArray) (A1 : Option Addr) (c1 : Nat) (l1 : List Int) (A2 : Option Addr) (c2 : Nat) (l2 : List Int) (r1 : ByteArray) (r2 : Int) (r3 : List Int) (r4 : ByteArray) (w : World) (hr1 : Kd.C (Kd.int .i64) w A1 l1.length l1) (hc1 : l1.length ≤ c1) (hr2 : Kd.C (Kd.int .i64) w A2 l2.length l2) (hc2 : l2.length ≤ c2) (h : tensor_OfInts.f a0 l1 l2 = some (r1, r2, r3, r4)) :
    Calls Try.prog 50 #[.string a0, .slice A1 l1.length c1, .slice A2 l2.length c2] w fun e w' => ∃ v2_ : Value, e = .returned (.agg #[.string r1, .int .i64 r2, v2_, .string r4]) ∧ Kd.R (Kd.int .i64) 2 w' w.heap.size (fun _ => True) v2_ r3 ∧ Below w.heap.size w w' := by
  have hu62 := Try.underlying62
  have HR1 := Aside0.mk hr1
  have HC1 := Aside0.mk hc1
  clear hr1 hc1
  have HR2 := Aside0.mk hr2
  have HC2 := Aside0.mk hc2
  clear hr2 hc2
  have HB := Aside0.mk (Below.refl w.heap.size w)
  have H : ((tensor_of_int64.f a0 7 l1 l2).bind fun bt102 => (some (bt102.1, bt102.2.1, bt102.2.2.1, bt102.2.2.2))) = some (r1, r2, r3, r4) := h
  clear h
  replace H := Option.bind_eq_some_iff.mp H
  obtain ⟨⟨t102, t103, t104, t107⟩, A40, H⟩ := H
  replace H : (some (t102, t103, t104, t107)) = some (r1, r2, r3, r4) := H
  have A4 := Aside0.mk A40
  clear A40
  simp only [Option.some.injEq, Prod.mk.injEq] at H
  obtain ⟨rfl, rfl, rfl, rfl⟩ := H
  go_enter Try.func50, Try.ntmps50
  go_wp2_with (first | ((with_reducible refine gate_dst (N := 6) rfl ?_); refine box_event ?hg (N := 6) ?hd (cs := #[.string (⟨#[]⟩ : ByteArray), .int .i64 0, .slice none 0 0, .string (⟨#[]⟩ : ByteArray)]) (t := 62) ?hr ?_; (case hd => rfl); (case hg => rfl); (case hr => first | (go_simp; done) | (go_simp; rfl)); intro gb101 hg w5 hbox hb; have n0_ := Aside0.mk (below_step (by repeat (first | (with_reducible first | exact HB.out | apply below_alloc | apply pw_below_drewN | apply below_drew1) | exact HB.out)) hb); have n1_ := Aside0.mk (hbox); have n2_ := Aside0.mk ((by rw [hg]; exact (below_size (by repeat (first | (with_reducible first | exact HB.out | apply below_alloc | apply pw_below_drewN | apply below_drew1) | exact HB.out))) : w.heap.size ≤ gb101)); have n3_ := Aside0.mk ((by rw [hg]; exact (below_size (by repeat (first | (with_reducible first | exact HB.out | apply below_alloc | apply pw_below_drewN | apply below_drew1) | exact HB.out))) : w.heap.size ≤ gb101)); clear HB; have HB := n0_; have BK101 := n1_; have GW101 := n2_; have GE101 := n3_; clear n0_ n1_ n2_ n3_; clear hb hbox hg) | ((with_reducible refine gate_callee (f := 76) rfl ?_); refine goesL_ (some 10) rfl rfl Try.func76 (by kernel_rfl) rfl #[.string a0, .int .i64 7, .slice A1 l1.length c1, .slice A2 l2.length c2, .func (Fn.func 77) #[] #[]] rfl (by (try simp only [List.map_toArray, List.map_cons, List.map_nil]); first | done | rfl | (simp only [List.length_drop, List.length_take]; rfl)) ?_; (with_reducible refine (tensor_of_int64.calls a0 7 _ _ l1 _ _ l2 t102 t103 t104 t107 _ ?side1 ?side2 ?side3 ?side4 A4.out).mono ?_); (case side1 => repeat (first | exact (Kd.C_below HR1.out HB.out) | (with_reducible refine Kd.C_alloc ?_ _) | (with_reducible refine Kd.C_drewN ?_ _) | (with_reducible refine Kd.C_drew ?_))); (case side2 => exact HC1.out); (case side3 => repeat (first | exact (Kd.C_below HR2.out HB.out) | (with_reducible refine Kd.C_alloc ?_ _) | (with_reducible refine Kd.C_drewN ?_ _) | (with_reducible refine Kd.C_drew ?_))); (case side4 => exact HC2.out); rintro e w6 ⟨v105, rfl, ho0, hb⟩; refine ⟨_, rfl, ?_⟩; have n0_ := Aside0.mk (Kd.R_lower ho0 (below_size (by repeat (first | (with_reducible first | exact HB.out | apply below_alloc | apply pw_below_drewN | apply below_drew1 | refine below_set ?_ GE101.out) | exact HB.out)))); have n1_ := Aside0.mk (blk_below (g := gb101) (o := .cells #[.string (⟨#[]⟩ : ByteArray), .int .i64 0, .slice none 0 0, .string (⟨#[]⟩ : ByteArray)] 62 (0, 0)) (by (with_reducible repeat (first | refine blk_drewN ?_ _ | refine blk_drew ?_ | refine blk_alloc ?_ _)); exact BK101.out) hb); have n2_ := Aside0.mk (below_step (by repeat (first | (with_reducible first | exact HB.out | apply below_alloc | apply pw_below_drewN | apply below_drew1 | refine below_set ?_ GE101.out) | exact HB.out)) hb); clear BK101; clear HB; have HO106 := n0_; have BK101 := n1_; have HB := n2_; clear n0_ n1_ n2_; (try clear hb); (try clear hb2); (try clear hk); (try clear hi); (try clear ho0); have hcz7_0 : w6.cell? ⟨gb101, 0, none⟩ = some (.string (⟨#[]⟩ : ByteArray)) := (blk_cell BK101.out 0).trans rfl; have hcz7_1 : w6.cell? ⟨gb101, 1, none⟩ = some (.int .i64 0) := (blk_cell BK101.out 1).trans rfl; have hcz7_2 : w6.cell? ⟨gb101, 2, none⟩ = some (.slice none 0 0) := (blk_cell BK101.out 2).trans rfl; have hcz7_3 : w6.cell? ⟨gb101, 3, none⟩ = some (.string (⟨#[]⟩ : ByteArray)) := (blk_cell BK101.out 3).trans rfl; have hfz7_0 := blk_frozen BK101.out 0; have hfz7_1 := blk_frozen BK101.out 1; have hfz7_2 := blk_frozen BK101.out 2; have hfz7_3 := blk_frozen BK101.out 3; obtain ⟨Ao8, co8, eo8⟩ := Kd.R_slice HO106.out; subst eo8))
  refine bodyPost_ret (results_cell_row rfl _ _ gb101 62 #[.string t102, .int .i64 t103, .slice Ao8 t104.length co8, .string t107] (0, 0) _ rfl (by (with_reducible repeat (first | refine blk_drewN ?_ _ | refine blk_drew ?_ | refine blk_alloc ?_ _)); refine blk_put (cs := #[.string t102, .int .i64 t103, .slice Ao8 t104.length co8, .string (⟨#[]⟩ : ByteArray)]) ?_ 3 _ rfl; (with_reducible repeat (first | refine blk_drewN ?_ _ | refine blk_drew ?_ | refine blk_alloc ?_ _)); refine blk_put (cs := #[.string t102, .int .i64 t103, .slice none 0 0, .string (⟨#[]⟩ : ByteArray)]) ?_ 2 _ rfl; (with_reducible repeat (first | refine blk_drewN ?_ _ | refine blk_drew ?_ | refine blk_alloc ?_ _)); refine blk_put (cs := #[.string t102, .int .i64 0, .slice none 0 0, .string (⟨#[]⟩ : ByteArray)]) ?_ 1 _ rfl; (with_reducible repeat (first | refine blk_drewN ?_ _ | refine blk_drew ?_ | refine blk_alloc ?_ _)); refine blk_put (cs := #[.string (⟨#[]⟩ : ByteArray), .int .i64 0, .slice none 0 0, .string (⟨#[]⟩ : ByteArray)]) ?_ 0 _ rfl; (with_reducible repeat (first | refine blk_drewN ?_ _ | refine blk_drew ?_ | refine blk_alloc ?_ _)); exact BK101.out) Try.underlying62 rfl (by kernel_rfl)) rfl ?_
  exact ⟨_, by first | rfl | (simp [errW_none, errW_some] <;> rfl) | (simp [*, errW_none, errW_some] <;> rfl), by (with_reducible repeat (first | apply Kd.R_alloc | apply Kd.R_drewN | apply Kd.R_drew)); exact Kd.R_mono (Kd.R_far (p := ⟨gb101, 3, none⟩) (Kd.R_far (p := ⟨gb101, 2, none⟩) (Kd.R_far (p := ⟨gb101, 1, none⟩) (Kd.R_far (p := ⟨gb101, 0, none⟩) (Kd.R_types HO106.out BK101.out (by decide)) (fun _ hk => hk.2) (.string t102)) (fun _ hk => hk.2) (.int .i64 t103)) (fun _ hk => hk.2) (.slice Ao8 t104.length co8)) (fun _ hk => hk.2) (.string t107)) (fun _ hk => trivial), by repeat (first | (with_reducible first | exact HB.out | apply below_alloc | apply pw_below_drewN | apply below_drew1 | refine below_set ?_ GE101.out) | exact HB.out)⟩
end Go.Proofs.Ytpojamikfcmnoaa.X
namespace Go.Proofs.Ytpojamikfcmnoaa.X
open Go.RowKit Go.Proofs.YtpojamikfcmnoaaW.PrintWords Go.Proofs.YtpojamikfcmnoaaW.PrintLast Go.Proofs.YtpojamikfcmnoaaW.PrintMore
attribute [local go_sem] max2_int min2_int max_two min_two max_three min_three max_four min_four
set_option linter.unusedVariables false
set_option linter.unusedSimpArgs false
def gauss_PutX.f (a0 : Nat × Nat) : Option (ByteArray × Int) := if mayE [a0] = true then (floatToFloatBits .f64 a0.1 .f32).bind fun v => (floatToFloatBits .f64 a0.2 .f32).bind fun u => some (laidV v ++ laidV u, 0) else some ((⟨#[]⟩ : ByteArray), 17)
theorem gauss_PutX.calls (a0 : Nat × Nat) (r0 : ByteArray) (r1 : Int) (w : World) (h : gauss_PutX.f a0 = some (r0, r1)) :
    Calls Try.prog 19 #[.complex .f64 a0.1 a0.2] w fun e w' => e = .returned (.tuple #[.string r0, .int .i64 r1]) ∧ Below w.heap.size w w' := by
  unfold gauss_PutX.f at h
  by_cases hm : mayE [a0] = true
  · rw [if_pos hm] at h
    obtain ⟨v, hv, h⟩ := Option.bind_eq_some_iff.mp h
    obtain ⟨u, hu, h⟩ := Option.bind_eq_some_iff.mp h
    obtain ⟨rfl, rfl⟩ := Prod.mk.inj (Option.some.inj h)
    exact gauss_Put.calls a0.1 a0.2 v u hm hv hu w
  · rw [if_neg hm] at h
    obtain ⟨rfl, rfl⟩ := Prod.mk.inj (Option.some.inj h)
    exact gauss_Put.refused a0.1 a0.2 (by simpa using hm) w
end Go.Proofs.Ytpojamikfcmnoaa.X
namespace Go.Proofs.Ytpojamikfcmnoaa.X
open Go.RowKit Go.Proofs.YtpojamikfcmnoaaW.PrintWords Go.Proofs.YtpojamikfcmnoaaW.PrintLast Go.Proofs.YtpojamikfcmnoaaW.PrintMore
attribute [local go_sem] max2_int min2_int max_two min_two max_three min_three max_four min_four
set_option linter.unusedVariables false
set_option linter.unusedSimpArgs false
def tensor_number.f (a0 : (Nat × Nat)) : Option (ByteArray) := (gauss_PutX.f a0).bind fun bt101 => (if bt101.2 = 0 then (some bt101.1) else ((tensor_laidX.f 0).bind fun t103 => (some t103)))
set_option maxHeartbeats 8000000 in
set_option maxRecDepth 100000 in
theorem tensor_number.calls (a0 : (Nat × Nat)) (r : ByteArray) (w : World) (h : tensor_number.f a0 = some r) :
    Calls Try.prog 81 #[.complex .f64 a0.1 a0.2] w fun e w' => e = .returned (.string r) ∧ Below w.heap.size w w' := by
  have HB := Aside0.mk (Below.refl w.heap.size w)
  have H : ((gauss_PutX.f a0).bind fun bt101 => (if bt101.2 = 0 then (some bt101.1) else ((tensor_laidX.f 0).bind fun t103 => (some t103)))) = some r := h
  clear h
  replace H := Option.bind_eq_some_iff.mp H
  obtain ⟨⟨t101, t102⟩, A20, H⟩ := H
  replace H : (if t102 = 0 then (some t101) else ((tensor_laidX.f 0).bind fun t103 => (some t103))) = some r := H
  have A2 := Aside0.mk A20
  clear A20
  by_cases c3 : t102 = 0
  · rw [if_pos c3] at H
    have c3b0 : (t102 == 0) = true := beq_iff_eq.mpr c3
    have c3b1 : (t102 != 0) = false := bne_eq_false_iff_eq.mpr c3
    clear c3
    obtain rfl := Option.some.inj H
    go_enter Try.func81, Try.ntmps81
    go_wp2_with (first | ((with_reducible refine gate_callee (f := 19) rfl ?_); refine goesL_ (some 7) rfl rfl Try.func19 (by kernel_rfl) rfl #[.complex .f64 a0.1 a0.2] rfl (by (try simp only [List.map_toArray, List.map_cons, List.map_nil]); first | done | rfl | (simp only [List.length_drop, List.length_take]; rfl)) ?_; (with_reducible refine (gauss_PutX.calls a0 t101 t102 _ A2.out).mono ?_); rintro e w4 ⟨rfl, hb⟩; refine ⟨_, rfl, ?_⟩; have n0_ := Aside0.mk (below_step (by repeat (first | (with_reducible first | exact HB.out | apply below_alloc | apply pw_below_drewN | apply below_drew1) | exact HB.out)) hb); clear HB; have HB := n0_; clear n0_; (try clear hb); (try clear hb2); (try clear hk); (try clear hi)))
    go_ret
    exact ⟨by first | rfl | (simp [errW_none, errW_some] <;> rfl) | (simp [*, errW_none, errW_some] <;> rfl), by repeat (first | (with_reducible first | exact HB.out | apply below_alloc | apply pw_below_drewN | apply below_drew1) | exact HB.out)⟩
  · rw [if_neg c3] at H
    have c3b0 : (t102 == 0) = false := beq_eq_false_iff_ne.mpr c3
    have c3b1 : (t102 != 0) = true := bne_iff_ne.mpr c3
    replace H := Option.bind_eq_some_iff.mp H
    obtain ⟨t103, A50, H⟩ := H
    replace H : (some t103) = some r := H
    have A5 := Aside0.mk A50
    clear A50
    obtain rfl := Option.some.inj H
    go_enter Try.func81, Try.ntmps81
    go_wp2_with (first | ((with_reducible refine gate_callee (f := 19) rfl ?_); refine goesL_ (some 7) rfl rfl Try.func19 (by kernel_rfl) rfl #[.complex .f64 a0.1 a0.2] rfl (by (try simp only [List.map_toArray, List.map_cons, List.map_nil]); first | done | rfl | (simp only [List.length_drop, List.length_take]; rfl)) ?_; (with_reducible refine (gauss_PutX.calls a0 t101 t102 _ A2.out).mono ?_); rintro e w6 ⟨rfl, hb⟩; refine ⟨_, rfl, ?_⟩; have n0_ := Aside0.mk (below_step (by repeat (first | (with_reducible first | exact HB.out | apply below_alloc | apply pw_below_drewN | apply below_drew1) | exact HB.out)) hb); clear HB; have HB := n0_; clear n0_; (try clear hb); (try clear hb2); (try clear hk); (try clear hi)) | ((with_reducible refine gate_callee (f := 77) rfl ?_); refine goesL_ (some 12) rfl rfl Try.func77 (by kernel_rfl) rfl #[.int .i64 0] rfl (by (try simp only [List.map_toArray, List.map_cons, List.map_nil]); first | done | rfl | (simp only [List.length_drop, List.length_take]; rfl)) ?_; (with_reducible refine (tensor_laidX.calls 0 t103 _ A5.out).mono ?_); rintro e w7 ⟨rfl, hb⟩; refine ⟨_, rfl, ?_⟩; have n0_ := Aside0.mk (below_step (by repeat (first | (with_reducible first | exact HB.out | apply below_alloc | apply pw_below_drewN | apply below_drew1) | exact HB.out)) hb); clear HB; have HB := n0_; clear n0_; (try clear hb); (try clear hb2); (try clear hk); (try clear hi)))
    go_ret
    exact ⟨by first | rfl | (simp [errW_none, errW_some] <;> rfl) | (simp [*, errW_none, errW_some] <;> rfl), by repeat (first | (with_reducible first | exact HB.out | apply below_alloc | apply pw_below_drewN | apply below_drew1) | exact HB.out)⟩
end Go.Proofs.Ytpojamikfcmnoaa.X
namespace Go.Proofs.Ytpojamikfcmnoaa.X
open Go.RowKit Go.Proofs.YtpojamikfcmnoaaW.PrintWords Go.Proofs.YtpojamikfcmnoaaW.PrintLast Go.Proofs.YtpojamikfcmnoaaW.PrintMore
attribute [local go_sem] max2_int min2_int max_two min_two max_three min_three max_four min_four
set_option linter.unusedVariables false
set_option linter.unusedSimpArgs false
def tensor_of_c128.f (a0 : ByteArray) (a1 : Int) (l2 : List Int) (l3 : List (Nat × Nat)) : Option (ByteArray × Int × List Int × ByteArray) := if l2.length ≤ 1000000 then (if l3.length ≤ 1000000 then (catOf tensor_number.f l3).bind fun s => (if s.size ≤ 100000000 then some (a0, a1, l2, s) else none) else none) else none
theorem gauss_PutX_size (x : Nat × Nat) (s : ByteArray) (h : gauss_PutX.f x = some (s, 0)) : 0 < s.size := by
  unfold gauss_PutX.f at h
  split at h
  · obtain ⟨v, _, h⟩ := Option.bind_eq_some_iff.mp h
    obtain ⟨u, _, h⟩ := Option.bind_eq_some_iff.mp h
    obtain ⟨rfl, _⟩ := Prod.mk.inj (Option.some.inj h)
    rw [ByteArray.size_append, laidV_size]; omega
  · have := (Prod.mk.inj (Option.some.inj h)).2
    exact absurd this (by decide)
theorem tensor_number_size (x : Nat × Nat) (s : ByteArray) (h : tensor_number.f x = some s) : 0 < s.size := by
  unfold tensor_number.f at h
  obtain ⟨⟨b, e⟩, hp, h⟩ := Option.bind_eq_some_iff.mp h
  by_cases he : e = 0
  · subst he
    simp at h
    subst h
    exact gauss_PutX_size x _ hp
  · simp [he] at h
    exact tensor_laidX_size 0 s h
set_option maxHeartbeats 8000000 in
set_option maxRecDepth 100000 in
theorem tensor_of_c128.calls (a0 : ByteArray) (a1 : Int) (A2 : Option Addr) (c2 : Nat) (l2 : List Int) (A3 : Option Addr) (c3 : Nat) (l3 : List (Nat × Nat)) (r1 : ByteArray) (r2 : Int) (r3 : List Int) (r4 : ByteArray) (w : World) (hr2 : Kd.C (Kd.int .i64) w A2 l2.length l2) (hc2 : l2.length ≤ c2) (hr3 : Kd.C kdC w A3 l3.length l3) (hc3 : l3.length ≤ c3) (h : tensor_of_c128.f a0 a1 l2 l3 = some (r1, r2, r3, r4)) :
    Calls Try.prog 80 #[.string a0, .int .i64 a1, .slice A2 l2.length c2, .slice A3 l3.length c3, .func (Fn.func 81) #[] #[]] w fun e w' => ∃ v2_ : Value, e = .returned (.agg #[.string r1, .int .i64 r2, v2_, .string r4]) ∧ Kd.R (Kd.int .i64) 2 w' w.heap.size (fun _ => True) v2_ r3 ∧ Below w.heap.size w w' := by
  unfold tensor_of_c128.f at h
  by_cases hl2 : l2.length ≤ 1000000
  case neg => rw [if_neg hl2] at h; cases h
  rw [if_pos hl2] at h
  by_cases hl3 : l3.length ≤ 1000000
  case neg => rw [if_neg hl3] at h; cases h
  rw [if_pos hl3] at h
  obtain ⟨s, hs, h⟩ := Option.bind_eq_some_iff.mp h
  by_cases hl4 : s.size ≤ 100000000
  case neg => rw [if_neg hl4] at h; cases h
  rw [if_pos hl4] at h
  obtain ⟨rfl, rfl, rfl, rfl⟩ : a0 = r1 ∧ a1 = r2 ∧ l2 = r3 ∧ s = r4 := by have h2 := Option.some.inj h; simpa using h2
  clear h
  have HR0 := Aside0.mk hr2
  have HC0 := Aside0.mk hc2
  have HL0 := Aside0.mk hl2
  have HR1 := Aside0.mk hr3
  have HC1 := Aside0.mk hc3
  have HL := Aside0.mk hl3
  have HS4 := Aside0.mk hl4
  have HCAT := Aside0.mk hs
  clear hr2 hc2 hl2 hr3 hc3 hl3 hl4 hs
  go_enter Try.func80, Try.ntmps80
  go_wp2
  have HRb := Aside0.mk (show ((w.alloc (Obj.cells #[Value.string { data := #[] }, Value.int IntKind.i64 0, Value.slice none 0 0, Value.string { data := #[] }] 62)).alloc (Obj.cells #[Value.pointer none, Value.slice none 0 0] 126)).heap[w.heap.size]? = some (Obj.cells #[Value.string { data := #[] }, Value.int IntKind.i64 0, Value.slice none 0 0, Value.string { data := #[] }] 62) from blk_alloc (blk_new w _) _)
  have HB := Aside0.mk (below_alloc (below_alloc (Below.refl w.heap.size w) (Obj.cells #[Value.string { data := #[] }, Value.int IntKind.i64 0, Value.slice none 0 0, Value.string { data := #[] }] 62)) (Obj.cells #[Value.pointer none, Value.slice none 0 0] 126))
  have HF : Aside0 ((0 : Nat) = 0 → ((w.alloc (Obj.cells #[Value.string { data := #[] }, Value.int IntKind.i64 0, Value.slice none 0 0, Value.string { data := #[] }] 62)).alloc (Obj.cells #[Value.pointer none, Value.slice none 0 0] 126)).heap[w.heap.size + 1]? = some (Obj.cells #[Value.pointer none, Value.slice none 0 0] 126)) := ⟨fun _ => by
    have e : (w.alloc (Obj.cells #[Value.string { data := #[] }, Value.int IntKind.i64 0, Value.slice none 0 0, Value.string { data := #[] }] 62)).heap.size = w.heap.size + 1 := alloc_size _ _
    rw [← e]; exact blk_new _ _⟩
  have HI : Aside0 (Lib.IsBuilder 126 5 (w.heap.size + 1) (w.heap.size + 1) (Lib.byteCells (⟨#[]⟩ : ByteArray).data.toList) ((w.alloc (Obj.cells #[Value.string { data := #[] }, Value.int IntKind.i64 0, Value.slice none 0 0, Value.string { data := #[] }] 62)).alloc (Obj.cells #[Value.pointer none, Value.slice none 0 0] 126))) := ⟨by
    have h := Lib.fresh_isBuilder 126 5 (w.alloc (Obj.cells #[Value.string { data := #[] }, Value.int IntKind.i64 0, Value.slice none 0 0, Value.string { data := #[] }] 62))
    have e : (w.alloc (Obj.cells #[Value.string { data := #[] }, Value.int IntKind.i64 0, Value.slice none 0 0, Value.string { data := #[] }] 62)).heap.size = w.heap.size + 1 := alloc_size _ _
    rw [e] at h
    exact h⟩
  go_loopg [16] l3.length (fun kq v16 w' => ∃ (i : Nat) (si : ByteArray), v16 = .int .i64 i ∧ Aside0 (i + kq = l3.length) ∧ i ≤ l3.length ∧ Aside0 (catOf tensor_number.f (l3.take i) = some si) ∧ Aside0 (i = 0 → w'.heap[w.heap.size + 1]? = some (Obj.cells #[Value.pointer none, Value.slice none 0 0] 126)) ∧ Aside0 (Lib.IsBuilder 126 5 (w.heap.size + 1) (w.heap.size + 1) (Lib.byteCells si.data.toList) w') ∧ Aside0 (w'.heap[w.heap.size]? = some (Obj.cells #[Value.string { data := #[] }, Value.int IntKind.i64 0, Value.slice none 0 0, Value.string { data := #[] }] 62)) ∧ Aside0 (w.heap.size + 1 ≤ w'.heap.size) ∧ Aside0 (Below w.heap.size w w'))
  case atStart => exact ⟨0, ⟨#[]⟩, rfl, ⟨by omega⟩, Nat.zero_le _, ⟨rfl⟩, HF, HI, HRb, ⟨by rw [alloc_size, alloc_size]; omega⟩, HB⟩
  case round =>
    clear HRb HB HI HF
    obtain ⟨i, si, rfl, HK, hi, HCi, HF, HI, HRb, HS, HB⟩ := hrel
    by_cases hlt : i < l3.length
    · have hlt' : decide ((i : Int) < (l3.length : Int)) = true := by simpa using hlt
      obtain ⟨kk, rfl⟩ : ∃ m, gk = m + 1 := ⟨gk - 1, by have := HK.out; omega⟩
      obtain ⟨si', x, q1_, q2_, q3_, q4_⟩ := catOf_step HCAT.out ((0, 0) : Nat × Nat) i hlt
      obtain rfl : si' = si := Option.some.inj (q1_.symm.trans HCi.out)
      have Hone := Aside0.mk q2_
      have Hcat := Aside0.mk q3_
      have Hsz := Aside0.mk q4_
      clear q1_ q2_ q3_ q4_ HF HCi
      have Hlen : Aside0 ((Lib.byteCells si'.data.toList).length + x.size ≤ 140737488355328) := ⟨by
        have h1 := Hsz.out
        have h2 := HS4.out
        rw [ByteArray.size_append] at h1
        rw [byteCells_len]
        omega⟩
      have Hw : Aside0 (wrap64 ((i : Int) + 1) = (i : Int) + 1) := ⟨by have := HL.out; exact wrap64_id (by omega) (by omega)⟩
      have p101 : 0 ≤ (i : Int) := Int.natCast_nonneg i
      have q101 : (i : Int) < (l3.length : Int) := by omega
      obtain ⟨ad101, e101, hx101_0⟩ := at_kdC HR1.out i p101 q101
      cases e101
      replace hx101_0 := (HB.out.cell (World.block_lt_of_cell? w _ hx101_0)).trans hx101_0
      rw [Int.toNat_natCast] at hx101_0
      have Hone2 : Aside0 (tensor_number.f (rdOf ((0, 0) : Nat × Nat) l3 (i : Int)) = some x) := ⟨Hone.out⟩
      replace p101 := eq_true p101
      replace q101 := eq_true q101
      go_wp2_with (first | (fail))
      refine (tensor_number.calls (rdOf ((0, 0) : Nat × Nat) l3 (i : Int)) x _ Hone2.out).mono ?_
      rintro e w8 ⟨rfl, hb⟩
      have n0_ := Aside0.mk (below_step HB.out hb)
      have n1_ := Aside0.mk (isBuilder_below HI.out hb)
      have n2_ := Aside0.mk (blk_below HRb.out hb)
      have n3_ := Aside0.mk (Nat.le_trans HS.out hb.size)
      clear HB HI HRb HS hb
      have HB := n0_; have HI := n1_; have HRb := n2_; have HS := n3_
      clear n0_ n1_ n2_ n3_
      go_wp2_with (first | (fail))
      refine (Sh.WriteString (w.heap.size + 1) (w.heap.size + 1) _ x _ HI.out Hlen.out HS.out).mono ?_
      rintro e w9 ⟨rfl, hi8, hb⟩
      have n0_ := Aside0.mk (HB.out.trans (below_low hb (Nat.le_succ _)))
      have n1_ := Aside0.mk (show Lib.IsBuilder 126 5 (w.heap.size + 1) (w.heap.size + 1) _ w9 from .inr hi8)
      have n2_ := Aside0.mk ((hb.block w.heap.size (Nat.lt_succ_self _)).trans HRb.out)
      have n3_ := Aside0.mk (Nat.le_trans HS.out hb.size)
      clear HB HI HRb HS hb hi8
      have HB := n0_; have HI := n1_; have HRb := n2_; have HS := n3_
      clear n0_ n1_ n2_ n3_
      go_wp2_with (first | (fail))
      go_roundg kk
      case measure => have := HK.out; omega
      case rel => exact ⟨i + 1, _, by rw [Hw.out]; rfl, ⟨by have := HK.out; omega⟩, by omega, Hcat, ⟨fun h => absurd h (Nat.succ_ne_zero _)⟩, ⟨by rw [← byteCells_cat]; exact HI.out⟩, HRb, HS, HB⟩
    · have hlt' : decide ((i : Int) < (l3.length : Int)) = false := by simpa using hlt
      obtain rfl := catOf_all HCAT.out i (by omega) HCi.out
      have hlt2 : w.heap.size < wr.heap.size := by have := HS.out; omega
      by_cases hne : si.data.toList = []
      · by_cases hn1 : l3 = []
        · subst hn1
          obtain rfl : i = 0 := by simpa using hi
          have HG := Aside0.mk (HF.out rfl)
          have HE := Aside0.mk (show si = ⟨#[]⟩ from catOf_nil HCAT.out)
          clear HF HI
          go_wp2_with (first | (fail))
          refine (slices_Clone_int64.calls A2 c2 l2 l2 _ (Kd.C_below HR0.out HB.out) HC0.out (if_pos (by have := HL0.out; omega))).mono ?_
          rintro e w8 ⟨v2, rfl, hR, hb⟩
          obtain ⟨A4, c4, rfl⟩ := Kd.R_slice hR
          have n0_ := Aside0.mk (below_step HB.out hb)
          have n1_ := Aside0.mk (blk_below HRb.out hb)
          have n3_ := Aside0.mk (blk_below HG.out hb)
          have HO := Aside0.mk (Kd.R_lower hR (below_size HB.out))
          clear HB HRb HG hb hR
          have HB := n0_; have HRb := n1_; have HG := n3_
          clear n0_ n1_ n3_
          go_wp2_with (first | (fail))
          refine (sh_String_nil.calls (w.heap.size + 1) _ _ HG.out).mono ?_
          rintro e w9 ⟨rfl, rfl⟩
          have n0_ := Aside0.mk (below_drew1 HB.out)
          have n1_ := Aside0.mk (blk_drew HRb.out)
          have HO2 := Aside0.mk (Kd.R_drew HO.out)
          generalize w8.drew = w9 at n0_ n1_ HO2 ⊢
          clear HB HRb HO HG
          have HB := n0_; have HRb := n1_
          clear n0_ n1_
          have cR0 : w9.cell? ⟨w.heap.size, 0, none⟩ = some (.string ⟨#[]⟩) := (blk_cell HRb.out 0).trans rfl
          have cR1 : w9.cell? ⟨w.heap.size, 1, none⟩ = some (.int .i64 0) := (blk_cell HRb.out 1).trans rfl
          have cR2 : w9.cell? ⟨w.heap.size, 2, none⟩ = some (.slice none 0 0) := (blk_cell HRb.out 2).trans rfl
          have cR3 : w9.cell? ⟨w.heap.size, 3, none⟩ = some (.string ⟨#[]⟩) := (blk_cell HRb.out 3).trans rfl
          have fR0 := blk_frozen HRb.out 0
          have fR1 := blk_frozen HRb.out 1
          have fR2 := blk_frozen HRb.out 2
          have fR3 := blk_frozen HRb.out 3
          go_wp2_with (first | (fail))
          refine bodyPost_ret (results_cell_row rfl _ _ w.heap.size 62 #[.string a0, .int .i64 a1, .slice A4 l2.length c4, .string ⟨#[]⟩] (0, 0) _ rfl (by refine blk_put (cs := #[.string a0, .int .i64 a1, .slice A4 l2.length c4, .string (⟨#[]⟩ : ByteArray)]) ?_ 3 _ rfl; refine blk_put (cs := #[.string a0, .int .i64 a1, .slice none 0 0, .string (⟨#[]⟩ : ByteArray)]) ?_ 2 _ rfl; refine blk_put (cs := #[.string a0, .int .i64 0, .slice none 0 0, .string (⟨#[]⟩ : ByteArray)]) ?_ 1 _ rfl; refine blk_put (cs := #[.string (⟨#[]⟩ : ByteArray), .int .i64 0, .slice none 0 0, .string (⟨#[]⟩ : ByteArray)]) ?_ 0 _ rfl; exact HRb.out) Try.underlying62 rfl (by kernel_rfl)) rfl ?_
          have hfar : ∀ k_ : Nat, wr.heap.size ≤ k_ → k_ ≠ w.heap.size := fun k_ h => by omega
          exact ⟨_, by rw [HE.out], Kd.R_mono (Kd.R_far (Kd.R_far (Kd.R_far (Kd.R_far HO2.out hfar _) hfar _) hfar _) hfar _) (fun k_ h => trivial), below_set (below_set (below_set (below_set HB.out (Nat.le_refl _)) (Nat.le_refl _)) (Nat.le_refl _)) (Nat.le_refl _)⟩
        · exfalso
          obtain ⟨si', x, q1_, q2_, q3_, q4_⟩ := catOf_step HCAT.out ((0, 0) : Nat × Nat) 0 (Nat.pos_of_ne_zero (fun h => hn1 (List.eq_nil_of_length_eq_zero h)))
          have h1 := tensor_number_size _ _ q2_
          have h2 : si.size = 0 := by rw [show si.size = si.data.toList.length from Array.length_toList.symm, hne]; rfl
          rw [ByteArray.size_append] at q4_
          omega
      · obtain ⟨p, g, cap, cur, hBg, hgl, hbl, hbk, hg, hnc, hcm, hcs, ht⟩ := builder_lies HI.out hne
        have HBK := Aside0.mk hbk
        have HG := Aside0.mk hg
        have HT := Aside0.mk (And.intro hnc (And.intro hcm (And.intro hcs ht)))
        have HGL := Aside0.mk hgl
        have HBL := Aside0.mk hbl
        have HBG := Aside0.mk hBg
        have HNE := Aside0.mk hne
        clear hbk hg hnc hcm hcs ht hgl hbl hBg hne HI HF
        go_wp2_with (first | (fail))
        refine (slices_Clone_int64.calls A2 c2 l2 l2 _ (Kd.C_below HR0.out HB.out) HC0.out (if_pos (by have := HL0.out; omega))).mono ?_
        rintro e w8 ⟨v2, rfl, hR, hb⟩
        obtain ⟨A4, c4, rfl⟩ := Kd.R_slice hR
        have n0_ := Aside0.mk (below_step HB.out hb)
        have n1_ := Aside0.mk (blk_below HRb.out hb)
        have n2_ := Aside0.mk (blk_below HBK.out hb)
        have n3_ := Aside0.mk (blk_below HG.out hb)
        have HO := Aside0.mk (Kd.R_lower hR (below_size HB.out))
        clear HB HRb HBK HG hb hR
        have HB := n0_; have HRb := n1_; have HBK := n2_; have HG := n3_
        clear n0_ n1_ n2_ n3_
        go_wp2_with (first | (fail))
        refine (sh_String.calls (w.heap.size + 1) g cap p cur _ _ HNE.out HBK.out HG.out HT.out.1 HT.out.2.1 HT.out.2.2.1 HT.out.2.2.2).mono ?_
        rintro e w9 ⟨rfl, hw9⟩
        have hk := freeze_kept w8 g si.data.toList.length
        rw [← hw9] at hk
        have n0_ := Aside0.mk (show Below w.heap.size w w9 by rw [hw9]; exact Lib.below_freeze (below_drew1 HB.out) (p := ⟨g, 0, none⟩) (by have := HBG.out; show w.heap.size ≤ g; omega) _)
        have n1_ := Aside0.mk ((hk.2 w.heap.size (blk_lt HRb.out) (by have := HBG.out; omega)).trans HRb.out)
        have HO2 := Aside0.mk (Kd.R_kept HO.out hk (fun k hk1 hk2 => by have := HGL.out; omega))
        clear HB HRb HO hk hw9 HBK HG
        have HB := n0_; have HRb := n1_
        clear n0_ n1_
        have cR0 : w9.cell? ⟨w.heap.size, 0, none⟩ = some (.string ⟨#[]⟩) := (blk_cell HRb.out 0).trans rfl
        have cR1 : w9.cell? ⟨w.heap.size, 1, none⟩ = some (.int .i64 0) := (blk_cell HRb.out 1).trans rfl
        have cR2 : w9.cell? ⟨w.heap.size, 2, none⟩ = some (.slice none 0 0) := (blk_cell HRb.out 2).trans rfl
        have cR3 : w9.cell? ⟨w.heap.size, 3, none⟩ = some (.string ⟨#[]⟩) := (blk_cell HRb.out 3).trans rfl
        have fR0 := blk_frozen HRb.out 0
        have fR1 := blk_frozen HRb.out 1
        have fR2 := blk_frozen HRb.out 2
        have fR3 := blk_frozen HRb.out 3
        go_wp2_with (first | (fail))
        refine bodyPost_ret (results_cell_row rfl _ _ w.heap.size 62 #[.string a0, .int .i64 a1, .slice A4 l2.length c4, .string ⟨si.data⟩] (0, 0) _ rfl (by refine blk_put (cs := #[.string a0, .int .i64 a1, .slice A4 l2.length c4, .string (⟨#[]⟩ : ByteArray)]) ?_ 3 _ rfl; refine blk_put (cs := #[.string a0, .int .i64 a1, .slice none 0 0, .string (⟨#[]⟩ : ByteArray)]) ?_ 2 _ rfl; refine blk_put (cs := #[.string a0, .int .i64 0, .slice none 0 0, .string (⟨#[]⟩ : ByteArray)]) ?_ 1 _ rfl; refine blk_put (cs := #[.string (⟨#[]⟩ : ByteArray), .int .i64 0, .slice none 0 0, .string (⟨#[]⟩ : ByteArray)]) ?_ 0 _ rfl; exact HRb.out) Try.underlying62 rfl (by kernel_rfl)) rfl ?_
        have hfar : ∀ k_ : Nat, wr.heap.size ≤ k_ → k_ ≠ w.heap.size := fun k_ h => by omega
        exact ⟨_, rfl, Kd.R_mono (Kd.R_far (Kd.R_far (Kd.R_far (Kd.R_far HO2.out hfar _) hfar _) hfar _) hfar _) (fun k_ h => trivial), below_set (below_set (below_set (below_set HB.out (Nat.le_refl _)) (Nat.le_refl _)) (Nat.le_refl _)) (Nat.le_refl _)⟩
end Go.Proofs.Ytpojamikfcmnoaa.X
