import Derived.Shelf.Strings.Builder1
import Derived.Test.YtgmggompdidcoaaGreatDoorMPbtensorReads3
namespace Go.Proofs.YtgmggompdidcoaaGreatDoor.X
open Go.RowKit Go.Proofs.YtgmggompdidcoaaGreatDoorW.aX Go.Proofs.YtgmggompdidcoaaGreatDoorW.bJ Go.Proofs.YtgmggompdidcoaaGreatDoorW.bK
attribute [local go_sem] bO bQ bS bU bM bN bP bR
set_option linter.unusedVariables false
set_option linter.unusedSimpArgs false
set_option maxHeartbeats 8000000
set_option maxRecDepth 100000
def O8.f (l0 : List Int) : Option (List Int) := if l0.length < 17592186044416 then some l0 else none
theorem O8.calls (A0 : Option Addr) (c0 : Nat) (l0 : List Int) (r : List Int) (w : World) (hr0 : Kd.C (Kd.int .i64) w A0 l0.length l0) (hc0 : l0.length ≤ c0) (h : O8.f l0 = some r) :
 Calls Tryz.prog 80 #[.slice A0 l0.length c0] w fun e w' => ∃ gW : Value, e = .returned (gW) ∧ Kd.R (Kd.int .i64) 2 w' w.heap.size (fun k_ => w.heap.size ≤ k_) gW r ∧ Below w.heap.size w w' := by
 unfold O8.f at h
 by_cases hl : l0.length < 17592186044416
 · rw [ip hl] at h
   obtain rfl := Option.some.inj h
   have LM := aC.mk hl
   have fF := aC.mk hr0
   have HB := aC.mk (Below.refl w.heap.size w)
   have q0 : ∀ w, (binOp .eql 31 (.slice A0 l0.length c0) (.slice none 0 0)).run Tryz.prog w = .ok (.bool A0.isNone) w := fun w => Lib.run_eql_slice_nil w 31 2 A0 l0.length c0 0 0 Tryz.underlying31
   clear h hl hr0
   cases A0 with
   | none =>
    have hn : l0 = [] := by
     rcases Nat.eq_zero_or_pos l0.length with h0 | h0
     · exact List.eq_nil_of_length_eq_zero h0
     · exfalso
       obtain ⟨ad, h1, _⟩ := (Kd.PH (enc := Value.int .i64) (d := (0 : Int)) (h1 := fun _ => rfl) fF.out).2.2 h0
       cases h1
    have Hn := aC.mk hn
    clear hn
    have q1 : ∀ w, (binOp .eql 31 (.slice none l0.length c0) (.slice none 0 0)).run Tryz.prog w = .ok (.bool true) w := fun w => q0 w
    clear q0
    go_enter Tryz.func80, Tryz.ntmps80
    go_wp2
    go_ret
    exact ⟨_, rfl, by rw [Hn.out]; exact Kd.AZ _ _ _ _ _, Below.refl _ _⟩
   | some ad =>
    have q1 : ∀ w, (binOp .eql 31 (.slice (some ad) l0.length c0) (.slice none 0 0)).run Tryz.prog w = .ok (.bool false) w := fun w => q0 w
    clear q0
    go_enter Tryz.func80, Tryz.ntmps80
    go_wp2_with (first | ((with_reducible refine cK (N := 5) rfl ?_); refine Kd.QF (Kd.int .i64) _ 2 ?hg (N := 5) ?hd (xs := ([] : List Int)) (inner := []) (ok := fun k_ => w.heap.size ≤ k_) (qC := fun k_ => w.heap.size ≤ k_) ?hr ?hp (fun _ hk => hk) (Nat.le_refl _) (Below.refl _ _) (Nat.le_refl _) (by simp) ?_; (case hd => rfl); (case hg => rfl); (case hr => first | (go_simp; done) | (go_simp; rfl)); (case hp => exact (jI.none _ _)); intro KC w7 Rl hb F9 FP; clear F9 FP; have bI := aC.mk (Kd.nV Rl (iI HB.out)); have bV := aC.mk (jV HB.out hb); clear HB; have jN := bI; have HB := bV; clear bI bV; clear hb Rl) | ((with_reducible refine qD (b := .append) (xs := #[.tmp 5, .tmp 6]) rfl ?_); at_builtin; refine Kd.Cg (Kd.int .i64) (w0 := w) w.heap.size rfl (.tmp 5) (.tmp 6) 31 2 (.int .i64 0) 8 rfl Tryz.underlying31 FT rfl (by decide) (by omega) KC [] l0 _ _ _ (fun k_ => w.heap.size ≤ k_) (fun _ => False) rfl rfl ?aO ?aR (fun _ _ h => h) (fun _ h => h.elim) ?aF ?aB ?aS ?aL ?_; (case aR => exact (Kd.gN fF.out HB.out)); (case aB => exact HB.out); (case aF => exact (fun _ h => Nat.le_trans (iI HB.out) h)); (case aO => exact jN.out); (case aS => exact (iI HB.out)); (case aL => have := LM.out; simp; omega); intro RF O3 ho hb hg hat; have bI := aC.mk (hb); have bV := aC.mk (ho); clear HB; clear jN; have HB := bI; have rD := bV; clear bI bV; clear ho hb hg hat))
    go_ret
    exact ⟨_, rfl, rD.out, HB.out⟩
 · rw [iN hl] at h; cases h
def Sh.Db : Go.Shelf.Ren := ⟨fun | 166 => 71 | 240 => 92 | 276 => 104 | n => n, fun | 0 => 0 | 3 => 3 | 4 => 4 | 5 => 5 | 9 => 9 | 20 => 20 | 37 => 80 | 70 => 126 | 72 => 128 | 75 => 130 | 80 => 134 | 164 => 173 | n => n, fun | n => n⟩
theorem Sh.aCt : Go.Proofs.Lays.n166 Tryz.prog Sh.Db := {
 mixed := by kernel_rfl
 f166 := Tryz.func71.trans (congrArg some (by kernel_rfl))
 f240 := Tryz.func92.trans (congrArg some (by kernel_rfl))
 f276 := Tryz.func104.trans (congrArg some (by kernel_rfl))
 t0 := Tryz.underlying0
 a0 := Tryz.isAgg0
 z0 := Tryz.sizeOf0
 v0 := Tryz.zeroValue0
 t3 := Tryz.underlying3
 a3 := Tryz.isAgg3
 z3 := Tryz.sizeOf3
 v3 := Tryz.zeroValue3
 t4 := Tryz.underlying4
 a4 := Tryz.isAgg4
 z4 := Tryz.sizeOf4
 v4 := Tryz.zeroValue4
 t9 := Tryz.underlying9
 a9 := Tryz.isAgg9
 z9 := Tryz.sizeOf9
 v9 := Tryz.zeroValue9
 t20 := Tryz.underlying20
 a20 := Tryz.isAgg20
 z20 := Tryz.sizeOf20
 v20 := Tryz.zeroValue20
 t37 := Tryz.underlying80
 a37 := Tryz.isAgg80
 z37 := Tryz.sizeOf80
 v37 := Tryz.zeroValue80
 t70 := Tryz.underlying126
 a70 := Tryz.isAgg126
 z70 := Tryz.sizeOf126
 v70 := Tryz.zeroValue126
 t72 := Tryz.underlying128
 a72 := Tryz.isAgg128
 z72 := Tryz.sizeOf128
 v72 := Tryz.zeroValue128
 t75 := Tryz.underlying130
 a75 := Tryz.isAgg130
 z75 := Tryz.sizeOf130
 v75 := Tryz.zeroValue130
 t164 := Tryz.underlying173
 a164 := Tryz.isAgg173
 z164 := Tryz.sizeOf173
 v164 := Tryz.zeroValue173 }
theorem Sh.Tc : Go.Proofs.Builder.Extra Tryz.prog Sh.Db := {
 sizeBuilder := by kernel_rfl
 liesBuilder := by kernel_rfl
 t5 := Tryz.underlying5
 a5 := Tryz.isAgg5
 z5 := Tryz.sizeOf5
 v5 := Tryz.zeroValue5
 infoByte := by kernel_rfl
 cellsByte := by kernel_rfl
 sizeByte := by kernel_rfl
 neB5 := by decide }
def Sh.Dc : Go.Shelf.Ren := ⟨fun | 169 => 73 | n => n, fun | 0 => 0 | 3 => 3 | 5 => 5 | 9 => 9 | 37 => 80 | 70 => 126 | 72 => 128 | 127 => 159 | n => n, fun | n => n⟩
theorem Sh.aCu : Go.Proofs.Lays.n169 Tryz.prog Sh.Dc := {
 mixed := by kernel_rfl
 f169 := Tryz.func73.trans (congrArg some (by kernel_rfl))
 t0 := Tryz.underlying0
 a0 := Tryz.isAgg0
 z0 := Tryz.sizeOf0
 v0 := Tryz.zeroValue0
 t3 := Tryz.underlying3
 a3 := Tryz.isAgg3
 z3 := Tryz.sizeOf3
 v3 := Tryz.zeroValue3
 t9 := Tryz.underlying9
 a9 := Tryz.isAgg9
 z9 := Tryz.sizeOf9
 v9 := Tryz.zeroValue9
 t37 := Tryz.underlying80
 a37 := Tryz.isAgg80
 z37 := Tryz.sizeOf80
 v37 := Tryz.zeroValue80
 t70 := Tryz.underlying126
 a70 := Tryz.isAgg126
 z70 := Tryz.sizeOf126
 v70 := Tryz.zeroValue126
 t72 := Tryz.underlying128
 a72 := Tryz.isAgg128
 z72 := Tryz.sizeOf128
 v72 := Tryz.zeroValue128
 t127 := Tryz.underlying159
 a127 := Tryz.isAgg159
 z127 := Tryz.sizeOf159
 v127 := Tryz.zeroValue159 }
theorem Sh.Td : Go.Proofs.Builder.Extra Tryz.prog Sh.Dc := {
 sizeBuilder := by kernel_rfl
 liesBuilder := by kernel_rfl
 t5 := Tryz.underlying5
 a5 := Tryz.isAgg5
 z5 := Tryz.sizeOf5
 v5 := Tryz.zeroValue5
 infoByte := by kernel_rfl
 cellsByte := by kernel_rfl
 sizeByte := by kernel_rfl
 neB5 := by decide }
theorem Sh.WriteString (B b : Nat) (bs : List Value) (s : ByteArray) (w : World) (h : Lib.IsBuilder 128 5 B b bs w) (hlen : bs.length + s.size ≤ 140737488355328) (hBw : B ≤ w.heap.size) :
 Calls Tryz.prog 71 #[.pointer (some ⟨b, 0, none⟩), .string s] w fun e w' => e = .returned (.tuple #[.int .i64 s.size, .nilIface]) ∧ (Lib.BuilderAt 128 5 B b (.pointer (some ⟨b, 0, none⟩)) (bs ++ Lib.strCells s) w' ∧ Below B w w') :=
 Go.Proofs.Any.Builder_WriteString Sh.aCt Sh.Tc B b bs s w h hlen hBw
theorem Sh.String (B b : Nat) (l : List UInt8) (w : World) (h : Lib.IsBuilder 128 5 B b (Lib.byteCells l) w) (hBw : B ≤ w.heap.size) :
 Calls Tryz.prog 73 #[.pointer (some ⟨b, 0, none⟩)] w fun e w' => e = .returned (.string ⟨l.toArray⟩) ∧ Below B w w' :=
 Go.Proofs.Any.Builder_String_any Sh.aCu Sh.Td B b l w h hBw
theorem Cc {T e : TypeId} {B b : Nat} {p : Value} {bs : List Value} {w w1 : World} (h : Lib.BuilderAt T e B b p bs w) (hb : Below w.heap.size w w1) : Lib.BuilderAt T e B b p bs w1 := by
 have hlt := h.lt
 obtain ⟨hB, v, hbk, hown, hne⟩ := h
 exact ⟨hB, v, (hb.block b hlt).trans hbk, Gm hown (fun k hk => hb.block k (lu hown k hk)), hne⟩
theorem _C {T e : TypeId} {B b : Nat} {bs : List Value} {w w1 : World} (h : Lib.IsBuilder T e B b bs w) (hb : Below w.heap.size w w1) : Lib.IsBuilder T e B b bs w1 := by
 rcases h with h | h
 · exact .inl (Cc h hb)
 · exact .inr (Cc h hb)
theorem byteCells_append (a b : ByteArray) : Lib.byteCells a.data.toList ++ Lib.strCells b = Lib.byteCells (a ++ b).data.toList := by
 simp [Lib.byteCells, Lib.strCells, ByteArray.data_append]
theorem Ck {B b : Nat} {l : List UInt8} {w : World} (h : Lib.IsBuilder 128 5 B b (Lib.byteCells l) w) (h0 : l ≠ []) :
 ∃ p g cap cur, B ≤ g ∧ g < w.heap.size ∧ b < w.heap.size ∧ w.heap[b]? = some (.cells #[p, .slice (some ⟨g, 0, none⟩) l.length cap] 128 (0, 0)) ∧ w.heap[g]? = some (.cells cur 5 (0, 0)) ∧ l.length ≤ cap ∧ cap ≤ maxLen ∧ cur.size = cap ∧ cur.toList.take l.length = Lib.byteCells l := by
 obtain ⟨p, hB, v, hbk, hown, hne⟩ : ∃ p, Lib.BuilderAt 128 5 B b p (Lib.byteCells l) w := by
  rcases h with h | h
  · exact ⟨_, h⟩
  · exact ⟨_, h⟩
 have hl0 : l.length ≠ 0 := by simpa using h0
 rw [Lib.byteCells_length] at hown
 rcases hown.2 with ⟨_, hz⟩ | ⟨g, cap, cur, rfl, hbg, hg, hnc, hcm, hcs, ht⟩
 · exact absurd hz hl0
 · rw [Nat.mul_one] at hcs ht
   exact ⟨p, g, cap, cur, hbg, jB hg, jB hbk, hbk, hg, hnc, hcm, hcs, ht⟩
theorem Yr {l : List UInt8} {cur : Array Value} {w : World} {g : Nat} (hg : w.heap[g]? = some (.cells cur 5 (0, 0))) (ht : cur.toList.take l.length = Lib.byteCells l) : ∀ j x, l[j]? = some x → w.cell? ((⟨g, 0, none⟩ : Addr).add j) = some (.int .u8 x.toNat) := by
 intro j x hx
 have hj : j < l.length := (List.getElem?_eq_some_iff.1 hx).1
 have h1 : (Lib.byteCells l)[j]? = some (.int .u8 x.toNat) := by simp [Lib.byteCells, hx]
 rw [← ht, List.getElem?_take] at h1
 rw [ip hj, Array.getElem?_toList] at h1
 have h2 : w.cell? ⟨g, j, none⟩ = cur[j]? := aM hg j
 rw [← h1, ← h2]
 unfold Addr.add
 split
 · rename_i h0; subst h0; rfl
 · simp
theorem _O (w : World) (g n : Nat) : Kept w (w.drew.freeze ⟨g, 0, none⟩ n) (fun k => k = g) := by
 unfold World.freeze
 split
 · exact ⟨Nat.le_refl _, fun _ _ _ => rfl⟩
 · refine ⟨by show w.heap.size ≤ (w.heap.modify _ _).size; rw [Array.size_modify]; exact Nat.le_refl _, fun i hi hne => ?_⟩
   show (w.heap.modify g _)[i]? = _
   rw [Array.getElem?_modify]
   rw [iN (fun e => hne e.symm)]
theorem Fe.calls (b g cap : Nat) (p : Value) (cur : Array Value) (l : List UInt8) (w : World) (h0 : l ≠ []) (hb : w.heap[b]? = some (.cells #[p, .slice (some ⟨g, 0, none⟩) l.length cap] 128 (0, 0))) (hg : w.heap[g]? = some (.cells cur 5 (0, 0))) (hnc : l.length ≤ cap) (hcm : cap ≤ maxLen) (hcs : cur.size = cap) (ht : cur.toList.take l.length = Lib.byteCells l) :
 Calls Tryz.prog 73 #[.pointer (some ⟨b, 0, none⟩)] w fun e w' => e = .returned (.string ⟨l.toArray⟩) ∧ w' = w.drew.freeze ⟨g, 0, none⟩ l.length := by
 have hl0 : l.length ≠ 0 := by simpa using h0
 have c1 : w.drew.cell? ⟨b, 1, none⟩ = some (.slice (some ⟨g, 0, none⟩) l.length cap) := (aM (w := w.drew) hb 1).trans rfl
 have q1 : (Builtin.unsafeSliceData_ #[80] 159 #[.slice (some ⟨g, 0, none⟩) l.length cap]).run Tryz.prog w.drew = .ok (.pointer (some ⟨g, 0, none⟩)) w.drew :=
  Lib.run_unsafeSliceData_row _ _ _ _ _ _ (by omega)
 have q2 : (Builtin.unsafeString_ #[159, 3] 9 #[.pointer (some ⟨g, 0, none⟩), .int .i64 l.length]).run Tryz.prog w.drew = .ok (.string ⟨l.toArray⟩) (w.drew.freeze ⟨g, 0, none⟩ l.length) :=
  Lib.run_unsafeString_row w.drew 159 3 9 5 Tryz.underlying159 (by kernel_rfl) g cur.size (by have hg' : w.drew.heap[g]? = some (.cells cur 5 (0, 0)) := hg; simp [World.shape?, hg']) l h0 (by omega) (by unfold maxLen at hcm; omega) (Yr (w := w.drew) hg ht)
 have hne : b ≠ g := aCQ hb hg (by decide)
 have q3 : (w.drew.freeze ⟨g, 0, none⟩ l.length).cell? ⟨b, 1, none⟩ = some (.slice (some ⟨g, 0, none⟩) l.length cap) := (aM (((_O w g l.length).2 b (jB hb) hne).trans hb) 1).trans rfl
 clear hb hg hcs ht hnc hcm hne
 go_enter Tryz.func73, Tryz.ntmps73
 go_wp2
 go_region_held3 (fun w' => w'.cell? ⟨b, 1, none⟩ = some (.slice (some ⟨g, 0, none⟩) l.length cap)) (go_keep) (first | (fail))
 all_goals (go_wp2; go_ret; exact ⟨rfl, rfl⟩)
theorem Ux.calls (b : Nat) (p : Value) (w : World) (hb : w.heap[b]? = some (.cells #[p, .slice none 0 0] 128 (0, 0))) :
 Calls Tryz.prog 73 #[.pointer (some ⟨b, 0, none⟩)] w fun e w' => e = .returned (.string ⟨#[]⟩) ∧ w' = w.drew := by
 have c1 : w.drew.cell? ⟨b, 1, none⟩ = some (.slice none 0 0) := (aM (w := w.drew) hb 1).trans rfl
 have q1 : (Builtin.unsafeSliceData_ #[80] 159 #[.slice none 0 0]).run Tryz.prog w.drew = .ok (.pointer none) w.drew := Lib.run_unsafeSliceData_nil _ _ _ _ _
 have q2 : (Builtin.unsafeString_ #[159, 3] 9 #[.pointer none, .int .i64 0]).run Tryz.prog w.drew = .ok (.string .empty) w.drew := Lib.run_unsafeString_none _ _ _ _ _
 clear hb
 go_enter Tryz.func73, Tryz.ntmps73
 go_wp2
 go_region_held3 (fun w' => w'.cell? ⟨b, 1, none⟩ = some (.slice none 0 0)) (go_keep) (first | (fail))
 all_goals (go_wp2; go_ret; exact ⟨rfl, rfl⟩)
def pY (n : Int) (j : Nat) : Int := IntKind.u64.wrap n / 256 ^ j % 256
def qF (n : Int) : ByteArray := strOfNums [pY n 0, pY n 1, pY n 2, pY n 3, pY n 4, pY n 5, pY n 6, pY n 7]
def BH (n : Int) (i : Nat) : Array Value := #[.int .u8 (if 0 < i then pY n 0 else 0), .int .u8 (if 1 < i then pY n 1 else 0), .int .u8 (if 2 < i then pY n 2 else 0), .int .u8 (if 3 < i then pY n 3 else 0), .int .u8 (if 4 < i then pY n 4 else 0), .int .u8 (if 5 < i then pY n 5 else 0), .int .u8 (if 6 < i then pY n 6 else 0), .int .u8 (if 7 < i then pY n 7 else 0)]
theorem Wi (n : Int) {W : World} {g : Nat} (h : W.heap[g]? = some (.cells (BH n 8) 142 (0, 0))) : (convert 80 9 (.slice (some ⟨g, 0, none⟩) 8 8)).run Tryz.prog W = .ok (.string (qF n)) W := by
 refine Ce Tryz.underlying80 Tryz.underlying5 Tryz.underlying9 ⟨rfl, by decide, fun _ => ⟨_, rfl, ?_⟩⟩
 intro j hj
 have hc : ∀ i, W.cell? ⟨g, i, none⟩ = (BH n 8)[i]? := fun i => aM h i
 have : j = 0 ∨ j = 1 ∨ j = 2 ∨ j = 3 ∨ j = 4 ∨ j = 5 ∨ j = 6 ∨ j = 7 := by omega
 rcases this with rfl | rfl | rfl | rfl | rfl | rfl | rfl | rfl <;> simp [Addr.add, hc, BH]
theorem Dj.calls (n : Int) (w : World) :
 Calls Tryz.prog 44 #[.int .i64 n] w fun e w' => e = .returned (.string (qF n)) ∧ Below w.heap.size w w' := by
 go_enter Tryz.func44, Tryz.ntmps44
 go_wp2
 have oC := aC.mk (show (w.alloc (Obj.cells #[.int .u8 0, .int .u8 0, .int .u8 0, .int .u8 0, .int .u8 0, .int .u8 0, .int .u8 0, .int .u8 0] 142)).heap[w.heap.size]? = some (.cells (BH n 0) 142 (0, 0)) from vL w _)
 have HB := aC.mk (iD (Below.refl w.heap.size w) (Obj.cells #[.int .u8 0, .int .u8 0, .int .u8 0, .int .u8 0, .int .u8 0, .int .u8 0, .int .u8 0, .int .u8 0] 142))
 go_loopg [5] 8 (fun kq v5 w' => ∃ i : Nat, v5 = .int .i64 i ∧ aC (i + kq = 8) ∧ i ≤ 8 ∧ aC (w'.heap[w.heap.size]? = some (.cells (BH n i) 142 (0, 0))) ∧ aC (Below w.heap.size w w'))
 case atStart => exact ⟨0, rfl, ⟨by omega⟩, Nat.zero_le _, oC, HB⟩
 case round =>
  clear oC HB
  obtain ⟨i, rfl, HK, hi, oC, HB⟩ := hrel
  have h5 : i = 0 ∨ i = 1 ∨ i = 2 ∨ i = 3 ∨ i = 4 ∨ i = 5 ∨ i = 6 ∨ i = 7 ∨ i = 8 := by omega
  rcases h5 with rfl | rfl | rfl | rfl | rfl | rfl | rfl | rfl | rfl
  · obtain ⟨kk, rfl⟩ : ∃ m, gk = m + 1 := ⟨gk - 1, by have := HK.out; omega⟩
    have c0 : wr.cell? ⟨w.heap.size, 0, none⟩ = some (.int .u8 0) := (aM oC.out 0).trans rfl
    have f0 := eZ oC.out 0
    go_wp2_with (first | (fail))
    go_roundg kk
    case measure => have := HK.out; omega
    case rel => exact ⟨1, rfl, ⟨by have := HK.out; omega⟩, by omega, ⟨(lH oC.out 0 _ rfl).trans (by simp [BH, pY])⟩, ⟨fD HB.out (Nat.le_refl _)⟩⟩
  · obtain ⟨kk, rfl⟩ : ∃ m, gk = m + 1 := ⟨gk - 1, by have := HK.out; omega⟩
    have c0 : wr.cell? ⟨w.heap.size, 1, none⟩ = some (.int .u8 0) := (aM oC.out 1).trans rfl
    have f0 := eZ oC.out 1
    go_wp2_with (first | (fail))
    go_roundg kk
    case measure => have := HK.out; omega
    case rel => exact ⟨2, rfl, ⟨by have := HK.out; omega⟩, by omega, ⟨(lH oC.out 1 _ rfl).trans (by simp [BH, pY])⟩, ⟨fD HB.out (Nat.le_refl _)⟩⟩
  · obtain ⟨kk, rfl⟩ : ∃ m, gk = m + 1 := ⟨gk - 1, by have := HK.out; omega⟩
    have c0 : wr.cell? ⟨w.heap.size, 2, none⟩ = some (.int .u8 0) := (aM oC.out 2).trans rfl
    have f0 := eZ oC.out 2
    go_wp2_with (first | (fail))
    go_roundg kk
    case measure => have := HK.out; omega
    case rel => exact ⟨3, rfl, ⟨by have := HK.out; omega⟩, by omega, ⟨(lH oC.out 2 _ rfl).trans (by simp [BH, pY])⟩, ⟨fD HB.out (Nat.le_refl _)⟩⟩
  · obtain ⟨kk, rfl⟩ : ∃ m, gk = m + 1 := ⟨gk - 1, by have := HK.out; omega⟩
    have c0 : wr.cell? ⟨w.heap.size, 3, none⟩ = some (.int .u8 0) := (aM oC.out 3).trans rfl
    have f0 := eZ oC.out 3
    go_wp2_with (first | (fail))
    go_roundg kk
    case measure => have := HK.out; omega
    case rel => exact ⟨4, rfl, ⟨by have := HK.out; omega⟩, by omega, ⟨(lH oC.out 3 _ rfl).trans (by simp [BH, pY])⟩, ⟨fD HB.out (Nat.le_refl _)⟩⟩
  · obtain ⟨kk, rfl⟩ : ∃ m, gk = m + 1 := ⟨gk - 1, by have := HK.out; omega⟩
    have c0 : wr.cell? ⟨w.heap.size, 4, none⟩ = some (.int .u8 0) := (aM oC.out 4).trans rfl
    have f0 := eZ oC.out 4
    go_wp2_with (first | (fail))
    go_roundg kk
    case measure => have := HK.out; omega
    case rel => exact ⟨5, rfl, ⟨by have := HK.out; omega⟩, by omega, ⟨(lH oC.out 4 _ rfl).trans (by simp [BH, pY])⟩, ⟨fD HB.out (Nat.le_refl _)⟩⟩
  · obtain ⟨kk, rfl⟩ : ∃ m, gk = m + 1 := ⟨gk - 1, by have := HK.out; omega⟩
    have c0 : wr.cell? ⟨w.heap.size, 5, none⟩ = some (.int .u8 0) := (aM oC.out 5).trans rfl
    have f0 := eZ oC.out 5
    go_wp2_with (first | (fail))
    go_roundg kk
    case measure => have := HK.out; omega
    case rel => exact ⟨6, rfl, ⟨by have := HK.out; omega⟩, by omega, ⟨(lH oC.out 5 _ rfl).trans (by simp [BH, pY])⟩, ⟨fD HB.out (Nat.le_refl _)⟩⟩
  · obtain ⟨kk, rfl⟩ : ∃ m, gk = m + 1 := ⟨gk - 1, by have := HK.out; omega⟩
    have c0 : wr.cell? ⟨w.heap.size, 6, none⟩ = some (.int .u8 0) := (aM oC.out 6).trans rfl
    have f0 := eZ oC.out 6
    go_wp2_with (first | (fail))
    go_roundg kk
    case measure => have := HK.out; omega
    case rel => exact ⟨7, rfl, ⟨by have := HK.out; omega⟩, by omega, ⟨(lH oC.out 6 _ rfl).trans (by simp [BH, pY])⟩, ⟨fD HB.out (Nat.le_refl _)⟩⟩
  · obtain ⟨kk, rfl⟩ : ∃ m, gk = m + 1 := ⟨gk - 1, by have := HK.out; omega⟩
    have c0 : wr.cell? ⟨w.heap.size, 7, none⟩ = some (.int .u8 0) := (aM oC.out 7).trans rfl
    have f0 := eZ oC.out 7
    go_wp2_with (first | (fail))
    go_roundg kk
    case measure => have := HK.out; omega
    case rel => exact ⟨8, rfl, ⟨by have := HK.out; omega⟩, by omega, ⟨(lH oC.out 7 _ rfl).trans (by simp [BH, pY])⟩, ⟨fD HB.out (Nat.le_refl _)⟩⟩
  · have r3 := Wi n oC.out
    go_wp2_with (first | (fail))
    go_ret
    exact ⟨rfl, HB.out⟩
def iE : List Int → ByteArray
 | [] => ⟨#[]⟩
 | x :: l => qF x ++ iE l
theorem Cm (l : List Int) (x : Int) : iE (l ++ [x]) = iE l ++ qF x := by
 induction l with
 | nil => apply ByteArray.ext; simp [iE, ByteArray.data_append]
 | cons y l ih => rw [List.cons_append, iE, ih, iE, ByteArray.append_assoc]
theorem XF (n : Int) : (qF n).size = 8 := strOfNums_size _
theorem NJ (l : List Int) : (iE l).size = 8 * l.length := by
 induction l with
 | nil => rfl
 | cons x l ih => rw [iE, ByteArray.size_append, ih, XF, List.length_cons]; omega
theorem DT (w : World) (o : Obj) : (w.alloc o).heap.size = w.heap.size + 1 := Array.size_push _
theorem Ee {b B : Nat} {w w1 : World} (h : Below B w w1) (hb : b ≤ B) : Below b w w1 := ⟨h.os, h.tape, h.output, h.size, fun i hi => h.block i (by omega)⟩
theorem aCw.calls (name : ByteArray) (k : Int) (A0 : Option Addr) (c0 : Nat) (l0 : List Int) (A1 : Option Addr) (c1 : Nat) (l1 : List Int) (w : World) (hr0 : Kd.C (Kd.int .i64) w A0 l0.length l0) (hc0 : l0.length ≤ c0) (hr1 : Kd.C (Kd.int .i64) w A1 l1.length l1) (hc1 : l1.length ≤ c1) (hl0 : l0.length ≤ 1000000) (hl1 : l1.length ≤ 1000000) (hn1 : l1 ≠ []) :
 Calls Tryz.prog 43 #[.string name, .int .i64 k, .slice A0 l0.length c0, .slice A1 l1.length c1, .func (Fn.func 44) #[] #[]] w fun e w' => ∃ z8, e = .returned (.agg #[.string name, .int .i64 k, z8, .string (iE l1)]) ∧ Kd.R (Kd.int .i64) 2 w' w.heap.size (fun k_ => w.heap.size ≤ k_) z8 l0 ∧ Below w.heap.size w w' := by
 have fF := aC.mk hr0
 have oO := aC.mk hc0
 have C_ := aC.mk hl0
 have HR1 := aC.mk hr1
 have VO := aC.mk hc1
 have HL := aC.mk hl1
 clear hr0 hc0 hl0 hr1 hc1 hl1
 go_enter Tryz.func43, Tryz.ntmps43
 go_wp2
 have eF := aC.mk (show ((w.alloc (Obj.cells #[Value.string { data := #[] }, Value.int IntKind.i64 0, Value.slice none 0 0, Value.string { data := #[] }] 33)).alloc (Obj.cells #[Value.pointer none, Value.slice none 0 0] 128)).heap[w.heap.size]? = some (Obj.cells #[Value.string { data := #[] }, Value.int IntKind.i64 0, Value.slice none 0 0, Value.string { data := #[] }] 33) from DV (vL w _) _)
 have HB := aC.mk (iD (iD (Below.refl w.heap.size w) (Obj.cells #[Value.string { data := #[] }, Value.int IntKind.i64 0, Value.slice none 0 0, Value.string { data := #[] }] 33)) (Obj.cells #[Value.pointer none, Value.slice none 0 0] 128))
 have HI : aC (Lib.IsBuilder 128 5 (w.heap.size + 1) (w.heap.size + 1) (Lib.byteCells (iE (l1.take 0)).data.toList) ((w.alloc (Obj.cells #[Value.string { data := #[] }, Value.int IntKind.i64 0, Value.slice none 0 0, Value.string { data := #[] }] 33)).alloc (Obj.cells #[Value.pointer none, Value.slice none 0 0] 128))) := ⟨by
  have h := Lib.fresh_isBuilder 128 5 (w.alloc (Obj.cells #[Value.string { data := #[] }, Value.int IntKind.i64 0, Value.slice none 0 0, Value.string { data := #[] }] 33))
  have e : (w.alloc (Obj.cells #[Value.string { data := #[] }, Value.int IntKind.i64 0, Value.slice none 0 0, Value.string { data := #[] }] 33)).heap.size = w.heap.size + 1 := DT _ _
  rw [e] at h
  exact h⟩
 go_loopg [16] l1.length (fun kq v16 w' => ∃ i : Nat, v16 = .int .i64 i ∧ aC (i + kq = l1.length) ∧ i ≤ l1.length ∧ aC (Lib.IsBuilder 128 5 (w.heap.size + 1) (w.heap.size + 1) (Lib.byteCells (iE (l1.take i)).data.toList) w') ∧ aC (w'.heap[w.heap.size]? = some (Obj.cells #[Value.string { data := #[] }, Value.int IntKind.i64 0, Value.slice none 0 0, Value.string { data := #[] }] 33)) ∧ aC (w.heap.size + 1 ≤ w'.heap.size) ∧ aC (Below w.heap.size w w'))
 case atStart => exact ⟨0, rfl, ⟨by omega⟩, Nat.zero_le _, HI, eF, ⟨by rw [DT, DT]; omega⟩, HB⟩
 case round =>
  clear eF HB HI
  obtain ⟨i, rfl, HK, hi, HI, eF, HS, HB⟩ := hrel
  by_cases hlt : i < l1.length
  · have hlt' : decide ((i : Int) < (l1.length : Int)) = true := by simpa using hlt
    obtain ⟨kk, rfl⟩ : ∃ m, gk = m + 1 := ⟨gk - 1, by have := HK.out; omega⟩
    have UZ : aC (Lib.byteCells (iE (l1.take i)).data.toList ++ Lib.strCells (qF (rd l1 i)) = Lib.byteCells (iE (l1.take (i + 1))).data.toList) := ⟨by
     rw [byteCells_append, List.take_succ_eq_append_getElem hlt, Cm]
     simp [rd, List.getD_eq_getElem?_getD, hlt]⟩
    have Hlen : aC ((Lib.byteCells (iE (l1.take i)).data.toList).length + (qF (rd l1 i)).size ≤ 140737488355328) := ⟨by
     have h1 := NJ (l1.take i)
     have h3 : (Lib.byteCells (iE (l1.take i)).data.toList).length = (iE (l1.take i)).size := by simp [Lib.byteCells]
     have h4 := HL.out
     rw [List.length_take] at h1
     rw [XF, h3]
     omega⟩
    have Hw : aC (wrap64 ((i : Int) + 1) = (i : Int) + 1) := ⟨by have := HL.out; exact fC (by omega) (by omega)⟩
    have dL : 0 ≤ (i : Int) := Int.natCast_nonneg i
    have dM : (i : Int) < (l1.length : Int) := by omega
    obtain ⟨lD, iM, gD⟩ := Kd.kN HR1.out i dL dM
    cases iM
    replace gD := (HB.out.cell (World.block_lt_of_cell? w _ gD)).trans gD
    rw [Int.toNat_natCast] at gD
    replace dL := eT dL
    replace dM := eT dM
    go_wp2_with (first | (fail))
    refine (Dj.calls (rd l1 i) _).mono ?_
    rintro e w8 ⟨rfl, hb⟩
    have bI := aC.mk (jV HB.out hb)
    have bV := aC.mk (_C HI.out hb)
    have gB := aC.mk (oK eF.out hb)
    have kL := aC.mk (Nat.le_trans HS.out hb.size)
    clear HB HI eF HS hb
    have HB := bI; have HI := bV; have eF := gB; have HS := kL
    clear bI bV gB kL
    go_wp2_with (first | (fail))
    refine (Sh.WriteString (w.heap.size + 1) (w.heap.size + 1) _ (qF (rd l1 i)) _ HI.out Hlen.out HS.out).mono ?_
    rintro e w9 ⟨rfl, M0, hb⟩
    have bI := aC.mk (HB.out.trans (Ee hb (Nat.le_succ _)))
    have bV := aC.mk (show Lib.IsBuilder 128 5 (w.heap.size + 1) (w.heap.size + 1) _ w9 from .inr M0)
    have gB := aC.mk ((hb.block w.heap.size (Nat.lt_succ_self _)).trans eF.out)
    have kL := aC.mk (Nat.le_trans HS.out hb.size)
    clear HB HI eF HS hb M0
    have HB := bI; have HI := bV; have eF := gB; have HS := kL
    clear bI bV gB kL
    go_wp2_with (first | (fail))
    go_roundg kk
    case measure => have := HK.out; omega
    case rel => exact ⟨i + 1, by rw [Hw.out]; rfl, ⟨by have := HK.out; omega⟩, by omega, ⟨by rw [← UZ.out]; exact HI.out⟩, eF, HS, HB⟩
  · have hlt' : decide ((i : Int) < (l1.length : Int)) = false := by simpa using hlt
    have Hi : aC (l1.take i = l1) := ⟨List.take_of_length_le (by omega)⟩
    have HI2 : aC (Lib.IsBuilder 128 5 (w.heap.size + 1) (w.heap.size + 1) (Lib.byteCells (iE l1).data.toList) wr) := ⟨by have := HI.out; rw [Hi.out] at this; exact this⟩
    have hne : (iE l1).data.toList ≠ [] := by
     intro e
     have h1 := NJ l1
     have h2 : (iE l1).size = (iE l1).data.toList.length := (Array.length_toList).symm
     rw [e] at h2
     have h3 : l1.length ≠ 0 := fun h => hn1 (List.eq_nil_of_length_eq_zero h)
     rw [List.length_nil] at h2
     omega
    obtain ⟨p, g, cap, cur, hBg, hgl, hbl, hbk, hg, hnc, hcm, hcs, ht⟩ := Ck HI2.out hne
    have F3 := aC.mk hbk
    have HG := aC.mk hg
    have HT := aC.mk (And.intro hnc (And.intro hcm (And.intro hcs ht)))
    have yg := aC.mk hgl
    have HBL := aC.mk hbl
    have VN := aC.mk hBg
    have yo := aC.mk hne
    clear hbk hg hnc hcm hcs ht hgl hbl hBg hne HI HI2
    have hlt2 : w.heap.size < wr.heap.size := by have := HS.out; omega
    go_wp2_with (first | (fail))
    refine (O8.calls A0 c0 l0 l0 _ (Kd.gN fF.out HB.out) oO.out (ip (by have := C_.out; omega))).mono ?_
    rintro e w8 ⟨v2, rfl, hR, hb⟩
    obtain ⟨A2, c2, rfl⟩ := Kd.jF hR
    have bI := aC.mk (jV HB.out hb)
    have bV := aC.mk (oK eF.out hb)
    have gB := aC.mk (oK F3.out hb)
    have kL := aC.mk (oK HG.out hb)
    have HO := aC.mk (Kd.nV hR (iI HB.out))
    clear HB eF F3 HG hb hR
    have HB := bI; have eF := bV; have F3 := gB; have HG := kL
    clear bI bV gB kL
    go_wp2_with (first | (fail))
    refine (Fe.calls (w.heap.size + 1) g cap p cur _ _ yo.out F3.out HG.out HT.out.1 HT.out.2.1 HT.out.2.2.1 HT.out.2.2.2).mono ?_
    rintro e w9 ⟨rfl, O1⟩
    have hk := _O w8 g (iE l1).data.toList.length
    rw [← O1] at hk
    have bI := aC.mk (show Below w.heap.size w w9 by rw [O1]; exact Lib.below_freeze (iO HB.out) (p := ⟨g, 0, none⟩) (by have := VN.out; show w.heap.size ≤ g; omega) _)
    have bV := aC.mk ((hk.2 w.heap.size (jB eF.out) (by have := VN.out; omega)).trans eF.out)
    have RJ := aC.mk (Kd.jh HO.out hk (fun k hk1 hk2 => by have := yg.out; omega))
    clear HB eF HO hk O1 F3 HG
    have HB := bI; have eF := bV
    clear bI bV
    have zu : w9.cell? ⟨w.heap.size, 0, none⟩ = some (.string ⟨#[]⟩) := (aM eF.out 0).trans rfl
    have zw : w9.cell? ⟨w.heap.size, 1, none⟩ = some (.int .i64 0) := (aM eF.out 1).trans rfl
    have zx : w9.cell? ⟨w.heap.size, 2, none⟩ = some (.slice none 0 0) := (aM eF.out 2).trans rfl
    have zy : w9.cell? ⟨w.heap.size, 3, none⟩ = some (.string ⟨#[]⟩) := (aM eF.out 3).trans rfl
    have Ad := eZ eF.out 0
    have Ae := eZ eF.out 1
    have Ag := eZ eF.out 2
    have Ah := eZ eF.out 3
    go_wp2_with (first | (fail))
    refine bodyPost_ret (results_cell_row rfl _ _ w.heap.size 33 #[.string name, .int .i64 k, .slice A2 l0.length c2, .string ⟨(iE l1).data⟩] (0, 0) _ rfl (by refine lH (cs := #[.string name, .int .i64 k, .slice A2 l0.length c2, .string ⟨#[]⟩]) ?_ 3 _ rfl; refine lH (cs := #[.string name, .int .i64 k, .slice none 0 0, .string ⟨#[]⟩]) ?_ 2 _ rfl; refine lH (cs := #[.string name, .int .i64 0, .slice none 0 0, .string ⟨#[]⟩]) ?_ 1 _ rfl; refine lH (cs := #[.string ⟨#[]⟩, .int .i64 0, .slice none 0 0, .string ⟨#[]⟩]) ?_ 0 _ rfl; exact eF.out) Tryz.underlying33 rfl (by kernel_rfl)) rfl ?_
    have pW : ∀ k_ : Nat, wr.heap.size ≤ k_ → k_ ≠ w.heap.size := fun k_ h => by omega
    exact ⟨_, rfl, Kd.eO (Kd.dE (Kd.dE (Kd.dE (Kd.dE RJ.out pW _) pW _) pW _) pW _) (fun k_ h => by omega), fD (fD (fD (fD HB.out (Nat.le_refl _)) (Nat.le_refl _)) (Nat.le_refl _)) (Nat.le_refl _)⟩
theorem Cf.calls (name : ByteArray) (A0 : Option Addr) (c0 : Nat) (l0 : List Int) (A1 : Option Addr) (c1 : Nat) (l1 : List Int) (w : World) (hr0 : Kd.C (Kd.int .i64) w A0 l0.length l0) (hc0 : l0.length ≤ c0) (hr1 : Kd.C (Kd.int .i64) w A1 l1.length l1) (hc1 : l1.length ≤ c1) (hl0 : l0.length ≤ 1000000) (hl1 : l1.length ≤ 1000000) (hn1 : l1 ≠ []) :
 Calls Tryz.prog 17 #[.string name, .slice A0 l0.length c0, .slice A1 l1.length c1] w fun e w' => ∃ z8, e = .returned (.agg #[.string name, .int .i64 7, z8, .string (iE l1)]) ∧ Kd.R (Kd.int .i64) 2 w' w.heap.size (fun k_ => w.heap.size ≤ k_) z8 l0 ∧ Below w.heap.size w w' := by
 have fF := aC.mk hr0
 have HR1 := aC.mk hr1
 have HH := aC.mk (And.intro hc0 (And.intro hc1 (And.intro hl0 (And.intro hl1 hn1))))
 clear hr0 hr1 hc0 hc1 hl0 hl1 hn1
 go_enter Tryz.func17, Tryz.ntmps17
 go_wp2_with (first | (fail))
 have eF := aC.mk (vL w (Obj.cells #[Value.string { data := #[] }, Value.int IntKind.i64 0, Value.slice none 0 0, Value.string { data := #[] }] 33))
 have HB := aC.mk (iD (Below.refl w.heap.size w) (Obj.cells #[Value.string { data := #[] }, Value.int IntKind.i64 0, Value.slice none 0 0, Value.string { data := #[] }] 33))
 refine (aCw.calls name 7 A0 c0 l0 A1 c1 l1 _ (Kd.gN fF.out HB.out) HH.out.1 (Kd.gN HR1.out HB.out) HH.out.2.1 HH.out.2.2.1 HH.out.2.2.2.1 HH.out.2.2.2.2).mono ?_
 rintro e w8 ⟨v2, rfl, hR, hb⟩
 obtain ⟨A2, c2, rfl⟩ := Kd.jF hR
 have hlt : (w.alloc (Obj.cells #[Value.string { data := #[] }, Value.int IntKind.i64 0, Value.slice none 0 0, Value.string { data := #[] }] 33)).heap.size = w.heap.size + 1 := DT _ _
 have bI := aC.mk (jV HB.out hb)
 have bV := aC.mk (oK eF.out hb)
 have HO := aC.mk (Kd.nV hR (iI HB.out))
 rw [hlt] at HO
 clear HB eF hb hR hlt
 have HB := bI; have eF := bV
 clear bI bV
 have zu : w8.cell? ⟨w.heap.size, 0, none⟩ = some (.string ⟨#[]⟩) := (aM eF.out 0).trans rfl
 have zw : w8.cell? ⟨w.heap.size, 1, none⟩ = some (.int .i64 0) := (aM eF.out 1).trans rfl
 have zx : w8.cell? ⟨w.heap.size, 2, none⟩ = some (.slice none 0 0) := (aM eF.out 2).trans rfl
 have zy : w8.cell? ⟨w.heap.size, 3, none⟩ = some (.string ⟨#[]⟩) := (aM eF.out 3).trans rfl
 have Ad := eZ eF.out 0
 have Ae := eZ eF.out 1
 have Ag := eZ eF.out 2
 have Ah := eZ eF.out 3
 go_wp2_with (first | (fail))
 refine bodyPost_ret (results_cell_row rfl _ _ w.heap.size 33 #[.string name, .int .i64 7, .slice A2 l0.length c2, .string (iE l1)] (0, 0) _ rfl (by refine lH (cs := #[.string name, .int .i64 7, .slice A2 l0.length c2, .string ⟨#[]⟩]) ?_ 3 _ rfl; refine lH (cs := #[.string name, .int .i64 7, .slice none 0 0, .string ⟨#[]⟩]) ?_ 2 _ rfl; refine lH (cs := #[.string name, .int .i64 0, .slice none 0 0, .string ⟨#[]⟩]) ?_ 1 _ rfl; refine lH (cs := #[.string ⟨#[]⟩, .int .i64 0, .slice none 0 0, .string ⟨#[]⟩]) ?_ 0 _ rfl; exact eF.out) Tryz.underlying33 rfl (by kernel_rfl)) rfl ?_
 have pW : ∀ k_ : Nat, w.heap.size + 1 ≤ k_ → k_ ≠ w.heap.size := fun k_ h => by omega
 exact ⟨_, rfl, Kd.eO (Kd.dE (Kd.dE (Kd.dE (Kd.dE HO.out pW _) pW _) pW _) pW _) (fun k_ h => by omega), fD (fD (fD (fD HB.out (Nat.le_refl _)) (Nat.le_refl _)) (Nat.le_refl _)) (Nat.le_refl _)⟩
def K4.f (a0 : Int) : Option ByteArray := some (qF a0)
theorem K4.calls (a0 : Int) (r : ByteArray) (w : World) (h : K4.f a0 = some r) :
 Calls Tryz.prog 44 #[.int .i64 a0] w fun e w' => e = .returned (.string r) ∧ Below w.heap.size w w' := by
 obtain rfl := Option.some.inj h
 exact Dj.calls a0 w
theorem Tg (x : Int) (s : ByteArray) (h : K4.f x = some s) : 0 < s.size := by
 obtain rfl := Option.some.inj h
 rw [XF]; omega
def rU {α : Type} (g : α → Option ByteArray) : List α → Option ByteArray
 | [] => some ⟨#[]⟩
 | x :: l => (g x).bind fun a => (rU g l).bind fun b => some (a ++ b)
theorem Cn {α : Type} (g : α → Option ByteArray) (l m : List α) : rU g (l ++ m) = (rU g l).bind fun a => (rU g m).bind fun b => some (a ++ b) := by
 induction l with
 | nil =>
  show rU g m = (rU g m).bind fun b => some ((⟨#[]⟩ : ByteArray) ++ b)
  cases rU g m with
  | none => rfl
  | some b => exact congrArg some (by apply ByteArray.ext; simp [ByteArray.data_append])
 | cons x l ih =>
  rw [List.cons_append, rU, rU, ih]
  cases g x with
  | none => rfl
  | some a =>
   cases rU g l with
   | none => rfl
   | some b =>
    cases rU g m with
    | none => rfl
    | some c => exact congrArg some (by rw [ByteArray.append_assoc])
theorem Dq {α : Type} {g : α → Option ByteArray} {l : List α} {s : ByteArray} (h : rU g l = some s) (d : α) (i : Nat) (hi : i < l.length) :
 ∃ si x, rU g (l.take i) = some si ∧ g (l.getD i d) = some x ∧ rU g (l.take (i + 1)) = some (si ++ x) ∧ (si ++ x).size ≤ s.size := by
 have e1 : l.take (i + 1) = l.take i ++ [l.getD i d] := by
  rw [List.take_succ_eq_append_getElem hi, List.getD_eq_getElem?_getD, List.getElem?_eq_getElem hi]; rfl
 have e2 : l = l.take (i + 1) ++ l.drop (i + 1) := (List.take_append_drop _ _).symm
 rw [e2, Cn] at h
 obtain ⟨a, ha, h⟩ := Option.bind_eq_some_iff.mp h
 obtain ⟨b, _, h⟩ := Option.bind_eq_some_iff.mp h
 have ha2 := ha
 rw [e1, Cn] at ha2
 obtain ⟨si, hsi, ha2⟩ := Option.bind_eq_some_iff.mp ha2
 obtain ⟨x', hx', ha2⟩ := Option.bind_eq_some_iff.mp ha2
 obtain ⟨x, hx, hx'⟩ := Option.bind_eq_some_iff.mp hx'
 obtain ⟨e, he, hx'⟩ := Option.bind_eq_some_iff.mp hx'
 obtain rfl := Option.some.inj he
 obtain rfl := Option.some.inj hx'
 have hxe : x ++ (⟨#[]⟩ : ByteArray) = x := by apply ByteArray.ext; simp [ByteArray.data_append]
 rw [hxe] at ha2
 obtain rfl := Option.some.inj ha2
 obtain rfl := Option.some.inj h
 exact ⟨si, x, hsi, hx, ha, by rw [ByteArray.size_append (a := si ++ x)]; omega⟩
theorem Yt {α : Type} {g : α → Option ByteArray} {l : List α} {s si : ByteArray} (h : rU g l = some s) (i : Nat) (hi : l.length ≤ i) (h2 : rU g (l.take i) = some si) : si = s := by
 rw [List.take_of_length_le hi, h] at h2
 exact (Option.some.inj h2).symm
theorem Yu {α : Type} {g : α → Option ByteArray} {s : ByteArray} (h : rU g [] = some s) : s = ⟨#[]⟩ := (Option.some.inj h).symm
theorem Um (a b : ByteArray) : Lib.byteCells a.data.toList ++ Lib.strCells b = Lib.byteCells (a ++ b).data.toList := byteCells_append a b
theorem Un (a : ByteArray) : (Lib.byteCells a.data.toList).length = a.size := by simp [Lib.byteCells]
def NH.f (a0 : ByteArray) (a1 : Int) (l2 : List Int) (l3 : List Int) : Option (ByteArray × Int × List Int × ByteArray) := if l2.length ≤ 1000000 then (if l3.length ≤ 1000000 then (rU K4.f l3).bind fun s => (if s.size ≤ 100000000 then some (a0, a1, l2, s) else none) else none) else none
theorem NH.calls (a0 : ByteArray) (a1 : Int) (A2 : Option Addr) (c2 : Nat) (l2 : List Int) (A3 : Option Addr) (c3 : Nat) (l3 : List Int) (r1 : ByteArray) (r2 : Int) (r3 : List Int) (r4 : ByteArray) (w : World) (hr2 : Kd.C (Kd.int .i64) w A2 l2.length l2) (hc2 : l2.length ≤ c2) (hr3 : Kd.C (Kd.int .i64) w A3 l3.length l3) (hc3 : l3.length ≤ c3) (h : NH.f a0 a1 l2 l3 = some (r1, r2, r3, r4)) :
 Calls Tryz.prog 43 #[.string a0, .int .i64 a1, .slice A2 l2.length c2, .slice A3 l3.length c3, .func (Fn.func 44) #[] #[]] w fun e w' => ∃ z8 : Value, e = .returned (.agg #[.string r1, .int .i64 r2, z8, .string r4]) ∧ Kd.R (Kd.int .i64) 2 w' w.heap.size (fun _ => True) z8 r3 ∧ Below w.heap.size w w' := by
 unfold NH.f at h
 by_cases hl2 : l2.length ≤ 1000000
 case neg => rw [iN hl2] at h; cases h
 rw [ip hl2] at h
 by_cases hl3 : l3.length ≤ 1000000
 case neg => rw [iN hl3] at h; cases h
 rw [ip hl3] at h
 obtain ⟨s, hs, h⟩ := Option.bind_eq_some_iff.mp h
 by_cases hl4 : s.size ≤ 100000000
 case neg => rw [iN hl4] at h; cases h
 rw [ip hl4] at h
 obtain ⟨rfl, rfl, rfl, rfl⟩ : a0 = r1 ∧ a1 = r2 ∧ l2 = r3 ∧ s = r4 := by have h2 := Option.some.inj h; simpa using h2
 clear h
 have fF := aC.mk hr2
 have oO := aC.mk hc2
 have C_ := aC.mk hl2
 have HR1 := aC.mk hr3
 have VO := aC.mk hc3
 have HL := aC.mk hl3
 have HS4 := aC.mk hl4
 have ZZ := aC.mk hs
 clear hr2 hc2 hl2 hr3 hc3 hl3 hl4 hs
 go_enter Tryz.func43, Tryz.ntmps43
 go_wp2
 have eF := aC.mk (show ((w.alloc (Obj.cells #[Value.string { data := #[] }, Value.int IntKind.i64 0, Value.slice none 0 0, Value.string { data := #[] }] 33)).alloc (Obj.cells #[Value.pointer none, Value.slice none 0 0] 128)).heap[w.heap.size]? = some (Obj.cells #[Value.string { data := #[] }, Value.int IntKind.i64 0, Value.slice none 0 0, Value.string { data := #[] }] 33) from DV (vL w _) _)
 have HB := aC.mk (iD (iD (Below.refl w.heap.size w) (Obj.cells #[Value.string { data := #[] }, Value.int IntKind.i64 0, Value.slice none 0 0, Value.string { data := #[] }] 33)) (Obj.cells #[Value.pointer none, Value.slice none 0 0] 128))
 have HF : aC ((0 : Nat) = 0 → ((w.alloc (Obj.cells #[Value.string { data := #[] }, Value.int IntKind.i64 0, Value.slice none 0 0, Value.string { data := #[] }] 33)).alloc (Obj.cells #[Value.pointer none, Value.slice none 0 0] 128)).heap[w.heap.size + 1]? = some (Obj.cells #[Value.pointer none, Value.slice none 0 0] 128)) := ⟨fun _ => by
  have e : (w.alloc (Obj.cells #[Value.string { data := #[] }, Value.int IntKind.i64 0, Value.slice none 0 0, Value.string { data := #[] }] 33)).heap.size = w.heap.size + 1 := DT _ _
  rw [← e]; exact vL _ _⟩
 have HI : aC (Lib.IsBuilder 128 5 (w.heap.size + 1) (w.heap.size + 1) (Lib.byteCells (⟨#[]⟩ : ByteArray).data.toList) ((w.alloc (Obj.cells #[Value.string { data := #[] }, Value.int IntKind.i64 0, Value.slice none 0 0, Value.string { data := #[] }] 33)).alloc (Obj.cells #[Value.pointer none, Value.slice none 0 0] 128))) := ⟨by
  have h := Lib.fresh_isBuilder 128 5 (w.alloc (Obj.cells #[Value.string { data := #[] }, Value.int IntKind.i64 0, Value.slice none 0 0, Value.string { data := #[] }] 33))
  have e : (w.alloc (Obj.cells #[Value.string { data := #[] }, Value.int IntKind.i64 0, Value.slice none 0 0, Value.string { data := #[] }] 33)).heap.size = w.heap.size + 1 := DT _ _
  rw [e] at h
  exact h⟩
 go_loopg [16] l3.length (fun kq v16 w' => ∃ (i : Nat) (si : ByteArray), v16 = .int .i64 i ∧ aC (i + kq = l3.length) ∧ i ≤ l3.length ∧ aC (rU K4.f (l3.take i) = some si) ∧ aC (i = 0 → w'.heap[w.heap.size + 1]? = some (Obj.cells #[Value.pointer none, Value.slice none 0 0] 128)) ∧ aC (Lib.IsBuilder 128 5 (w.heap.size + 1) (w.heap.size + 1) (Lib.byteCells si.data.toList) w') ∧ aC (w'.heap[w.heap.size]? = some (Obj.cells #[Value.string { data := #[] }, Value.int IntKind.i64 0, Value.slice none 0 0, Value.string { data := #[] }] 33)) ∧ aC (w.heap.size + 1 ≤ w'.heap.size) ∧ aC (Below w.heap.size w w'))
 case atStart => exact ⟨0, ⟨#[]⟩, rfl, ⟨by omega⟩, Nat.zero_le _, ⟨rfl⟩, HF, HI, eF, ⟨by rw [DT, DT]; omega⟩, HB⟩
 case round =>
  clear eF HB HI HF
  obtain ⟨i, si, rfl, HK, hi, xy, HF, HI, eF, HS, HB⟩ := hrel
  by_cases hlt : i < l3.length
  · have hlt' : decide ((i : Int) < (l3.length : Int)) = true := by simpa using hlt
    obtain ⟨kk, rfl⟩ : ∃ m, gk = m + 1 := ⟨gk - 1, by have := HK.out; omega⟩
    obtain ⟨Bi, x, Bc, _l, Bd, _o⟩ := Dq ZZ.out 0 i hlt
    obtain rfl : Bi = si := Option.some.inj (Bc.symm.trans xy.out)
    have aEI := aC.mk _l
    have UZ := aC.mk Bd
    have Hsz := aC.mk _o
    clear Bc _l Bd _o HF xy
    have Hlen : aC ((Lib.byteCells Bi.data.toList).length + x.size ≤ 140737488355328) := ⟨by
     have h1 := Hsz.out
     have h2 := HS4.out
     rw [ByteArray.size_append] at h1
     rw [Un]
     omega⟩
    have Hw : aC (wrap64 ((i : Int) + 1) = (i : Int) + 1) := ⟨by have := HL.out; exact fC (by omega) (by omega)⟩
    have dL : 0 ≤ (i : Int) := Int.natCast_nonneg i
    have dM : (i : Int) < (l3.length : Int) := by omega
    obtain ⟨lD, iM, gD⟩ := Kd.kN HR1.out i dL dM
    cases iM
    replace gD := (HB.out.cell (World.block_lt_of_cell? w _ gD)).trans gD
    rw [Int.toNat_natCast] at gD
    have aDv : aC (K4.f (rd l3 (i : Int)) = some x) := ⟨aEI.out⟩
    replace dL := eT dL
    replace dM := eT dM
    go_wp2_with (first | (fail))
    refine (K4.calls (rd l3 (i : Int)) x _ aDv.out).mono ?_
    rintro e w8 ⟨rfl, hb⟩
    have bI := aC.mk (jV HB.out hb)
    have bV := aC.mk (_C HI.out hb)
    have gB := aC.mk (oK eF.out hb)
    have kL := aC.mk (Nat.le_trans HS.out hb.size)
    clear HB HI eF HS hb
    have HB := bI; have HI := bV; have eF := gB; have HS := kL
    clear bI bV gB kL
    go_wp2_with (first | (fail))
    refine (Sh.WriteString (w.heap.size + 1) (w.heap.size + 1) _ x _ HI.out Hlen.out HS.out).mono ?_
    rintro e w9 ⟨rfl, M0, hb⟩
    have bI := aC.mk (HB.out.trans (Ee hb (Nat.le_succ _)))
    have bV := aC.mk (show Lib.IsBuilder 128 5 (w.heap.size + 1) (w.heap.size + 1) _ w9 from .inr M0)
    have gB := aC.mk ((hb.block w.heap.size (Nat.lt_succ_self _)).trans eF.out)
    have kL := aC.mk (Nat.le_trans HS.out hb.size)
    clear HB HI eF HS hb M0
    have HB := bI; have HI := bV; have eF := gB; have HS := kL
    clear bI bV gB kL
    go_wp2_with (first | (fail))
    go_roundg kk
    case measure => have := HK.out; omega
    case rel => exact ⟨i + 1, _, by rw [Hw.out]; rfl, ⟨by have := HK.out; omega⟩, by omega, UZ, ⟨fun h => absurd h (Nat.succ_ne_zero _)⟩, ⟨by rw [← Um]; exact HI.out⟩, eF, HS, HB⟩
  · have hlt' : decide ((i : Int) < (l3.length : Int)) = false := by simpa using hlt
    obtain rfl := Yt ZZ.out i (by omega) xy.out
    have hlt2 : w.heap.size < wr.heap.size := by have := HS.out; omega
    by_cases hne : si.data.toList = []
    · by_cases hn1 : l3 = []
      · subst hn1
        obtain rfl : i = 0 := by simpa using hi
        have HG := aC.mk (HF.out rfl)
        have HE := aC.mk (show si = ⟨#[]⟩ from Yu ZZ.out)
        clear HF HI
        go_wp2_with (first | (fail))
        refine (O8.calls A2 c2 l2 l2 _ (Kd.gN fF.out HB.out) oO.out (ip (by have := C_.out; omega))).mono ?_
        rintro e w8 ⟨v2, rfl, hR, hb⟩
        obtain ⟨A4, c4, rfl⟩ := Kd.jF hR
        have bI := aC.mk (jV HB.out hb)
        have bV := aC.mk (oK eF.out hb)
        have kL := aC.mk (oK HG.out hb)
        have HO := aC.mk (Kd.nV hR (iI HB.out))
        clear HB eF HG hb hR
        have HB := bI; have eF := bV; have HG := kL
        clear bI bV kL
        go_wp2_with (first | (fail))
        refine (Ux.calls (w.heap.size + 1) _ _ HG.out).mono ?_
        rintro e w9 ⟨rfl, rfl⟩
        have bI := aC.mk (iO HB.out)
        have bV := aC.mk (kU eF.out)
        have RJ := aC.mk (Kd.jX HO.out)
        generalize w8.drew = w9 at bI bV RJ ⊢
        clear HB eF HO HG
        have HB := bI; have eF := bV
        clear bI bV
        have zu : w9.cell? ⟨w.heap.size, 0, none⟩ = some (.string ⟨#[]⟩) := (aM eF.out 0).trans rfl
        have zw : w9.cell? ⟨w.heap.size, 1, none⟩ = some (.int .i64 0) := (aM eF.out 1).trans rfl
        have zx : w9.cell? ⟨w.heap.size, 2, none⟩ = some (.slice none 0 0) := (aM eF.out 2).trans rfl
        have zy : w9.cell? ⟨w.heap.size, 3, none⟩ = some (.string ⟨#[]⟩) := (aM eF.out 3).trans rfl
        have Ad := eZ eF.out 0
        have Ae := eZ eF.out 1
        have Ag := eZ eF.out 2
        have Ah := eZ eF.out 3
        go_wp2_with (first | (fail))
        refine bodyPost_ret (results_cell_row rfl _ _ w.heap.size 33 #[.string a0, .int .i64 a1, .slice A4 l2.length c4, .string ⟨#[]⟩] (0, 0) _ rfl (by refine lH (cs := #[.string a0, .int .i64 a1, .slice A4 l2.length c4, .string ⟨#[]⟩]) ?_ 3 _ rfl; refine lH (cs := #[.string a0, .int .i64 a1, .slice none 0 0, .string ⟨#[]⟩]) ?_ 2 _ rfl; refine lH (cs := #[.string a0, .int .i64 0, .slice none 0 0, .string ⟨#[]⟩]) ?_ 1 _ rfl; refine lH (cs := #[.string ⟨#[]⟩, .int .i64 0, .slice none 0 0, .string ⟨#[]⟩]) ?_ 0 _ rfl; exact eF.out) Tryz.underlying33 rfl (by kernel_rfl)) rfl ?_
        have pW : ∀ k_ : Nat, wr.heap.size ≤ k_ → k_ ≠ w.heap.size := fun k_ h => by omega
        exact ⟨_, by rw [HE.out], Kd.eO (Kd.dE (Kd.dE (Kd.dE (Kd.dE RJ.out pW _) pW _) pW _) pW _) (fun k_ h => trivial), fD (fD (fD (fD HB.out (Nat.le_refl _)) (Nat.le_refl _)) (Nat.le_refl _)) (Nat.le_refl _)⟩
      · exfalso
        obtain ⟨Bi, x, Bc, _l, Bd, _o⟩ := Dq ZZ.out 0 0 (Nat.pos_of_ne_zero (fun h => hn1 (List.eq_nil_of_length_eq_zero h)))
        have h1 := Tg _ _ _l
        have h2 : si.size = 0 := by rw [show si.size = si.data.toList.length from Array.length_toList.symm, hne]; rfl
        rw [ByteArray.size_append] at _o
        omega
    · obtain ⟨p, g, cap, cur, hBg, hgl, hbl, hbk, hg, hnc, hcm, hcs, ht⟩ := Ck HI.out hne
      have F3 := aC.mk hbk
      have HG := aC.mk hg
      have HT := aC.mk (And.intro hnc (And.intro hcm (And.intro hcs ht)))
      have yg := aC.mk hgl
      have HBL := aC.mk hbl
      have VN := aC.mk hBg
      have yo := aC.mk hne
      clear hbk hg hnc hcm hcs ht hgl hbl hBg hne HI HF
      go_wp2_with (first | (fail))
      refine (O8.calls A2 c2 l2 l2 _ (Kd.gN fF.out HB.out) oO.out (ip (by have := C_.out; omega))).mono ?_
      rintro e w8 ⟨v2, rfl, hR, hb⟩
      obtain ⟨A4, c4, rfl⟩ := Kd.jF hR
      have bI := aC.mk (jV HB.out hb)
      have bV := aC.mk (oK eF.out hb)
      have gB := aC.mk (oK F3.out hb)
      have kL := aC.mk (oK HG.out hb)
      have HO := aC.mk (Kd.nV hR (iI HB.out))
      clear HB eF F3 HG hb hR
      have HB := bI; have eF := bV; have F3 := gB; have HG := kL
      clear bI bV gB kL
      go_wp2_with (first | (fail))
      refine (Fe.calls (w.heap.size + 1) g cap p cur _ _ yo.out F3.out HG.out HT.out.1 HT.out.2.1 HT.out.2.2.1 HT.out.2.2.2).mono ?_
      rintro e w9 ⟨rfl, O1⟩
      have hk := _O w8 g si.data.toList.length
      rw [← O1] at hk
      have bI := aC.mk (show Below w.heap.size w w9 by rw [O1]; exact Lib.below_freeze (iO HB.out) (p := ⟨g, 0, none⟩) (by have := VN.out; show w.heap.size ≤ g; omega) _)
      have bV := aC.mk ((hk.2 w.heap.size (jB eF.out) (by have := VN.out; omega)).trans eF.out)
      have RJ := aC.mk (Kd.jh HO.out hk (fun k hk1 hk2 => by have := yg.out; omega))
      clear HB eF HO hk O1 F3 HG
      have HB := bI; have eF := bV
      clear bI bV
      have zu : w9.cell? ⟨w.heap.size, 0, none⟩ = some (.string ⟨#[]⟩) := (aM eF.out 0).trans rfl
      have zw : w9.cell? ⟨w.heap.size, 1, none⟩ = some (.int .i64 0) := (aM eF.out 1).trans rfl
      have zx : w9.cell? ⟨w.heap.size, 2, none⟩ = some (.slice none 0 0) := (aM eF.out 2).trans rfl
      have zy : w9.cell? ⟨w.heap.size, 3, none⟩ = some (.string ⟨#[]⟩) := (aM eF.out 3).trans rfl
      have Ad := eZ eF.out 0
      have Ae := eZ eF.out 1
      have Ag := eZ eF.out 2
      have Ah := eZ eF.out 3
      go_wp2_with (first | (fail))
      refine bodyPost_ret (results_cell_row rfl _ _ w.heap.size 33 #[.string a0, .int .i64 a1, .slice A4 l2.length c4, .string ⟨si.data⟩] (0, 0) _ rfl (by refine lH (cs := #[.string a0, .int .i64 a1, .slice A4 l2.length c4, .string ⟨#[]⟩]) ?_ 3 _ rfl; refine lH (cs := #[.string a0, .int .i64 a1, .slice none 0 0, .string ⟨#[]⟩]) ?_ 2 _ rfl; refine lH (cs := #[.string a0, .int .i64 0, .slice none 0 0, .string ⟨#[]⟩]) ?_ 1 _ rfl; refine lH (cs := #[.string ⟨#[]⟩, .int .i64 0, .slice none 0 0, .string ⟨#[]⟩]) ?_ 0 _ rfl; exact eF.out) Tryz.underlying33 rfl (by kernel_rfl)) rfl ?_
      have pW : ∀ k_ : Nat, wr.heap.size ≤ k_ → k_ ≠ w.heap.size := fun k_ h => by omega
      exact ⟨_, rfl, Kd.eO (Kd.dE (Kd.dE (Kd.dE (Kd.dE RJ.out pW _) pW _) pW _) pW _) (fun k_ h => trivial), fD (fD (fD (fD HB.out (Nat.le_refl _)) (Nat.le_refl _)) (Nat.le_refl _)) (Nat.le_refl _)⟩
end Go.Proofs.YtgmggompdidcoaaGreatDoor.X
