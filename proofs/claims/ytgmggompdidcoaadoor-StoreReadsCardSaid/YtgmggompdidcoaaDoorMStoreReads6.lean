import Derived.Test.YtgmggompdidcoaaDoorMStoreReads2
import Derived.RangeFuncNested
import Derived.RangeFuncBound
import Derived.RangeFuncCalls
import Derived.RangeFuncLeaves
import Derived.Shelf.Abstract
import Derived.Shelf.RegionOpen
import Derived.OwnWalkIn
import Derived.TacticsInMore
import Derived.LoopNIn
import Derived.LoopIn
import Derived.Lib.Bytealg
import Derived.Lib.Walk
import Derived.Lib.Strings
import Derived.Lib.Slices
import Derived.Laws.Strings3
import Derived.Lib.IndexLaws
namespace Go.Proofs.YtgmggompdidcoaaDoor.X
open Go.RowKit Go.Proofs.YtgmggompdidcoaaDoorW.PrintWords Go.Proofs.YtgmggompdidcoaaDoorW.PrintLast Go.Proofs.YtgmggompdidcoaaDoorW.PrintMore
attribute [local go_sem] max2_int min2_int max_two min_two max_three min_three max_four min_four
set_option linter.unusedVariables false
set_option linter.unusedSimpArgs false
def slashI (s : ByteArray) : Int := Lib.indexByte s.data.toList 47
theorem indexByte_lt : ∀ (l : List UInt8) (c : UInt8), Lib.indexByte l c < l.length
  | [], _ => by simp [Lib.indexByte]
  | b :: l, c => by
    have := indexByte_lt l c
    unfold Lib.indexByte
    rw [List.length_cons]
    split
    · omega
    · split
      · omega
      · omega
theorem slashI_lt (s : ByteArray) : slashI s < s.size := by
  have h := indexByte_lt s.data.toList 47
  rw [Array.length_toList] at h
  exact h
def pcN : Nat → ByteArray → List ByteArray
  | 0, s => [s]
  | n + 1, s => if slashI s < 0 then [s] else s.extract 0 (slashI s).toNat :: pcN n (s.extract ((slashI s).toNat + 1) s.size)
def pieces (s : ByteArray) : List ByteArray := pcN s.size s
theorem pcN_more : ∀ (n m : Nat) (s : ByteArray), s.size ≤ n → s.size ≤ m → pcN n s = pcN m s
  | 0, 0, _, _, _ => rfl
  | 0, m + 1, s, hn, _ => by
    have h0 : s.size = 0 := by omega
    have := slashI_lt s
    rw [pcN, pcN, if_pos (by omega)]
  | n + 1, 0, s, _, hm => by
    have h0 : s.size = 0 := by omega
    have := slashI_lt s
    rw [pcN, pcN, if_pos (by omega)]
  | n + 1, m + 1, s, hn, hm => by
    rw [pcN, pcN]
    by_cases h : slashI s < 0
    · rw [if_pos h, if_pos h]
    · rw [if_neg h, if_neg h, pcN_more n m _ (by rw [ByteArray.size_extract]; omega) (by rw [ByteArray.size_extract]; omega)]
theorem pieces_last {s : ByteArray} (h : slashI s < 0) : pieces s = [s] := by
  unfold pieces
  cases hn : s.size with
  | zero => rfl
  | succ n => rw [pcN, if_pos h]
theorem pieces_cut {s : ByteArray} (h : 0 ≤ slashI s) : pieces s = s.extract 0 (slashI s).toNat :: pieces (s.extract ((slashI s).toNat + 1) s.size) := by
  have hl := slashI_lt s
  unfold pieces
  obtain ⟨n, hn⟩ : ∃ n, s.size = n + 1 := ⟨s.size - 1, by omega⟩
  rw [hn, pcN, if_neg (by omega), ← hn]
  congr 1
  exact pcN_more _ _ _ (by rw [ByteArray.size_extract]; omega) (by rw [ByteArray.size_extract]; omega)
set_option maxHeartbeats 1000000 in
theorem idxByte_any (s : ByteArray) (c : Int) (w : World) :
    Calls Tryd.prog 47 #[.string s, .int .u8 c] w fun e w' => e = .returned (.int .i64 (Lib.indexByte s.data.toList c.toNat.toUInt8)) ∧ w = w' := by
  go_enter Tryd.func47, Tryd.ntmps47
  go_wp2
  rw [run_callFunc_extern Tryd.func52 (by kernel_rfl) (by kernel_rfl) (by kernel_rfl) (e := Extern.BytealgIndexByte.indexByte) (by kernel_rfl), Lib.run_indexByteString]
  simp only [Result.andThen]
  rw [Oper.upon_value]
  go_wp2
  go_ret
  exact ⟨rfl, rfl⟩
set_option maxHeartbeats 2000000 in
set_option maxRecDepth 100000 in
theorem idxLite (s : ByteArray) (w : World) :
    Calls Tryd.prog 40 #[.string s, .string ⟨#[47]⟩] w fun e w' => e = .returned (.int .i64 (slashI s)) ∧ w = w' := by
  go_enter Tryd.func40, Tryd.ntmps40
  go_wp2_with (go_at_call 47; refine (idxByte_any _ _ _).mono ?_; rintro e w' ⟨rfl, rfl⟩)
  · have h : ([47] == s.toList) = true := by assumption
    go_ret
    refine ⟨?_, rfl⟩
    have e : s.data.toList = [47] := by rw [← Lib.toList_data]; exact (beq_iff_eq.1 h).symm
    unfold slashI
    rw [e]
    simp [Lib.indexByte]
  · go_ret
    exact ⟨rfl, rfl⟩
set_option maxHeartbeats 1000000 in
theorem idxStr (s : ByteArray) (w : World) :
    Calls Tryd.prog 27 #[.string s, .string ⟨#[47]⟩] w fun e w' => e = .returned (.int .i64 (slashI s)) ∧ w = w' := by
  go_enter Tryd.func27, Tryd.ntmps27
  go_wp2_with (go_at_call 40; refine (idxLite _ _).mono ?_; rintro e w' ⟨rfl, rfl⟩)
  go_ret
  exact ⟨rfl, rfl⟩
def SplitAt (W : World) (Bp Bs Bq : Nat) (s : ByteArray) : Prop := W.heap[Bp]? = some (.cells #[.string ⟨#[47]⟩] 9 (0, 0)) ∧ W.heap[Bs]? = some (.cells #[.string s] 9 (0, 0)) ∧ W.heap[Bq]? = some (.cells #[.int .i64 0] 3 (0, 0))
set_option maxHeartbeats 1000000 in
theorem splitSeq_any (s : ByteArray) (w : World) :
    Calls Tryd.prog 21 #[.string s, .string ⟨#[47]⟩, .int .i64 0] w fun e w' => e = .returned (.func (.func 25) #[] #[.pointer (some ⟨w.heap.size + 1, 0, none⟩), .pointer (some ⟨w.heap.size, 0, none⟩), .pointer (some ⟨w.heap.size + 2, 0, none⟩)]) ∧
      SplitAt w' (w.heap.size + 1) w.heap.size (w.heap.size + 2) s ∧ w'.heap.size = w.heap.size + 3 ∧ Below w.heap.size w w' := by
  go_enter Tryd.func21, Tryd.ntmps21
  go_wp2
  go_ret
  refine ⟨rfl, ⟨?_, ?_, ?_⟩, by simp, ((Below.refl _ w).alloc (Nat.le_refl _) _).alloc (by simp) _ |>.alloc (by simp; omega) _⟩
  · refine (Below.heap_alloc _ _ _ (by simp)).trans ?_
    have := World.alloc_heap_new (w.alloc (.cells #[.string s] 9)) (.cells #[.string ⟨#[47]⟩] 9)
    rwa [World.size_alloc] at this
  · exact ((Below.heap_alloc _ _ _ (by simp; omega)).trans (Below.heap_alloc _ _ _ (by simp))).trans (World.alloc_heap_new w _)
  · have := World.alloc_heap_new ((w.alloc (.cells #[.string s] 9)).alloc (.cells #[.string ⟨#[47]⟩] 9)) (.cells #[.int .i64 0] 3)
    rwa [World.size_alloc, World.size_alloc] at this
set_option maxHeartbeats 1000000 in
theorem SplitSeq_any (s : ByteArray) (w : World) :
    Calls Tryd.prog 15 #[.string s, .string ⟨#[47]⟩] w fun e w' => e = .returned (.func (.func 25) #[] #[.pointer (some ⟨w.heap.size + 1, 0, none⟩), .pointer (some ⟨w.heap.size, 0, none⟩), .pointer (some ⟨w.heap.size + 2, 0, none⟩)]) ∧
      SplitAt w' (w.heap.size + 1) w.heap.size (w.heap.size + 2) s ∧ w'.heap.size = w.heap.size + 3 ∧ Below w.heap.size w w' := by
  go_enter Tryd.func15, Tryd.ntmps15
  go_wp2_with (go_at_call 21; refine (splitSeq_any _ _).mono ?_; rintro e w' ⟨rfl, hs, hz, hb⟩)
  go_ret
  exact ⟨rfl, hs, hz, hb⟩
theorem splitAt_put {W : World} {Bp Bs Bq : Nat} {s t : ByteArray} (h : SplitAt W Bp Bs Bq s) (h1 : Bp ≠ Bs) (h2 : Bq ≠ Bs) : SplitAt (W.setCell ⟨Bs, 0, none⟩ (.string t)) Bp Bs Bq t :=
  ⟨blk_far h.1 h1 _, blk_put h.2.1 0 _ rfl, blk_far h.2.2 h2 _⟩
theorem splitAt_kept {W W' : World} {Bp Bs Bq : Nat} {s : ByteArray} {n : Nat} (h : SplitAt W Bp Bs Bq s) (hb : Below n W W') (h1 : Bp < n) (h2 : Bs < n) (h3 : Bq < n) : SplitAt W' Bp Bs Bq s :=
  ⟨(hb.block _ h1).trans h.1, (hb.block _ h2).trans h.2.1, (hb.block _ h3).trans h.2.2⟩
def leftIn (W : World) (Bs : Nat) : Nat := match W.cell? ⟨Bs, 0, none⟩ with
  | some (Value.string s) => s.size
  | _ => 0
theorem leftIn_eq {W : World} {Bp Bs Bq : Nat} {s : ByteArray} (h : SplitAt W Bp Bs Bq s) : leftIn W Bs = s.size := by
  unfold leftIn; rw [blk_cell h.2.1 0]; rfl
theorem idxStrN (s : ByteArray) (i : Int) (h : slashI s = i) (w : World) :
    Calls Tryd.prog 27 #[.string s, .string ⟨#[47]⟩] w fun e w' => e = .returned (.int .i64 i) ∧ w = w' := by
  rw [← h]; exact idxStr s w
attribute [local go_sem] Oper.semAt_some
set_option maxRecDepth 100000 in
set_option maxHeartbeats 2000000 in
theorem split_run (l n Bp Bs Bq : Nat) (hn : 1 ≤ n) (pOK : ByteArray → Bool) (J Jx : World → Prop) (hps : Bp ≠ Bs) (hqs : Bq ≠ Bs)
    (hJ : ∀ W v, J W → J (W.setCell ⟨Bs, 0, none⟩ v))
    (hY : ∀ x : ByteArray, x.size ≤ 140737488351232 → ∀ W, J W → YieldAt Fence.wide (n - 1) Tryd.prog l #[.string x] W fun e W' => (pOK x = true ∧ e = .returned (.bool true) ∧ J W' ∧ ∀ s, SplitAt W Bp Bs Bq s → SplitAt W' Bp Bs Bq s) ∨ (pOK x = false ∧ e = .returned (.bool false) ∧ Jx W'))
    (s : ByteArray) (hsz : s.size ≤ 140737488351232) (W : World) (h0 : J W) (hs : SplitAt W Bp Bs Bq s) :
    CallsIn Fence.wide n Tryd.prog 25 #[.func (.yield l) #[] #[], .pointer (some ⟨Bp, 0, none⟩), .pointer (some ⟨Bs, 0, none⟩), .pointer (some ⟨Bq, 0, none⟩)] W fun e W' =>
      (∃ v, e = .returned v) ∧ (((pieces s).all pOK = true ∧ J W') ∨ ((pieces s).all pOK = false ∧ Jx W')) := by
  refine callsIn_of_wp Tryd.func25 rfl trivial ?_ rfl
  simp only [Tryd.ntmps25, List.size_toArray, List.length_cons, List.length_nil, Nat.reduceAdd, Nat.reduceSub, Array.replicate_succ, Array.replicate_zero, List.push_toArray, List.append_toArray, List.nil_append, List.cons_append]
  have hc1 : W.cell? ⟨Bp, 0, none⟩ = some (.string ⟨#[47]⟩) := blk_cell hs.1 0
  gi_wp2
  clear hc1
  gi_loopw [7] (fun _ wr => ∃ cur : ByteArray, J wr ∧ SplitAt wr Bp Bs Bq cur ∧ cur.size ≤ 140737488351232 ∧ Aside0 ((pieces s).all pOK = (pieces cur).all pOK)) (fun _ wr => leftIn wr Bs)
  case atStart => exact ⟨s, h0, hs, hsz, ⟨rfl⟩⟩
  case round =>
    obtain ⟨cur, hJr, hS, hsz', HA⟩ := hrel
    have HL := Aside0.mk (leftIn_eq hS)
    have hc1 : wr.cell? ⟨Bp, 0, none⟩ = some (.string ⟨#[47]⟩) := blk_cell hS.1 0
    have hc2 : wr.cell? ⟨Bs, 0, none⟩ = some (.string cur) := blk_cell hS.2.1 0
    have hc3 : wr.cell? ⟨Bq, 0, none⟩ = some (.int .i64 0) := blk_cell hS.2.2 0
    have HS := Aside0.mk hS
    have HJ := Aside0.mk hJr
    have HYy := Aside0.mk hY
    have HJj := Aside0.mk hJ
    clear hS hJr hY hJ
    by_cases hneg : slashI cur < 0
    · obtain ⟨i, hi⟩ : ∃ i, slashI cur = i := ⟨_, rfl⟩
      have hi0 : decide (i < 0) = true := by rw [← hi]; exact decide_eq_true hneg
      have HP := Aside0.mk (pieces_last hneg)
      have HI := Aside0.mk hi
      obtain ⟨fn, tmps, assign, body, hy, hR⟩ := HYy.out cur hsz' wr HJ.out
      clear hneg hi
      gi_wp2_with (refine ⟨trivial, ?_⟩; gi_at_call 27; refine (callsIn_wide.2 (idxStrN cur i HI.out _)).mono ?_; rintro e w' ⟨rfl, rfl⟩)
      refine hR.mono ?_
      have hp : (pieces s).all pOK = pOK cur := by rw [HA.out, HP.out]; simp
      rintro e W3 (⟨hx, rfl, hJ3, hk3⟩ | ⟨hx, rfl, hJx3⟩)
      · gi_wp2
        refine bodyPost_end (results_none rfl _ _ _) rfl ?_
        exact ⟨⟨_, rfl⟩, .inl ⟨hp.trans hx, hJ3⟩⟩
      · gi_wp2
        refine bodyPost_end (results_none rfl _ _ _) rfl ?_
        exact ⟨⟨_, rfl⟩, .inr ⟨hp.trans hx, hJx3⟩⟩
    · have hlt := slashI_lt cur
      obtain ⟨q, hq⟩ : ∃ q : Nat, slashI cur = q := ⟨(slashI cur).toNat, by omega⟩
      have hqs' : q < cur.size := by omega
      have hq1 : q + 1 ≤ cur.size := hqs'
      have hi0 : decide ((q : Int) < 0) = false := decide_eq_false (by omega)
      have HP := Aside0.mk (pieces_cut (s := cur) (by omega))
      have HI := Aside0.mk hq
      obtain ⟨fn, tmps, assign, body, hy, hR⟩ := HYy.out (cur.extract 0 q) (by rw [ByteArray.size_extract]; omega) wr HJ.out
      clear hneg hq hlt
      gi_wp2_with (refine ⟨trivial, ?_⟩; gi_at_call 27; refine (callsIn_wide.2 (idxStrN cur q HI.out _)).mono ?_; rintro e w' ⟨rfl, rfl⟩)
      refine hR.mono ?_
      have hp : (pieces s).all pOK = (pOK (cur.extract 0 q) && (pieces (cur.extract (q + 1) cur.size)).all pOK) := by
        rw [HA.out, HP.out, HI.out]; rfl
      rintro e W3 (⟨hx, rfl, hJ3, hk3⟩ | ⟨hx, rfl, hJx3⟩)
      · have hS3 := hk3 cur HS.out
        have hc1 : W3.cell? ⟨Bp, 0, none⟩ = some (.string ⟨#[47]⟩) := blk_cell hS3.1 0
        have hc2 : W3.cell? ⟨Bs, 0, none⟩ = some (.string cur) := blk_cell hS3.2.1 0
        have hf2 : W3.frozen? ⟨Bs, 0, none⟩ = false := blk_frozen hS3.2.1 0
        have HS3 := Aside0.mk hS3
        have HJ3 := Aside0.mk hJ3
        have HP2 := Aside0.mk hp
        have HX := Aside0.mk hx
        have HN := Aside0.mk (splitAt_put (t := cur.extract (q + 1) cur.size) hS3 hps hqs)
        clear hS3 hJ3 hp hx hk3
        gi_wp2
        go_roundw
        case rel => exact ⟨cur.extract (q + 1) cur.size, HJj.out _ _ HJ3.out, HN.out, by rw [ByteArray.size_extract]; omega, ⟨by rw [HP2.out, HX.out]; rfl⟩⟩
        case measure => rw [leftIn_eq HN.out, HL.out, ByteArray.size_extract]; omega
      · gi_wp2
        refine bodyPost_ret (results_none rfl _ _ _) rfl ?_
        exact ⟨⟨_, rfl⟩, .inr ⟨by rw [hp, hx]; rfl, hJx3⟩⟩
end Go.Proofs.YtgmggompdidcoaaDoor.X
namespace Go.Proofs.YtgmggompdidcoaaDoor.X
open Go.RowKit Go.Proofs.YtgmggompdidcoaaDoorW.PrintWords Go.Proofs.YtgmggompdidcoaaDoorW.PrintLast Go.Proofs.YtgmggompdidcoaaDoorW.PrintMore
attribute [local go_sem] max2_int min2_int max_two min_two max_three min_three max_four min_four
set_option linter.unusedVariables false
set_option linter.unusedSimpArgs false
section
variable {P : Program} {α : Type}
def goesOn (ok : Bool) (Keep : World → World → Prop) (I Ix : World → Prop) (W : World) : Exit → Act → World → Prop
  | .normal, _, W' => ok = true ∧ KeepsOthers W W' ∧ Keep W W' ∧ I W'
  | .ret, _, W' => ok = false ∧ KeepsOthers W W' ∧ Ix W'
  | _, _, _ => False
theorem range_cell {g : Operand} {ps : Array Tmp} {assign body : Code} {Q : Exit → Act → World → Prop} {a : Act} {w : World} {n : Nat} (h1 : 1 ≤ n) {gf : Nat} {lb : Array Value}
    (hg : a.eval g = .func (.func gf) #[] lb) (eg : ∀ args w, (callFunc gf args).run P w = .ok (.enter gf args) w) (enc : α → Value) (hps : ps.size = 1) (pOK : α → Bool) (all : Bool) (cell : Addr) (hcell : cell.block < w.heap.size) (Keep : World → World → Prop)
    (hiter : ∀ (l : Nat) (J Jx : World → Prop) (W : World), (∀ W v, J W → J (W.setCell cell v)) →
      (∀ x W, J W → YieldAt Fence.wide (n - 1 - 1) P l #[enc x] W fun e W' => (pOK x = true ∧ e = .returned (.bool true) ∧ J W' ∧ Keep W W') ∨ (pOK x = false ∧ e = .returned (.bool false) ∧ Jx W')) →
      Below w.heap.size w W → J W → CallsIn Fence.wide (n - 1) P gf (#[.func (.yield l) #[] #[]] ++ lb) W fun e W' => (∃ v, e = .returned v) ∧ ((all = true ∧ J W') ∨ (all = false ∧ Jx W')))
    (I Ix : World → Prop) (hIc : ∀ W v, I W → I (W.setCell cell v)) (hIa : ∀ W o, w.heap.size ≤ W.heap.size → I W → I (W.alloc o))
    (hIp : ∀ W l o o', w.heap.size ≤ l → W.heap[l]? = some o → o.isCells = false → I W → I (W.putObj l o'))
    (hXp : ∀ W l o o', w.heap.size ≤ l → W.heap[l]? = some o → o.isCells = false → Ix W → Ix (W.putObj l o'))
    (hKt : ∀ {A B C : World}, Keep A B → Keep B C → Keep A C) (hKp : ∀ (W : World) (l : Nat) (o o' : Obj), w.heap.size ≤ l → W.heap[l]? = some o → Keep W (W.putObj l o')) (h0 : I w)
    (a₁ : α → Act) (hassign : ∀ (l : Nat) (x : α) (W : World) (K : Act → World → Prop), K (a₁ x) W →
      assign.wpIn (Fence.wide.inRound l) (n - 1 - 1) P (Exit.then K (fun _ _ _ => False)) { tmps := (ps.zip #[enc x]).foldl (fun t (p, v) => t.setIfInBounds p v) a.tmps, defers := [] } W)
    (hbody : ∀ (l : Nat) (x : α) (W : World), I W → w.heap.size ≤ W.heap.size → body.wpIn (Fence.wide.inRound l) (n - 1 - 1) P (goesOn (pOK x) Keep I Ix W) (a₁ x) W)
    (hdone : ∀ (D : Nat) (W : World), all = true → w.heap.size ≤ D → I W → W.heap[D]? = some (.deferred (some [])) → Q .normal { a with defers := { target := .collected D, args := #[] } :: a.defers } W)
    (hstop : ∀ (D : Nat) (W : World), all = false → w.heap.size ≤ D → Ix W → W.heap[D]? = some (.deferred (some [])) → Code.ret.wpIn Fence.wide n P Q { a with defers := { target := .collected D, args := #[] } :: a.defers } W) :
    (Code.rangeFunc g ps assign body).wpIn Fence.wide n P Q a w := by
  refine wpIn_rangeFunc ?_
  intro fn hfn
  obtain ⟨rec, hrec⟩ : ∃ rec : LoopState → Option Code → Loop, rec = fun st pe => { state := st, pending := pe, fn, tmps := a.tmps, params := ps, assign, body, defers := w.heap.size } := ⟨_, rfl⟩
  obtain ⟨W1, hW1⟩ : ∃ W1, (w.alloc (.deferred (some []))).alloc (.loop (rec .ready none)) = W1 := ⟨_, rfl⟩
  have hL1 : W1.heap[w.heap.size + 1]? = some (.loop (rec .ready none)) := by
    rw [← hW1]; have := World.alloc_heap_new (w.alloc (.deferred (some []))) (.loop (rec .ready none)); rwa [World.size_alloc] at this
  have hD1 : W1.heap[w.heap.size]? = some (.deferred (some [])) := by
    rw [← hW1]; exact (Below.heap_alloc _ _ _ (by simp)).trans (World.alloc_heap_new w _)
  have hI1 : I W1 := by rw [← hW1]; exact hIa _ _ (by simp) (hIa _ _ (Nat.le_refl _) h0)
  have hb1 : Below w.heap.size w W1 := by rw [← hW1]; exact ((Below.refl _ w).alloc (Nat.le_refl _) _).alloc (by simp) _
  refine ⟨w.heap.size + 1, [{ target := .collected w.heap.size, args := #[] }], W1, { target := .fn (.func gf) lb, args := #[.func (.yield (w.heap.size + 1)) #[] #[]] }, W1, gf,
    #[.func (.yield (w.heap.size + 1)) #[] #[]] ++ lb, W1, ?_, ?_, fun _ _ => trivial, ?_, fun _ => h1, ?_⟩
  · rw [← hW1, hrec]; exact run_enterLoop_outer _ _ _ _ _
  · simp only [resolve, hg]
    simp [go_sem]
  · simp [invoke, go_sem, eg]
  have far : ∀ {W : World} {k : Nat} {o : Obj} (v : Value), k ≠ cell.block → W.heap[k]? = some o → (W.setCell cell v).heap[k]? = some o := fun v hk h => (Below.heap_setCell _ cell v _ hk).trans h
  refine (hiter (w.heap.size + 1)
    (fun W => (I W ∧ w.heap.size ≤ W.heap.size) ∧ W.heap[w.heap.size + 1]? = some (.loop (rec .ready none)) ∧ W.heap[w.heap.size]? = some (.deferred (some [])))
    (fun W => Ix W ∧ W.heap[w.heap.size + 1]? = some (.loop (rec .done (some .ret))) ∧ W.heap[w.heap.size]? = some (.deferred (some [])))
    W1 (fun W v hj => ⟨⟨hIc W v hj.1.1, by simpa [World.setCell] using hj.1.2⟩, far v (by omega) hj.2.1, far v (by omega) hj.2.2⟩) ?_ hb1 ⟨⟨hI1, hb1.size⟩, hL1, hD1⟩).mono ?_
  · rintro x W ⟨⟨hi, hz⟩, hl, hk⟩
    have hlt : w.heap.size + 1 < W.heap.size := (Array.getElem?_eq_some_iff.1 hl).1
    have hy := run_yield (P := P) (args := #[enc x]) hl (by rw [hrec]; exact hps.symm)
    rw [hrec] at hy
    refine ⟨fn, _, assign, body, hy, roundIn_of_wpIn hfn (hassign _ x W _ ⟨_, run_beginRound hl (by rw [hrec]), ?_⟩)⟩
    have hl2 : (W.putObj (w.heap.size + 1) (.loop { rec .ready none with state := .busy })).heap[w.heap.size + 1]? = some (.loop { rec .ready none with state := .busy }) := World.putObj_heap_same hlt
    have hk2 : (W.putObj (w.heap.size + 1) (.loop { rec .ready none with state := .busy })).heap[w.heap.size]? = some (.deferred (some [])) := (World.putObj_heap_other (by omega)).trans hk
    have fin : ∀ (jump : Option Code) (W3 : World), KeepsOthers (W.putObj (w.heap.size + 1) (.loop { rec .ready none with state := .busy })) W3 →
        (Instr.endRound (w.heap.size + 1) jump).run P W3 = .ok (.bool jump.isNone) (W3.putObj (w.heap.size + 1) (.loop (rec (if jump.isNone then .ready else .done) jump))) ∧
        W3.heap[w.heap.size + 1]? = some (.loop { rec .ready none with state := .busy }) ∧
        (W3.putObj (w.heap.size + 1) (.loop (rec (if jump.isNone then .ready else .done) jump))).heap[w.heap.size + 1]? = some (.loop (rec (if jump.isNone then .ready else .done) jump)) ∧
        (W3.putObj (w.heap.size + 1) (.loop (rec (if jump.isNone then .ready else .done) jump))).heap[w.heap.size]? = some (.deferred (some [])) ∧ w.heap.size ≤ W3.heap.size := fun jump W3 hk3 => by
      have hl3 := hk3.same _ _ hl2 rfl
      have := run_endRound (P := P) jump hl3
      rw [hrec] at this ⊢
      exact ⟨this, by rw [hrec] at hl3; exact hl3, World.putObj_heap_same (Array.getElem?_eq_some_iff.1 hl3).1, (World.putObj_heap_other (by omega)).trans (hk3.same _ _ hk2 rfl), by have := (Array.getElem?_eq_some_iff.1 hl3).1; omega⟩
    refine wpIn_mono (hbody _ x _ (hIp _ _ _ _ (by omega) hl rfl hi) (by simpa using hz)) ?_
    rintro e a3 W3 hp
    cases e with
    | normal =>
      obtain ⟨hok, hk3, hkp3, hi3⟩ := hp
      obtain ⟨hr, hl3, hl4, hk4, hz3⟩ := fin none W3 hk3
      exact ⟨_, _, hr, .inl ⟨hok, rfl, ⟨⟨hIp _ _ _ _ (by omega) hl3 rfl hi3, by simpa using hz3⟩, hl4, hk4⟩, hKt (hKt (hKp _ _ _ _ (by omega) hl) hkp3) (hKp _ _ _ _ (by omega) hl3)⟩⟩
    | ret =>
      obtain ⟨hok, hk3, hi3⟩ := hp
      obtain ⟨hr, hl3, hl4, hk4, hz3⟩ := fin (some .ret) W3 hk3
      exact ⟨_, _, hr, .inr ⟨hok, rfl, hXp _ _ _ _ (by omega) hl3 rfl hi3, hl4, hk4⟩⟩
    | exit id => exact hp.elim
    | goto t => exact hp.elim
    | panic ch => exact hp.elim
    | outgrown => exact hp.elim
  · rintro e W2 ⟨⟨v, rfl⟩, (⟨hall, ⟨hi, _⟩, hl, hk⟩ | ⟨hall, hi, hl, hk⟩)⟩
    · exact ⟨none, _, by have := run_endLoop (P := P) hl (by rw [hrec]; simp); rw [hrec] at this; exact this, hdone _ _ hall (Nat.le_refl _) (hIp _ _ _ _ (by omega) hl rfl hi) ((World.putObj_heap_other (by omega)).trans hk)⟩
    · exact ⟨some .ret, _, by have := run_endLoop (P := P) hl (by rw [hrec]; simp); rw [hrec] at this; exact this, hstop _ _ hall (Nat.le_refl _) (hXp _ _ _ _ (by omega) hl rfl hi) ((World.putObj_heap_other (by omega)).trans hk)⟩
end
end Go.Proofs.YtgmggompdidcoaaDoor.X
