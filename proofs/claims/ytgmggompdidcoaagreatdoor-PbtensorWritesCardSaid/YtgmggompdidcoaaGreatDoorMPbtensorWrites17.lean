import Derived.Test.YtgmggompdidcoaaGreatDoorMPbtensorWrites2
import Derived.RangeFuncNested
import Derived.RangeFuncBound
import Derived.RangeFuncCalls
import Derived.RangeFuncLeaves
import Derived.Test.YtgmggompdidcoaaGreatDoorMPbtensorWrites16
import Derived.Test.YtgmggompdidcoaaGreatDoorMPbtensorWrites3
import Derived.Test.YtgmggompdidcoaaGreatDoorMPbtensorWrites15
import Derived.Test.YtgmggompdidcoaaGreatDoorMPbtensorWrites9
import Derived.Test.YtgmggompdidcoaaGreatDoorMPbtensorWrites13
import Derived.Test.YtgmggompdidcoaaGreatDoorMPbtensorWrites5
import Derived.Test.YtgmggompdidcoaaGreatDoorMPbtensorWrites4
import Derived.Test.YtgmggompdidcoaaGreatDoorMPbtensorWrites8
import Derived.Test.YtgmggompdidcoaaGreatDoorMPbtensorWrites14
import Derived.Test.YtgmggompdidcoaaGreatDoorMPbtensorWrites11
import Derived.Test.YtgmggompdidcoaaGreatDoorMPbtensorWrites6
namespace Go.Proofs.YtgmggompdidcoaaGreatDoor.X
open Go.RowKit Go.Proofs.YtgmggompdidcoaaGreatDoorW.PrintWords Go.Proofs.YtgmggompdidcoaaGreatDoorW.PrintLast Go.Proofs.YtgmggompdidcoaaGreatDoorW.PrintMore
attribute [local go_sem] max2_int min2_int max_two min_two max_three min_three max_four min_four
set_option linter.unusedVariables false
set_option linter.unusedSimpArgs false
section
variable {P : Program} {α : Type}
def goesOn (ok : Bool) (Keep : World → World → Prop) (I Ix : World → Prop) (W : World) : Exit → Act → World → Prop
  | .normal, _, W' => ok = true ∧ KeepsOthers W W' ∧ Keep W W' ∧ I W'
  | .ret, _, W' => ok = false ∧ KeepsOthers W W' ∧ Ix W'
  | _, _, _ => False
theorem range_cell {g : Operand} {ps : Array Tmp} {assign body : Code} {Q : Exit → Act → World → Prop} {a : Act} {w : World} {n : Nat} (h1 : 1 ≤ n) {gf : Nat} {lb : Array Value}
    (hg : a.eval g = .func (.func gf) #[] lb) (eg : ∀ args w, (callFunc gf args).run P w = .ok (.enter gf args) w) (enc : α → Value) (hps : ps.size = 1) (pOK : α → Bool) (all : Bool) (cell : Addr) (hcell : cell.block < w.heap.size) (Keep : World → World → Prop)
    (hiter : ∀ (l : Nat) (J Jx : World → Prop) (W : World), (∀ W v, J W → J (W.setCell cell v)) →
      (∀ x W, J W → YieldAt Fence.wide (n - 1 - 1) P l #[enc x] W fun e W' => (pOK x = true ∧ e = .returned (.bool true) ∧ J W' ∧ Keep W W') ∨ (pOK x = false ∧ e = .returned (.bool false) ∧ Jx W')) →
      Below w.heap.size w W → J W → CallsIn Fence.wide (n - 1) P gf (#[.func (.yield l) #[] #[]] ++ lb) W fun e W' => (∃ v, e = .returned v) ∧ ((all = true ∧ J W') ∨ (all = false ∧ Jx W')))
    (I Ix : World → Prop) (hIc : ∀ W v, I W → I (W.setCell cell v)) (hIa : ∀ W o, w.heap.size ≤ W.heap.size → I W → I (W.alloc o))
    (hIp : ∀ W l o o', w.heap.size ≤ l → W.heap[l]? = some o → o.isCells = false → I W → I (W.putObj l o'))
    (hXp : ∀ W l o o', w.heap.size ≤ l → W.heap[l]? = some o → o.isCells = false → Ix W → Ix (W.putObj l o'))
    (hKt : ∀ {A B C : World}, Keep A B → Keep B C → Keep A C) (hKp : ∀ (W : World) (l : Nat) (o o' : Obj), w.heap.size ≤ l → W.heap[l]? = some o → Keep W (W.putObj l o')) (h0 : I w)
    (a₁ : α → Act) (hassign : ∀ (l : Nat) (x : α) (W : World) (K : Act → World → Prop), K (a₁ x) W →
      assign.wpIn (Fence.wide.inRound l) (n - 1 - 1) P (Exit.then K (fun _ _ _ => False)) { tmps := (ps.zip #[enc x]).foldl (fun t (p, v) => t.setIfInBounds p v) a.tmps, defers := [] } W)
    (hbody : ∀ (l : Nat) (x : α) (W : World), I W → w.heap.size ≤ W.heap.size → body.wpIn (Fence.wide.inRound l) (n - 1 - 1) P (goesOn (pOK x) Keep I Ix W) (a₁ x) W)
    (hdone : ∀ (D : Nat) (W : World), all = true → w.heap.size ≤ D → I W → W.heap[D]? = some (.deferred (some [])) → Q .normal { a with defers := { target := .collected D, args := #[] } :: a.defers } W)
    (hstop : ∀ (D : Nat) (W : World), all = false → w.heap.size ≤ D → Ix W → W.heap[D]? = some (.deferred (some [])) → Code.ret.wpIn Fence.wide n P Q { a with defers := { target := .collected D, args := #[] } :: a.defers } W) :
    (Code.rangeFunc g ps assign body).wpIn Fence.wide n P Q a w := by
  refine wpIn_rangeFunc ?_
  intro fn hfn
  obtain ⟨rec, hrec⟩ : ∃ rec : LoopState → Option Code → Loop, rec = fun st pe => { state := st, pending := pe, fn, tmps := a.tmps, params := ps, assign, body, defers := w.heap.size } := ⟨_, rfl⟩
  obtain ⟨W1, hW1⟩ : ∃ W1, (w.alloc (.deferred (some []))).alloc (.loop (rec .ready none)) = W1 := ⟨_, rfl⟩
  have hL1 : W1.heap[w.heap.size + 1]? = some (.loop (rec .ready none)) := by
    rw [← hW1]; have := World.alloc_heap_new (w.alloc (.deferred (some []))) (.loop (rec .ready none)); rwa [World.size_alloc] at this
  have hD1 : W1.heap[w.heap.size]? = some (.deferred (some [])) := by
    rw [← hW1]; exact (Below.heap_alloc _ _ _ (by simp)).trans (World.alloc_heap_new w _)
  have hI1 : I W1 := by rw [← hW1]; exact hIa _ _ (by simp) (hIa _ _ (Nat.le_refl _) h0)
  have hb1 : Below w.heap.size w W1 := by rw [← hW1]; exact ((Below.refl _ w).alloc (Nat.le_refl _) _).alloc (by simp) _
  refine ⟨w.heap.size + 1, [{ target := .collected w.heap.size, args := #[] }], W1, { target := .fn (.func gf) lb, args := #[.func (.yield (w.heap.size + 1)) #[] #[]] }, W1, gf,
    #[.func (.yield (w.heap.size + 1)) #[] #[]] ++ lb, W1, ?_, ?_, fun _ _ => trivial, ?_, fun _ => h1, ?_⟩
  · rw [← hW1, hrec]; exact run_enterLoop_outer _ _ _ _ _
  · simp only [resolve, hg]
    simp [go_sem]
  · simp [invoke, go_sem, eg]
  have far : ∀ {W : World} {k : Nat} {o : Obj} (v : Value), k ≠ cell.block → W.heap[k]? = some o → (W.setCell cell v).heap[k]? = some o := fun v hk h => (Below.heap_setCell _ cell v _ hk).trans h
  refine (hiter (w.heap.size + 1)
    (fun W => (I W ∧ w.heap.size ≤ W.heap.size) ∧ W.heap[w.heap.size + 1]? = some (.loop (rec .ready none)) ∧ W.heap[w.heap.size]? = some (.deferred (some [])))
    (fun W => Ix W ∧ W.heap[w.heap.size + 1]? = some (.loop (rec .done (some .ret))) ∧ W.heap[w.heap.size]? = some (.deferred (some [])))
    W1 (fun W v hj => ⟨⟨hIc W v hj.1.1, by simpa [World.setCell] using hj.1.2⟩, far v (by omega) hj.2.1, far v (by omega) hj.2.2⟩) ?_ hb1 ⟨⟨hI1, hb1.size⟩, hL1, hD1⟩).mono ?_
  · rintro x W ⟨⟨hi, hz⟩, hl, hk⟩
    have hlt : w.heap.size + 1 < W.heap.size := (Array.getElem?_eq_some_iff.1 hl).1
    have hy := run_yield (P := P) (args := #[enc x]) hl (by rw [hrec]; exact hps.symm)
    rw [hrec] at hy
    refine ⟨fn, _, assign, body, hy, roundIn_of_wpIn hfn (hassign _ x W _ ⟨_, run_beginRound hl (by rw [hrec]), ?_⟩)⟩
    have hl2 : (W.putObj (w.heap.size + 1) (.loop { rec .ready none with state := .busy })).heap[w.heap.size + 1]? = some (.loop { rec .ready none with state := .busy }) := World.putObj_heap_same hlt
    have hk2 : (W.putObj (w.heap.size + 1) (.loop { rec .ready none with state := .busy })).heap[w.heap.size]? = some (.deferred (some [])) := (World.putObj_heap_other (by omega)).trans hk
    have fin : ∀ (jump : Option Code) (W3 : World), KeepsOthers (W.putObj (w.heap.size + 1) (.loop { rec .ready none with state := .busy })) W3 →
        (Instr.endRound (w.heap.size + 1) jump).run P W3 = .ok (.bool jump.isNone) (W3.putObj (w.heap.size + 1) (.loop (rec (if jump.isNone then .ready else .done) jump))) ∧
        W3.heap[w.heap.size + 1]? = some (.loop { rec .ready none with state := .busy }) ∧
        (W3.putObj (w.heap.size + 1) (.loop (rec (if jump.isNone then .ready else .done) jump))).heap[w.heap.size + 1]? = some (.loop (rec (if jump.isNone then .ready else .done) jump)) ∧
        (W3.putObj (w.heap.size + 1) (.loop (rec (if jump.isNone then .ready else .done) jump))).heap[w.heap.size]? = some (.deferred (some [])) ∧ w.heap.size ≤ W3.heap.size := fun jump W3 hk3 => by
      have hl3 := hk3.same _ _ hl2 rfl
      have := run_endRound (P := P) jump hl3
      rw [hrec] at this ⊢
      exact ⟨this, by rw [hrec] at hl3; exact hl3, World.putObj_heap_same (Array.getElem?_eq_some_iff.1 hl3).1, (World.putObj_heap_other (by omega)).trans (hk3.same _ _ hk2 rfl), by have := (Array.getElem?_eq_some_iff.1 hl3).1; omega⟩
    refine wpIn_mono (hbody _ x _ (hIp _ _ _ _ (by omega) hl rfl hi) (by simpa using hz)) ?_
    rintro e a3 W3 hp
    cases e with
    | normal =>
      obtain ⟨hok, hk3, hkp3, hi3⟩ := hp
      obtain ⟨hr, hl3, hl4, hk4, hz3⟩ := fin none W3 hk3
      exact ⟨_, _, hr, .inl ⟨hok, rfl, ⟨⟨hIp _ _ _ _ (by omega) hl3 rfl hi3, by simpa using hz3⟩, hl4, hk4⟩, hKt (hKt (hKp _ _ _ _ (by omega) hl) hkp3) (hKp _ _ _ _ (by omega) hl3)⟩⟩
    | ret =>
      obtain ⟨hok, hk3, hi3⟩ := hp
      obtain ⟨hr, hl3, hl4, hk4, hz3⟩ := fin (some .ret) W3 hk3
      exact ⟨_, _, hr, .inr ⟨hok, rfl, hXp _ _ _ _ (by omega) hl3 rfl hi3, hl4, hk4⟩⟩
    | exit id => exact hp.elim
    | goto t => exact hp.elim
    | panic ch => exact hp.elim
    | outgrown => exact hp.elim
  · rintro e W2 ⟨⟨v, rfl⟩, (⟨hall, ⟨hi, _⟩, hl, hk⟩ | ⟨hall, hi, hl, hk⟩)⟩
    · exact ⟨none, _, by have := run_endLoop (P := P) hl (by rw [hrec]; simp); rw [hrec] at this; exact this, hdone _ _ hall (Nat.le_refl _) (hIp _ _ _ _ (by omega) hl rfl hi) ((World.putObj_heap_other (by omega)).trans hk)⟩
    · exact ⟨some .ret, _, by have := run_endLoop (P := P) hl (by rw [hrec]; simp); rw [hrec] at this; exact this, hstop _ _ hall (Nat.le_refl _) (hXp _ _ _ _ (by omega) hl rfl hi) ((World.putObj_heap_other (by omega)).trans hk)⟩
end
end Go.Proofs.YtgmggompdidcoaaGreatDoor.X
namespace Go.Proofs.YtgmggompdidcoaaGreatDoor.X
open Go.RowKit Go.Proofs.YtgmggompdidcoaaGreatDoorW.PrintWords Go.Proofs.YtgmggompdidcoaaGreatDoorW.PrintLast Go.Proofs.YtgmggompdidcoaaGreatDoorW.PrintMore
attribute [local go_sem] max2_int min2_int max_two min_two max_three min_three max_four min_four
set_option linter.unusedVariables false
set_option linter.unusedSimpArgs false
def okb (c : Int) : Bool := decide (97 ≤ c ∧ c ≤ 122 ∨ 65 ≤ c ∧ c ≤ 90 ∨ 48 ≤ c ∧ c ≤ 57 ∨ c = 46 ∨ c = 95 ∨ c = 45)
def allOk : Nat → ByteArray → Int → Bool
  | 0, _, _ => true
  | d + 1, s, i => okb (bt s i) && allOk d s (i + 1)
def endOk (s : ByteArray) : Bool := if s.toList = [] then false else if s.toList = [46] then false else s.toList != [46, 46]
def partB (s : ByteArray) : Bool := allOk s.size s 0 && endOk s
theorem ite_all {α : Type} {p : Prop} [Decidable p] {x y z : α} (h1 : p → x = z) (h2 : ¬p → y = z) : (if p then x else y) = z := by
  by_cases h : p
  · rw [if_pos h]; exact h1 h
  · rw [if_neg h]; exact h2 h
theorem part_l (s : ByteArray) (hs : s.size ≤ 140737488351232) (d : Nat) : ∀ (k : Nat) (i : Int), 0 ≤ i → i + d = s.size → d < k → store_part.l0 k s (s.size : Int) i = some (allOk d s i && endOk s) := by
  induction d with
  | zero =>
    intro k i h0 h1 hk
    obtain ⟨k, rfl⟩ : ∃ m, k = m + 1 := ⟨k - 1, by omega⟩
    rw [store_part.l0, if_neg (by omega)]
    unfold allOk endOk
    rw [Bool.true_and]
    split
    · rfl
    · split
      · rfl
      · rfl
  | succ d ih =>
    intro k i h0 h1 hk
    obtain ⟨k, rfl⟩ : ∃ m, k = m + 1 := ⟨k - 1, by omega⟩
    rw [store_part.l0, if_pos (by omega), if_pos h0, if_pos (by omega)]
    have hw : wrap64 (i + 1) = i + 1 := by unfold wrap64; omega
    have hr := ih k (i + 1) (by omega) (by omega) (by omega)
    rw [hw, hr]
    rw [allOk]
    generalize bt s i = c
    generalize allOk d s (i + 1) = A
    generalize endOk s = E
    cases h : okb c with
    | true =>
      have h' := of_decide_eq_true h
      rw [Bool.true_and]
      repeat' first | rfl | (refine ite_all (fun _ => ?_) (fun _ => ?_))
      all_goals (exfalso; omega)
    | false =>
      have h' := of_decide_eq_false h
      rw [Bool.false_and, Bool.false_and]
      repeat' first | rfl | (refine ite_all (fun _ => ?_) (fun _ => ?_))
      all_goals (exfalso; omega)
theorem part_f (s : ByteArray) (hs : s.size ≤ 140737488351232) : store_part.f (s.size + 1) s = some (partB s) := part_l s hs s.size (s.size + 1) 0 (by omega) (by omega) (by omega)
def keyB (s : ByteArray) : Bool := (pieces s).all partB && decide (s.size ≤ 255)
theorem part_any (s : ByteArray) (hs : s.size ≤ 140737488351232) (w : World) : Calls Tryz.prog 78 #[.string s] w fun e w' => e = .returned (.bool (partB s)) ∧ Drawn0 w w' := store_part.calls _ s _ w (part_f s hs)
attribute [local go_sem] Oper.semAt_some
theorem keptO_drewN (W : World) (n : Nat) : KeepsOthers W (W.drewN n) := ⟨Nat.le_refl _, fun _ _ h _ => h⟩
set_option maxRecDepth 100000 in
set_option maxHeartbeats 4000000 in
theorem Key_any (s : ByteArray) (hs : s.size ≤ 140737488351232) (w : World) : Calls Tryz.prog 41 #[.string s] w fun e w' => e = .returned (.bool (keyB s)) ∧ Below w.heap.size w w' := by
  refine (callsIn_wide (n := 4)).1 ?_
  refine callsIn_of_wp_marks Tryz.func41 rfl trivial ?_ rfl
  simp only [Tryz.ntmps41, List.size_toArray, List.length_cons, List.length_nil, Nat.reduceAdd, Nat.reduceSub, Array.replicate_succ, Array.replicate_zero, List.push_toArray, List.append_toArray, List.nil_append, List.cons_append]
  gi_wp2_with (refine ⟨trivial, ?_⟩; gi_at_call 77; refine (callsIn_wide.2 (SplitSeq_any _ _)).mono ?_; rintro e w1 ⟨rfl, hS, hz, hb⟩)
  have hsz0 : (w.alloc (.cells #[.bool false] 4)).heap.size = w.heap.size + 1 := World.size_alloc _ _
  have hB0 : Below w.heap.size w w1 := ((Below.refl _ w).alloc (Nat.le_refl _) _).trans (hb.mono (by omega))
  have hc0 : w1.heap[w.heap.size]? = some (.cells #[.bool false] 4 (0, 0)) := (hb.block _ (by omega)).trans (World.alloc_heap_new w _)
  rw [hsz0] at hS hz
  have HS := Aside0.mk hS
  have HB := Aside0.mk hB0
  have HC := Aside0.mk hc0
  have HZ := Aside0.mk hz
  clear hS hB0 hc0 hb hsz0 hz
  have hcell : (⟨w.heap.size + 1, 0, none⟩ : Addr).block < w1.heap.size := by rw [HZ.out]; show w.heap.size + 1 < _; omega
  refine range_cell (α := { x : ByteArray // x.size ≤ 140737488351232 }) (by omega) (gf := 105) (lb := #[.pointer (some ⟨w.heap.size + 1 + 1, 0, none⟩), .pointer (some ⟨w.heap.size + 1, 0, none⟩), .pointer (some ⟨w.heap.size + 1 + 2, 0, none⟩)]) rfl (enters_of Tryz.func105 (by kernel_rfl) rfl)
    (fun x => .string x.1) rfl (fun x => partB x.1) ((pieces s).all partB) ⟨w.heap.size + 1, 0, none⟩ hcell
    (fun W W' => ∀ t, SplitAt W (w.heap.size + 1 + 1) (w.heap.size + 1) (w.heap.size + 1 + 2) t → SplitAt W' (w.heap.size + 1 + 1) (w.heap.size + 1) (w.heap.size + 1 + 2) t)
    ?iter (fun W => Below w.heap.size w W ∧ W.heap[w.heap.size]? = some (.cells #[.bool false] 4 (0, 0))) (fun W => Below w.heap.size w W ∧ W.heap[w.heap.size]? = some (.cells #[.bool false] 4 (0, 0)))
    (fun W v h => ⟨h.1.setCell (by show _ ≤ w.heap.size + 1; omega) _, blk_far h.2 (by show w.heap.size ≠ w.heap.size + 1; omega) _⟩)
    (fun W o hW h => ⟨h.1.alloc h.1.size _, blk_alloc h.2 _⟩)
    ?putI ?putI2 (fun h1 h2 t h => h2 t (h1 t h)) ?keep ⟨HB.out, HC.out⟩
    (fun x => { tmps := #[.string s, undef, .pointer (some ⟨w.heap.size, 0, none⟩), .string x.1, .string s,
      .func (.func 105) #[] #[.pointer (some ⟨w.heap.size + 1 + 1, 0, none⟩), .pointer (some ⟨w.heap.size + 1, 0, none⟩), .pointer (some ⟨w.heap.size + 1 + 2, 0, none⟩)], .string x.1, undef, undef, undef, undef, undef, undef], defers := [] }) ?assign ?body ?done ?stop
  case iter =>
    intro l J Jx W hJ hY hbW h0
    exact split_run l 3 (w.heap.size + 1 + 1) (w.heap.size + 1) (w.heap.size + 1 + 2) (by omega) partB J Jx (by omega) (by omega) hJ (fun x hx W1 h1 => hY ⟨x, hx⟩ W1 h1) s hs W h0
      (splitAt_kept HS.out hbW (by rw [HZ.out]; omega) (by rw [HZ.out]; omega) (by rw [HZ.out]; omega))
  case putI =>
    intro W l o o' hl ho hc h
    have hlt := (Array.getElem?_eq_some_iff.1 ho).1
    exact ⟨h.1.grown (grownBy_putObj' W l o') (by have := h.1.size; omega) (fun k e => by cases e; rw [HZ.out] at hl; omega), (World.putObj_heap_other (by rw [HZ.out] at hl; omega)).trans h.2⟩
  case putI2 =>
    intro W l o o' hl ho hc h
    have hlt := (Array.getElem?_eq_some_iff.1 ho).1
    exact ⟨h.1.grown (grownBy_putObj' W l o') (by have := h.1.size; omega) (fun k e => by cases e; rw [HZ.out] at hl; omega), (World.putObj_heap_other (by rw [HZ.out] at hl; omega)).trans h.2⟩
  case keep =>
    intro W l o o' hl ho t h
    rw [HZ.out] at hl
    exact ⟨(World.putObj_heap_other (by omega)).trans h.1, (World.putObj_heap_other (by omega)).trans h.2.1, (World.putObj_heap_other (by omega)).trans h.2.2⟩
  case assign =>
    intro l x W K hK
    gi_wp2
    exact hK
  case body =>
    rintro l ⟨x, hx⟩ W ⟨hBW, hcW⟩ hzW
    have hc1 : W.cell? ⟨w.heap.size, 0, none⟩ = some (.bool false) := blk_cell hcW 0
    have hf1 : W.frozen? ⟨w.heap.size, 0, none⟩ = false := blk_frozen hcW 0
    have HBW := Aside0.mk hBW
    have HCW := Aside0.mk hcW
    have HP := Aside0.mk (part_any x hx)
    obtain ⟨pb, hpb⟩ : ∃ pb, partB x = pb := ⟨_, rfl⟩
    have HPB := Aside0.mk hpb
    rw [hpb] at HP
    clear hBW hcW hzW hpb
    cases pb with
    | true =>
      gi_wp2_with (refine ⟨trivial, ?_⟩; gi_at_call 78; refine (CallsIn.inRound l (callsIn_wide.2 (HP.out _))).mono ?_; rintro e W2 ⟨rfl, ⟨nd, rfl⟩⟩)
      exact ⟨HPB.out, keptO_drewN _ _, fun t h => h, ⟨pw_below_drewN HBW.out nd, HCW.out⟩⟩
    | false =>
      gi_wp2_with (refine ⟨trivial, ?_⟩; gi_at_call 78; refine (CallsIn.inRound l (callsIn_wide.2 (HP.out _))).mono ?_; rintro e W2 ⟨rfl, ⟨nd, rfl⟩⟩)
      exact ⟨HPB.out, (keptO_drewN _ _).trans (KeepsOthers.setCell _ _ _), ⟨(pw_below_drewN HBW.out nd).setCell (Nat.le_refl _) _, blk_put (w := W.drewN nd) HCW.out 0 _ rfl⟩⟩
  case done =>
    rintro D W hall hD ⟨hBW, hcW⟩ hK
    have hc1 : W.cell? ⟨w.heap.size, 0, none⟩ = some (.bool false) := blk_cell hcW 0
    have hf1 : W.frozen? ⟨w.heap.size, 0, none⟩ = false := blk_frozen hcW 0
    have hm : s.size ≤ 9223372036854775807 := by omega
    have HBW := Aside0.mk hBW
    have HCW := Aside0.mk hcW
    have HD := Aside0.mk hD
    have HA := Aside0.mk hall
    have HK := Aside0.mk hK
    clear hBW hcW hD hall hK
    gi_wp2
    have hK' := (KeepsOthers.setCell W ⟨w.heap.size, 0, none⟩ (.bool (decide ((s.size : Int) ≤ 255)))).same D _ HK.out rfl
    have hne : w.heap.size ≠ D := by have := HD.out; have := HZ.out; omega
    have hcell2 : ((W.setCell ⟨w.heap.size, 0, none⟩ (.bool (decide ((s.size : Int) ≤ 255)))).putObj D (.deferred none)).heap[w.heap.size]? = some (.cells #[.bool (decide ((s.size : Int) ≤ 255))] 4 (0, 0)) := (World.putObj_heap_other hne).trans (blk_put HCW.out 0 _ rfl)
    refine ⟨by simp, .inl ⟨_, _, rfl, run_takeDeferred hK', ?_⟩⟩
    have hc5 := blk_cell hcell2 0
    refine ⟨.bool (decide ((s.size : Int) ≤ 255)), ?_, ?_, ?_⟩
    · simp [results, Tryz.f41, go_sem, hc5]
    · unfold keyB; rw [HA.out, Bool.true_and]; congr 2; exact decide_eq_decide.2 (by omega)
    · have hlt := (Array.getElem?_eq_some_iff.1 hK').1
      exact (HBW.out.setCell (Nat.le_refl _) _).grown (grownBy_putObj' _ D _) (by have := (HBW.out.setCell (p := ⟨w.heap.size, 0, none⟩) (Nat.le_refl _) (.bool (decide ((s.size : Int) ≤ 255)))).size; omega) (fun k e => by cases e; have := HD.out; have := HZ.out; omega)
  case stop =>
    rintro D W hall hD ⟨hBW, hcW⟩ hK
    have HBW := Aside0.mk hBW
    have HCW := Aside0.mk hcW
    have HD := Aside0.mk hD
    have HA := Aside0.mk hall
    have HK := Aside0.mk hK
    clear hBW hcW hD hall hK
    gi_wp2
    have hne : w.heap.size ≠ D := by have := HD.out; have := HZ.out; omega
    have hcell2 : (W.putObj D (.deferred none)).heap[w.heap.size]? = some (.cells #[.bool false] 4 (0, 0)) := (World.putObj_heap_other hne).trans HCW.out
    refine ⟨by simp, .inl ⟨_, _, rfl, run_takeDeferred HK.out, ?_⟩⟩
    have hc5 := blk_cell hcell2 0
    refine ⟨.bool false, ?_, ?_, ?_⟩
    · simp [results, Tryz.f41, go_sem, hc5]
    · unfold keyB; rw [HA.out, Bool.false_and]
    · exact HBW.out.grown (grownBy_putObj' _ D _) (by have := HBW.out.size; have := (Array.getElem?_eq_some_iff.1 HK.out).1; omega) (fun k e => by cases e; have := HD.out; have := HZ.out; omega)
end Go.Proofs.YtgmggompdidcoaaGreatDoor.X
namespace Go.Proofs.YtgmggompdidcoaaGreatDoor.X
open Go.RowKit Go.Proofs.YtgmggompdidcoaaGreatDoorW.PrintWords Go.Proofs.YtgmggompdidcoaaGreatDoorW.PrintLast Go.Proofs.YtgmggompdidcoaaGreatDoorW.PrintMore
attribute [local go_sem] max2_int min2_int max_two min_two max_three min_three max_four min_four
set_option linter.unusedVariables false
set_option linter.unusedSimpArgs false
end Go.Proofs.YtgmggompdidcoaaGreatDoor.X
namespace Go.Proofs.YtgmggompdidcoaaGreatDoor.X
open Go.RowKit Go.Proofs.YtgmggompdidcoaaGreatDoorW.PrintWords Go.Proofs.YtgmggompdidcoaaGreatDoorW.PrintLast Go.Proofs.YtgmggompdidcoaaGreatDoorW.PrintMore
attribute [local go_sem] max2_int min2_int max_two min_two max_three min_three max_four min_four
set_option linter.unusedVariables false
set_option linter.unusedSimpArgs false
mutual
def agateref09_digits.j0 : Nat → ByteArray → Bool → Option (Int)
 | 0, _, _ => none
 | k + 1, x0, x22 => if x22 = true then (some (-1)) else (agateref09_digits.l0 k x0 0 0)
def agateref09_digits.l0 : Nat → ByteArray → Int → Int → Option (Int)
 | 0, _, _, _ => none
 | k + 1, x0, x3, x4 => if x4 < (x0.size : Int) then (if 0 ≤ x4 then (if (bt x0 x4) < 48 then (some (-1)) else (if (bt x0 x4) > 57 then (some (-1)) else (agateref09_digits.l0 k x0 (wrap64 ((wrap64 (x3 * 10)) + (((bt x0 x4) - 48) % 256))) (wrap64 (x4 + 1))))) else (none)) else (some x3)
end
end Go.Proofs.YtgmggompdidcoaaGreatDoor.X
namespace Go.Proofs.YtgmggompdidcoaaGreatDoor.X
open Go.RowKit Go.Proofs.YtgmggompdidcoaaGreatDoorW.PrintWords Go.Proofs.YtgmggompdidcoaaGreatDoorW.PrintLast Go.Proofs.YtgmggompdidcoaaGreatDoorW.PrintMore
attribute [local go_sem] max2_int min2_int max_two min_two max_three min_three max_four min_four
set_option linter.unusedVariables false
set_option linter.unusedSimpArgs false
mutual
def pbtensor_bytes.j0 : Nat → List Int → Int → Option (ByteArray × Int)
 | 0, _, _ => none
 | k + 1, x0, x6 => pbtensor_bytes.l0 k x6 ([] : List Int) x0 (x0.length : Int) 0
def pbtensor_bytes.l0 : Nat → Int → List Int → List Int → Int → Int → Option (ByteArray × Int)
 | 0, _, _, _, _, _ => none
 | k + 1, x6, x7, x12, x13, x14 => if x14 < x13 then (if 0 ≤ x14 then (if x14 < (x12.length : Int) then (if (rd x12 x14) < 0 then (some ((⟨#[]⟩ : ByteArray), 17)) else (if (rd x12 x14) > x6 then (some ((⟨#[]⟩ : ByteArray), 17)) else (if x7.length < 140737488355328 then (pbtensor_bytes.l0 k x6 (x7 ++ [(rd x12 x14) % 256]) x12 x13 (wrap64 (x14 + 1))) else (none)))) else (none)) else (none)) else (some (strOfNums x7, 0))
end
end Go.Proofs.YtgmggompdidcoaaGreatDoor.X
namespace Go.Proofs.YtgmggompdidcoaaGreatDoor.X
open Go.RowKit Go.Proofs.YtgmggompdidcoaaGreatDoorW.PrintWords Go.Proofs.YtgmggompdidcoaaGreatDoorW.PrintLast Go.Proofs.YtgmggompdidcoaaGreatDoorW.PrintMore
attribute [local go_sem] max2_int min2_int max_two min_two max_three min_three max_four min_four
set_option linter.unusedVariables false
set_option linter.unusedSimpArgs false
mutual
def pbtensor_digits.j0 : Nat → ByteArray → Bool → Option (Int × Bool)
 | 0, _, _ => none
 | k + 1, x0, x22 => if x22 = true then (some (0, false)) else (pbtensor_digits.l0 k x0 0 (x0.size : Int) 0)
def pbtensor_digits.l0 : Nat → ByteArray → Int → Int → Int → Option (Int × Bool)
 | 0, _, _, _, _ => none
 | k + 1, x0, x4, x24, x25 => if x25 < x24 then (if 0 ≤ x25 then (if x25 < (x0.size : Int) then (if (bt x0 x25) < 48 then (some (0, false)) else (if (bt x0 x25) > 57 then (some (0, false)) else (pbtensor_digits.l0 k x0 (wrap64 ((wrap64 (10 * x4)) + (((bt x0 x25) - 48) % 256))) x24 (wrap64 (x25 + 1))))) else (none)) else (none)) else (some (x4, true))
end
end Go.Proofs.YtgmggompdidcoaaGreatDoor.X
namespace Go.Proofs.YtgmggompdidcoaaGreatDoor.X
open Go.RowKit Go.Proofs.YtgmggompdidcoaaGreatDoorW.PrintWords Go.Proofs.YtgmggompdidcoaaGreatDoorW.PrintLast Go.Proofs.YtgmggompdidcoaaGreatDoorW.PrintMore
attribute [local go_sem] max2_int min2_int max_two min_two max_three min_three max_four min_four
set_option linter.unusedVariables false
set_option linter.unusedSimpArgs false
def badN (most n : Int) : Bool := decide (n < 0) || decide (n > most)
def bytesR (l : List Int) (most : Int) : ByteArray × Int := if l.any (badN most) = true then (⟨#[]⟩, 17) else (strOfNums (l.map (· % 256)), 0)
def mostK (k : Int) : Int := if k = 9 then 1 else 255
abbrev Tn := ByteArray × Int × List Int × ByteArray
def noTn : Tn := (⟨#[]⟩, 0, [], ⟨#[]⟩)
def hereS (kd : Int) (data : ByteArray) (few many : List Int) (raw : Bool) : ByteArray × Int :=
  if raw = true then (if 0 < few.length + many.length then (⟨#[]⟩, 19) else (data, 0))
  else if (0 < few.length ∧ kd ≠ 2 ∧ kd ≠ 9) ∨ (0 < many.length ∧ kd ≠ 7) then (⟨#[]⟩, 5)
  else if (bytesR few (mostK kd)).2 ≠ 0 then (⟨#[]⟩, (bytesR few (mostK kd)).2) else (if kd = 7 then catLaid many else (bytesR few (mostK kd)).1, 0)
def putT (name : ByteArray) (kd : Int) (dims : List Int) (d : ByteArray × Int) : Tn × Int :=
  if d.2 ≠ 0 then (noTn, d.2) else ((name, kd, dims, d.1), chkR name kd dims d.1)
theorem chk_f (name : ByteArray) (kd : Int) (dims : List Int) (d : ByteArray) (h1 : name.size ≤ 140737488351232) (h2 : d.size ≤ 140737488351232) : tensor_Tensor_Check_s.f name kd dims d = some (chkR name kd dims d) := if_pos ⟨h1, h2⟩
theorem cz10 {w : World} {g t : Nat} {v0 v1 v2 v3 v4 v5 v6 v7 v8 v9 : Value} (h : Aside0 (w.heap[g]? = some (.cells #[v0, v1, v2, v3, v4, v5, v6, v7, v8, v9] t (0, 0)))) :
    w.cell? ⟨g, 0, none⟩ = some v0 ∧ w.cell? ⟨g, 1, none⟩ = some v1 ∧ w.cell? ⟨g, 2, none⟩ = some v2 ∧ w.cell? ⟨g, 3, none⟩ = some v3 ∧ w.cell? ⟨g, 4, none⟩ = some v4 ∧ w.cell? ⟨g, 5, none⟩ = some v5 ∧ w.cell? ⟨g, 6, none⟩ = some v6 ∧ w.cell? ⟨g, 7, none⟩ = some v7 ∧ w.cell? ⟨g, 8, none⟩ = some v8 ∧ w.cell? ⟨g, 9, none⟩ = some v9 :=
  ⟨blk_cell h.out 0, blk_cell h.out 1, blk_cell h.out 2, blk_cell h.out 3, blk_cell h.out 4, blk_cell h.out 5, blk_cell h.out 6, blk_cell h.out 7, blk_cell h.out 8, blk_cell h.out 9⟩
def HerePost (w : World) (P : Nat → Prop) (R : Tn × Int) (en : Ending) (w' : World) : Prop := ∃ v : Value, en = .returned (.tuple #[.agg #[.string R.1.1, .int .i64 R.1.2.1, v, .string R.1.2.2.2], .int .i64 R.2]) ∧ Kd.V (Kd.int .i64) 2 w' w.heap.size (fun k => P k) v R.1.2.2.1 ∧ Below w.heap.size w w'
theorem here_no {w w' : World} {P : Nat → Prop} {R : Tn × Int} {c : Int} (h : R = (noTn, c)) (hb : Below w.heap.size w w') : HerePost w P R (.returned (.tuple #[.agg #[.string (⟨#[]⟩ : ByteArray), .int .i64 0, .slice none 0 0, .string (⟨#[]⟩ : ByteArray)], .int .i64 c])) w' := by
  subst h
  exact ⟨_, rfl, Kd.V_nil _ _ _ _ _, hb⟩
theorem here_yes {w w' : World} {P : Nat → Prop} {R : Tn × Int} {c : Int} {name data : ByteArray} {kd : Int} {dims : List Int} {A1 : Option Addr} {c1 : Nat} (h : R = ((name, kd, dims, data), c)) (hb : Below w.heap.size w w') (hf : Kd.F (Kd.int .i64) w P A1 dims.length dims) (hc : dims.length ≤ c1) : HerePost w P R (.returned (.tuple #[.agg #[.string name, .int .i64 kd, .slice A1 dims.length c1, .string data], .int .i64 c])) w' := by
  subst h
  exact ⟨_, rfl, Kd.V_mk hc (F_below hf hb), hb⟩
set_option maxHeartbeats 1000000 in
set_option maxRecDepth 100000 in
theorem here_raw_any (name : ByteArray) (kd : Int) (P : Nat → Prop) (A1 : Option Addr) (c1 : Nat) (dims : List Int) (data : ByteArray) (A2 : Option Addr) (c2 : Nat) (few : List Int) (A3 : Option Addr) (c3 : Nat) (many : List Int) (A4 : Option Addr) (c4 : Nat) (ext : List ByteArray) (wh els : Int) (w : World)
    (h1 : Kd.F (Kd.int .i64) w P A1 dims.length dims) (h1c : dims.length ≤ c1) (hf : few.length ≤ 65536) (hm : many.length ≤ 65536) (hn : name.size ≤ 140737488351232) (hd : data.size ≤ 140737488351232) :
    Calls Tryz.prog 22 #[.agg #[.string name, .int .i64 kd, .slice A1 dims.length c1, .string data, .slice A2 few.length c2, .slice A3 many.length c3, .bool true, .slice A4 ext.length c4, .int .u64 wh, .int .i64 els]] w (HerePost w P (putT name kd dims (hereS kd data few many true))) := by
  have hu59 := Tryz.underlying59
  have hu33 := Tryz.underlying33
  have H1 := mk0 h1
  have H1c := mk0 h1c
  have HN := mk0 (And.intro hn hd)
  have HB := Aside0.mk (Below.refl w.heap.size w)
  have hz : IntKind.i64.wrap ((few.length : Int) + (many.length : Int)) = (few.length : Int) + (many.length : Int) := by rw [i64_w]; exact wrap64_id (by omega) (by omega)
  by_cases h0 : 0 < few.length + many.length
  · have b0 : decide (0 < (few.length : Int) + (many.length : Int)) = true := decide_eq_true (by omega)
    have HR := Aside0.mk (show putT name kd dims (hereS kd data few many true) = (noTn, 19) from by unfold putT hereS; rw [if_pos rfl, if_pos h0]; rfl)
    clear h1 h1c hf hm hn hd h0
    go_enter Tryz.func22, Tryz.ntmps22
    go_wp2_with (first | ((with_reducible refine gate_dst (N := 1) rfl ?_); refine boxE (N := 1) (cs := #[.string name, .int .i64 kd, .slice A1 dims.length c1, .string data, .slice A2 few.length c2, .slice A3 many.length c3, .bool true, .slice A4 ext.length c4, .int .u64 wh, .int .i64 els]) (t := 59) ?_; intro gm hg w1 hbox hb; have BM := mk0 hbox; have GM := gwS HB hg; replace HB := hbS HB hb; clear hb hbox hg) | ((with_reducible refine gate_dst (N := 2) rfl ?_); refine boxE (N := 2) (cs := #[.string (⟨#[]⟩ : ByteArray), .int .i64 0, .slice none 0 0, .string (⟨#[]⟩ : ByteArray)]) (t := 33) ?_; intro gr hg w2 hbox hb; have BR := mk0 hbox; have GR := gwS HB hg; have NMR := neS BM hg; have NRM := neT BM hg; replace BM := bkS BM hb; replace HB := hbS HB hb; clear hb hbox hg; obtain ⟨hm0, hm1, hm2, hm3, hm4, hm5, hm6, hm7, hm8, hm9⟩ := cz10 BM) | ((with_reducible refine gate_dst (N := 4) rfl ?_); refine boxE (N := 4) (cs := #[.string (⟨#[]⟩ : ByteArray), .int .i64 0, .slice none 0 0, .string (⟨#[]⟩ : ByteArray)]) (t := 33) ?_; intro gt hg w3 hbox hb; have BT := mk0 hbox; have GT := gwS HB hg; have NMT := neS BM hg; have NTM := neT BM hg; have NRT := neS BR hg; have NTR := neT BR hg; replace BM := bkS BM hb; replace BR := bkS BR hb; replace HB := hbS HB hb; clear hb hbox hg hm0 hm1 hm2 hm3 hm4 hm5 hm6 hm7 hm8 hm9; obtain ⟨hm0, hm1, hm2, hm3, hm4, hm5, hm6, hm7, hm8, hm9⟩ := cz10 BM; obtain ⟨ht0, ht1, ht2, ht3⟩ := cz4 BT; have ft0 := fz BT 0; have ft1 := fz BT 1; have ft2 := fz BT 2; have ft3 := fz BT 3; obtain ⟨hr0, hr1, hr2, hr3⟩ := cz4 BR; have fr0 := fz BR 0; have fr1 := fz BR 1; have fr2 := fz BR 2; have fr3 := fz BR 3; have n1 := NMT.out; have n2 := NTM.out; have n3 := NRT.out; have n4 := NTR.out; have n5 := NMR.out; have n6 := NRM.out))
    refine bodyPost_ret (results_ct rfl _ _ gr 33 #[.string (⟨#[]⟩ : ByteArray), .int .i64 0, .slice none 0 0, .string (⟨#[]⟩ : ByteArray)] (0, 0) _ rfl (bkW BR) hu33 rfl (by kernel_rfl)) rfl ?_
    exact here_no HR.out (below4 (below4 HB.out GT.out) GR.out)
  · have b0 : decide (0 < (few.length : Int) + (many.length : Int)) = false := decide_eq_false (by omega)
    have HR := Aside0.mk (show putT name kd dims (hereS kd data few many true) = ((name, kd, dims, data), chkR name kd dims data) from by unfold putT hereS; rw [if_pos rfl, if_neg h0]; rfl)
    have HCk := Aside0.mk (chk_f name kd dims data hn hd)
    clear h1 h1c hf hm hn hd h0
    go_enter Tryz.func22, Tryz.ntmps22
    go_wp2_with (first | ((with_reducible refine gate_dst (N := 1) rfl ?_); refine boxE (N := 1) (cs := #[.string name, .int .i64 kd, .slice A1 dims.length c1, .string data, .slice A2 few.length c2, .slice A3 many.length c3, .bool true, .slice A4 ext.length c4, .int .u64 wh, .int .i64 els]) (t := 59) ?_; intro gm hg w1 hbox hb; have BM := mk0 hbox; have GM := gwS HB hg; replace HB := hbS HB hb; clear hb hbox hg) | ((with_reducible refine gate_dst (N := 2) rfl ?_); refine boxE (N := 2) (cs := #[.string (⟨#[]⟩ : ByteArray), .int .i64 0, .slice none 0 0, .string (⟨#[]⟩ : ByteArray)]) (t := 33) ?_; intro gr hg w2 hbox hb; have BR := mk0 hbox; have GR := gwS HB hg; have NMR := neS BM hg; have NRM := neT BM hg; replace BM := bkS BM hb; replace HB := hbS HB hb; clear hb hbox hg; obtain ⟨hm0, hm1, hm2, hm3, hm4, hm5, hm6, hm7, hm8, hm9⟩ := cz10 BM) | ((with_reducible refine gate_dst (N := 4) rfl ?_); refine boxE (N := 4) (cs := #[.string (⟨#[]⟩ : ByteArray), .int .i64 0, .slice none 0 0, .string (⟨#[]⟩ : ByteArray)]) (t := 33) ?_; intro gt hg w3 hbox hb; have BT := mk0 hbox; have GT := gwS HB hg; have NMT := neS BM hg; have NTM := neT BM hg; have NRT := neS BR hg; have NTR := neT BR hg; replace BM := bkS BM hb; replace BR := bkS BR hb; replace HB := hbS HB hb; clear hb hbox hg hm0 hm1 hm2 hm3 hm4 hm5 hm6 hm7 hm8 hm9; obtain ⟨hm0, hm1, hm2, hm3, hm4, hm5, hm6, hm7, hm8, hm9⟩ := cz10 BM; obtain ⟨ht0, ht1, ht2, ht3⟩ := cz4 BT; have ft0 := fz BT 0; have ft1 := fz BT 1; have ft2 := fz BT 2; have ft3 := fz BT 3; obtain ⟨hr0, hr1, hr2, hr3⟩ := cz4 BR; have fr0 := fz BR 0; have fr1 := fz BR 1; have fr2 := fz BR 2; have fr3 := fz BR 3; have n1 := NMT.out; have n2 := NTM.out; have n3 := NRT.out; have n4 := NTR.out; have n5 := NMR.out; have n6 := NRM.out))
    obtain ⟨w4, hw⟩ : ∃ wb, wb = (((w3.setCell ⟨gt, 0, none⟩ (.string name)).setCell ⟨gt, 1, none⟩ (.int .i64 kd)).setCell ⟨gt, 2, none⟩ (.slice A1 dims.length c1)).setCell ⟨gt, 3, none⟩ (.string data) := ⟨_, rfl⟩
    rw [← hw]
    replace BR := mk0 (show w4.drew.heap[gr]? = some _ from by rw [hw]; exact blk_drew (bkW BR))
    replace BT := mk0 (show w4.drew.heap[gt]? = some (.cells #[.string name, .int .i64 kd, .slice A1 dims.length c1, .string data] 33 (0, 0)) from by rw [hw]; exact blk_drew (bkW BT))
    replace HB := mk0 (show Below w.heap.size w w4.drew from by rw [hw]; exact below_drew1 (below4 HB.out GT.out))
    clear hw hm0 hm1 hm2 hm3 hm4 hm5 hm6 hm7 hm8 hm9 ht0 ht1 ht2 ht3 ft0 ft1 ft2 ft3 hr0 hr1 hr2 hr3 fr0 fr1 fr2 fr3 n1 n2 n3 n4 n5 n6
    refine start_ (n := 5) (S := fun w' => w'.heap[gt]? = some (.cells #[.string name, .int .i64 kd, .slice A1 dims.length c1, .string data] 33 (0, 0))) (ds := []) (bA 5 0) (by kernel_rfl) rfl rfl BT.out (fun hHeld => ?_)
    generalize w4.drew = wd at BR BT HB hHeld ⊢
    refine take_ (i := 0) (N := some 26) (v := ?_) (a' := ?_) (bA 5 1) rfl rfl (by kernel_rfl) (fun _ _ _ h => h) (Or.inl ⟨by rfl, ?_⟩) hHeld ?_ ?_
    rotate_left
    · intro w' hs
      obtain ⟨s0, s1, s2, s3⟩ := cz4 (mk0 hs)
      go_simp
      with_reducible rfl
    rotate_left
    · simp only [Act.put, List.setIfInBounds_toArray, List.set_cons_zero, List.set_cons_succ, i64_w, i32_w]
      rfl
    refine take_ (i := 1) (N := some 27) (v := ?_) (a' := ?_) (bA 5 3) rfl rfl (by kernel_rfl) (fun _ _ _ h => h) (Or.inl ⟨by rfl, ?_⟩) hHeld ?_ ?_
    rotate_left
    · intro w' hs
      obtain ⟨s0, s1, s2, s3⟩ := cz4 (mk0 hs)
      go_simp
      with_reducible rfl
    rotate_left
    · simp only [Act.put, List.setIfInBounds_toArray, List.set_cons_zero, List.set_cons_succ, i64_w, i32_w]
      rfl
    refine one_ (i := 2) (N := some 28) (bA 5 7) rfl rfl (by kernel_rfl) (by decide) (fun K hK => ?_)
    refine goE Tryz.func34 (by kernel_rfl) rfl #[.agg #[.string name, .int .i64 kd, .slice A1 dims.length c1, .string data]] (by rfl) rfl rfl ?_
    refine (tensor_Tensor_Check_s.calls name kd A1 c1 dims data _ wd (Kd.C_below (Kd.F_now H1.out) HB.out) H1c.out HCk.out).mono ?_
    rintro e w5 ⟨rfl, hb⟩
    refine ⟨_, rfl, ?_⟩
    replace BR := bkS BR hb
    replace BT := bkS BT hb
    replace HB := hbS HB hb
    clear hb hHeld
    refine hK.out _ _ BT.out (fun hHeld => ?_)
    clear hK K
    refine noE 28 ?_
    refine one_ (i := 3) (N := none) (bA 5 15) rfl rfl (by kernel_rfl) (by decide) (fun K hK => ?_)
    obtain ⟨hr0, hr1, hr2, hr3⟩ := cz4 BR
    have fr0 := fz BR 0
    have fr1 := fz BR 1
    have fr2 := fz BR 2
    have fr3 := fz BR 3
    have n3 := NRT.out
    have n4 := NTR.out
    refine skip_ (w1 := ?_) (by rfl) rfl ?_ ?_
    rotate_left
    · go_simp
      rfl
    refine hK.out _ _ (bkW BT) (fun hHeld => ?_)
    clear hK K
    refine pure_ (i := 4) (N := some 3) (v := ?_) (a' := ?_) (bA 5 31) rfl rfl (by kernel_rfl) (fun _ _ _ h => h) (Or.inl ⟨by rfl, ?_⟩) ?_ ?_
    rotate_left
    · intro w'
      go_simp
      with_reducible rfl
    rotate_left
    · simp only [Act.put, List.setIfInBounds_toArray, List.set_cons_zero, List.set_cons_succ, i64_w, i32_w]
      rfl
    refine done_ (by kernel_rfl) ?_
    go_wp2
    refine bodyPost_ret (results_ct rfl _ _ gr 33 #[.string name, .int .i64 kd, .slice A1 dims.length c1, .string data] (0, 0) _ rfl (bkW BR) hu33 rfl (by kernel_rfl)) rfl ?_
    exact here_yes HR.out (below4 HB.out GR.out) H1.out H1c.out
theorem blk10' {w : World} {g t : Nat} {a0 a1 a2 a3 a4 a5 a6 a7 a8 a9 v0 v1 v2 v3 v4 v5 v6 v7 v8 v9 : Value} (h : w.heap[g]? = some (.cells #[a0, a1, a2, a3, a4, a5, a6, a7, a8, a9] t (0, 0))) :
    ((((((((((w.setCell ⟨g, 0, none⟩ v0).setCell ⟨g, 1, none⟩ v1).setCell ⟨g, 2, none⟩ v2).setCell ⟨g, 3, none⟩ v3).setCell ⟨g, 4, none⟩ v4).setCell ⟨g, 5, none⟩ v5).setCell ⟨g, 6, none⟩ v6).setCell ⟨g, 7, none⟩ v7).setCell ⟨g, 8, none⟩ v8).setCell ⟨g, 9, none⟩ v9).heap[g]? = some (.cells #[v0, v1, v2, v3, v4, v5, v6, v7, v8, v9] t (0, 0)) := by
  have h2 := (blk_set (blk_set (blk_set (blk_set (blk_set (blk_set (blk_set (blk_set (blk_set (blk_set h 0 v0) 1 v1) 2 v2) 3 v3) 4 v4) 5 v5) 6 v6) 7 v7) 8 v8) 9 v9)
  simp only [List.setIfInBounds_toArray, List.set_cons_zero, List.set_cons_succ] at h2
  exact h2
set_option maxHeartbeats 1000000 in
set_option maxRecDepth 100000 in
theorem Read_laid (b : ByteArray) (mm : Option Nat) (m : MsgT) (w : World) (hb : b.size ≤ 140737488351232) (hS : apartS b = (m, 0)) (hw : m.wh = 0) (hraw : m.raw = true) (hf : m.few = []) (hm : m.many = []) (h1 : m.name.size ≤ 140737488351232) (h2 : m.data.size ≤ 140737488351232) (hc : chkR m.name m.kind m.dims m.data = 0) :
    Calls Tryz.prog 7 #[.string b, .agg #[.map mm]] w fun en w' => ∃ v : Value, en = .returned (.tuple #[.agg #[.string m.name, .int .i64 m.kind, v, .string m.data], .int .i64 0]) ∧ Kd.V (Kd.int .i64) 2 w' w.heap.size (fun k => w.heap.size ≤ k) v m.dims ∧ Below w.heap.size w w' := by
  have hu59 := Tryz.underlying59
  have hu33 := Tryz.underlying33
  have hu25 := Tryz.underlying25
  obtain ⟨name, kind, dims, data, few, many, raw, ext, wh, els⟩ := m
  dsimp only at hw hraw hf hm h1 h2 hc ⊢
  subst hw hraw hf hm
  have HA := Aside0.mk (show ∀ w, _ from fun w => apart_any b w hb)
  rw [hS] at HA
  have HH := Aside0.mk (show putT name kind dims (hereS kind data [] [] true) = ((name, kind, dims, data), 0) from by show ((name, kind, dims, data), chkR name kind dims data) = _; rw [hc])
  have HZ := Aside0.mk (And.intro h1 h2)
  have HB := Aside0.mk (Below.refl w.heap.size w)
  clear hb hS h1 h2 hc
  go_enter Tryz.func7, Tryz.ntmps7
  go_wp2_with (first | ((with_reducible refine gate_dst (N := 3) rfl ?_); refine boxE (N := 3) (cs := #[.map mm]) (t := 25) ?_; intro gs hg w1 hbox hb; replace HB := hbS HB hb; clear hb hbox hg) | ((with_reducible refine gate_dst (N := 4) rfl ?_); refine boxE (N := 4) (cs := #[.string (⟨#[]⟩ : ByteArray), .int .i64 0, .slice none 0 0, .string (⟨#[]⟩ : ByteArray)]) (t := 33) ?_; intro gr hg w2 hbox hb; have BR := mk0 hbox; have GR := gwS HB hg; replace HB := hbS HB hb; clear hb hbox hg))
  refine (HA.out _).mono ?_
  rintro en w3 ⟨A1, c1, A2, c2, A3, c3, A4, c4, rfl, q1, q2, q3, q4, hb⟩
  dsimp only at q1 q2 q3 q4 ⊢
  have Q1 := mk0 (Kd.R_V (base' := w2.heap.size) (Kd.R_mono (Kd.R_bound q1) (fun k hk => hk.2.1)))
  have Q2 := mk0 (Kd.R_reads' q2).2
  have Q3 := mk0 (Kd.R_reads' q3).2
  have Q4 := mk0 (Kd.R_reads' q4).2
  have S2 := mk0 (HB.out.size)
  have R2 := mk0 (blk_lt BR.out)
  have S23 := mk0 (show w2.heap.size ≤ w3.heap.size from hb.size)
  replace BR := bkS BR hb
  replace HB := hbS HB hb
  clear q1 q2 q3 q4 hb
  go_wp2_with (first | ((with_reducible refine gate_dst (N := 6) rfl ?_); refine boxE (N := 6) (cs := #[.string (⟨#[]⟩ : ByteArray), .int .i64 0, .slice none 0 0, .string (⟨#[]⟩ : ByteArray), .slice none 0 0, .slice none 0 0, .bool false, .slice none 0 0, .int .u64 0, .int .i64 0]) (t := 59) ?_; intro gm hg w4 hbox hb; have BM := mk0 hbox; have GM := gwS HB hg; have NRM := neS BR hg; have NMR := neT BR hg; replace BR := bkS BR hb; replace HB := hbS HB hb; have B3 := mk0 hb; have G3 := mk0 (Nat.le_of_eq hg.symm); clear hb hbox hg; have hm0 := blk_cell BM.out 0; have fm0 := fz BM 0; have hm1 := blk_cell BM.out 1; have fm1 := fz BM 1; have hm2 := blk_cell BM.out 2; have fm2 := fz BM 2; have hm3 := blk_cell BM.out 3; have fm3 := fz BM 3; have hm4 := blk_cell BM.out 4; have fm4 := fz BM 4; have hm5 := blk_cell BM.out 5; have fm5 := fz BM 5; have hm6 := blk_cell BM.out 6; have fm6 := fz BM 6; have hm7 := blk_cell BM.out 7; have fm7 := fz BM 7; have hm8 := blk_cell BM.out 8; have fm8 := fz BM 8; have hm9 := blk_cell BM.out 9; have fm9 := fz BM 9))
  obtain ⟨w5, hw⟩ : ∃ wb, wb = ((((((((((w4.setCell ⟨gm, 0, none⟩ (.string name)).setCell ⟨gm, 1, none⟩ (.int .i64 kind)).setCell ⟨gm, 2, none⟩ (.slice A1 dims.length c1)).setCell ⟨gm, 3, none⟩ (.string data)).setCell ⟨gm, 4, none⟩ (.slice A2 0 c2)).setCell ⟨gm, 5, none⟩ (.slice A3 0 c3)).setCell ⟨gm, 6, none⟩ (.bool true)).setCell ⟨gm, 7, none⟩ (.slice A4 ext.length c4)).setCell ⟨gm, 8, none⟩ (.int .u64 0)).setCell ⟨gm, 9, none⟩ (.int .i64 els)) := ⟨_, rfl⟩
  rw [← hw]
  replace BR := mk0 (show w5.heap[gr]? = some _ from by rw [hw]; exact bkW BR)
  replace BM := mk0 (show w5.heap[gm]? = some (.cells #[.string name, .int .i64 kind, .slice A1 dims.length c1, .string data, .slice A2 0 c2, .slice A3 0 c3, .bool true, .slice A4 ext.length c4, .int .u64 0, .int .i64 els] 59 (0, 0)) from by rw [hw]; exact blk10' BM.out)
  replace HB := mk0 (show Below w.heap.size w w5 from by rw [hw]; exact below10 HB.out GM.out)
  have S25 := mk0 (show w2.heap.size ≤ w5.heap.size from Nat.le_trans S23.out (show Below w3.heap.size w3 w5 from by rw [hw]; exact below10 B3.out G3.out).size)
  replace B3 := mk0 (show Below w3.heap.size w3 w5 from by rw [hw]; exact below10 B3.out G3.out)
  replace Q1 := mk0 (Kd.V_below Q1.out B3.out)
  replace Q2 := mk0 (And.intro Q2.out.1 (Kd.C_below Q2.out.2 B3.out))
  replace Q3 := mk0 (And.intro Q3.out.1 (Kd.C_below Q3.out.2 B3.out))
  replace Q4 := mk0 (And.intro Q4.out.1 (Kd.C_below Q4.out.2 B3.out))
  clear hw B3 G3 hm0 fm0 hm1 fm1 hm2 fm2 hm3 fm3 hm4 fm4 hm5 fm5 hm6 fm6 hm7 fm7 hm8 fm8 hm9 fm9
  have HE := here_raw_any name kind (fun k => w2.heap.size ≤ k) A1 c1 dims data A2 c2 [] A3 c3 [] A4 c4 ext 0 els w5 (Kd.V_F Q1.out) (Kd.V_reads' Q1.out).2.1 (by decide) (by decide) HZ.out.1 HZ.out.2
  rw [HH.out] at HE
  refine HE.mono ?_
  clear HE
  rintro en w6 ⟨v2, rfl, q1, hb⟩
  obtain ⟨AV, cV, rfl⟩ := Kd.V_slice q1
  have S5 := mk0 (Nat.le_trans R2.out (show w2.heap.size ≤ w5.heap.size from S25.out))
  have V1 := mk0 (Kd.V_mono (Kd.V_bound q1) (ok' := fun k => w2.heap.size ≤ k ∧ k < w6.heap.size) (fun k hk => hk))
  replace BR := bkS BR hb
  replace BM := bkS BM hb
  replace HB := hbS HB hb
  clear q1 hb Q1 Q2 Q3 Q4 HH HA HZ S5 S25
  have hm8 := blk_cell BM.out 8
  go_wp2_with (first | ((with_reducible refine gate_dst (N := 8) rfl ?_); refine boxE (N := 8) (cs := #[.string (⟨#[]⟩ : ByteArray), .int .i64 0, .slice none 0 0, .string (⟨#[]⟩ : ByteArray)]) (t := 33) ?_; intro gt hg w7 hbox hb; have BT := mk0 hbox; have GT := gwS HB hg; have G6 := mk0 (Nat.le_of_eq hg.symm); have B6 := mk0 hb; have NRT := neS BR hg; have NTR := neT BR hg; have NMT := neS BM hg; have NTM := neT BM hg; replace BR := bkS BR hb; replace BM := bkS BM hb; replace HB := hbS HB hb; clear hb hbox hg hm8; have hm8 := blk_cell BM.out 8; have ht0 := blk_cell BT.out 0; have ht1 := blk_cell BT.out 1; have ht2 := blk_cell BT.out 2; have ht3 := blk_cell BT.out 3; have ft0 := fz BT 0; have ft1 := fz BT 1; have ft2 := fz BT 2; have ft3 := fz BT 3; have hr0 := blk_cell BR.out 0; have hr1 := blk_cell BR.out 1; have hr2 := blk_cell BR.out 2; have hr3 := blk_cell BR.out 3; have fr0 := fz BR 0; have fr1 := fz BR 1; have fr2 := fz BR 2; have fr3 := fz BR 3; have n1 := NRT.out; have n2 := NTR.out; have n3 := NMT.out; have n4 := NTM.out))
  refine bodyPost_ret (results_ct rfl _ _ gr 33 #[.string name, .int .i64 kind, .slice AV dims.length cV, .string data] (0, 0) _ rfl (bkW BR) hu33 rfl (by kernel_rfl)) rfl ?_
  refine ⟨_, rfl, ?_, below4 (below4 HB.out GT.out) GR.out⟩
  have hv := Kd.V_below V1.out (below4 B6.out G6.out (a := .string name) (b := .int .i64 kind) (c := .slice AV dims.length cV) (d := .string data))
  have hf : ∀ (i : Nat), ∀ k, (w2.heap.size ≤ k ∧ k < w6.heap.size) → k ≠ (⟨gr, i, none⟩ : Addr).block := fun i k hk => Nat.ne_of_gt (Nat.lt_of_lt_of_le R2.out hk.1)
  exact Kd.V_map (Kd.V_far (Kd.V_far (Kd.V_far (Kd.V_far hv (hf 0) _) (hf 1) _) (hf 2) _) (hf 3) _) (fun _ h => Kd.F_mono h (fun k hk => Nat.le_trans S2.out hk.1))
def agatelaw08_Of.l0 : Nat → List (S91) → List (S50) → Int → Int → Option ((List (S91)))
 | 0, _, _, _, _ => none
 | k + 1, x3, x6, x7, x8 => if x8 < x7 then (if 0 ≤ x8 then (if x8 < (x6.length : Int) then (if x3.length < 4398046511104 then (agatelaw08_Of.l0 k (x3 ++ [(⟨(rd_T50 x6 x8).f0, (rd_T50 x6 x8).f1⟩ : S91)]) x6 x7 (wrap64 (x8 + 1))) else (none)) else (none)) else (none)) else (some x3)
def agatelaw08_Of.f (k : Nat) (l0 : List (S50)) : Option ((List (S91))) := agatelaw08_Of.l0 k ([] : List (S91)) l0 (l0.length : Int) 0
set_option maxHeartbeats 8000000 in
set_option maxRecDepth 100000 in
theorem agatelaw08_Of.calls (k : Nat) (A0 : Option Addr) (c0 : Nat) (l0 : List (S50)) (r : List (S91)) (w : World) (hr0 : Kd.C k50 w A0 l0.length l0) (hc0 : l0.length ≤ c0) (h : agatelaw08_Of.f k l0 = some r) :
  Calls Tryz.prog 15 #[.slice A0 l0.length c0] w fun e w' => ∃ v0_ : Value, e = .returned (v0_) ∧ Kd.R k91 91 w' w.heap.size (fun _ => True) v0_ r ∧ Below w.heap.size w w' := by
 have hu50 := Tryz.underlying50; have HR0 := mk0 hr0; have HC0 := mk0 hc0; clear hr0 hc0; have HB := mk0 (Below.refl w.heap.size w); have H : (agatelaw08_Of.l0 k ([] : List (S91)) l0 (l0.length : Int) 0) = some r := h; clear h; have H' := mk0 H; clear H
 go_enter Tryz.func15, Tryz.ntmps15
 go_wp2
 go_loopg [3, 8] k (fun kq v3 v8 w' => ∃ (x3_1 : List (S91)) (x8_1 : Int), v8 = .int .i64 x8_1 ∧ Aside0 (agatelaw08_Of.l0 kq x3_1 l0 (l0.length : Int) x8_1 = some r) ∧ Aside0 (kq ≤ k) ∧ Aside0 (Kd.R k91 91 w' w.heap.size (fun _ => True) v3 x3_1) ∧ Aside0 (Below w.heap.size w w'))
 case atStart => exact ⟨(([] : List (S91))), (0), cl0, H', ⟨Nat.le_refl _⟩, ⟨by first | exact Kd.R_nil _ _ _ _ _ | exact Kd.N_nil _ _ _ _ _ | exact Kd.V_nil _ _ _ _ _ | exact Kd.Q_nil _ _ _ _ _ | exact Kd.S_nil _ _ _ _ _⟩, ⟨hbA HB⟩⟩
 case round =>
  clear H'; obtain ⟨x3_1, x8_1, rfl, HA, HK1, HO_3, HB⟩ := hrel
  cases gk with
  | zero => exact absurd HA.out (by simp [agatelaw08_Of.l0])
  | succ k1 =>
   have H := HA.out; clear HA
   simp only [agatelaw08_Of.l0] at H
   by_cases c2 : x8_1 < (l0.length : Int)
   ·
    rw [if_pos c2] at H; have c2b0 := decide_eq_true c2; clear c2; replace H := ifS H; obtain ⟨c3, H⟩ := H; have c3b0 := decide_eq_true c3; clear c3
    by_cases c4 : x8_1 < (l0.length : Int)
    ·
     rw [if_pos c4] at H; have c4b0 := decide_eq_true c4; clear c4; replace H := ifS H; obtain ⟨c5, H⟩ := H; have LMc5 := mk0 c5; clear c5; obtain ⟨y103, hy103⟩ : ∃ y_ : List (S91), y_ = (x3_1 ++ [(⟨(rd_T50 l0 x8_1).f0, (rd_T50 l0 x8_1).f1⟩ : S91)]) := ⟨_, rfl⟩; replace H : (agatelaw08_Of.l0 k1 y103 l0 (l0.length : Int) (wrap64 (x8_1 + 1))) = some r := by first | (rw [hy103]; with_reducible exact H) | (have H2_ := (Option.bind_some _ _).symm.trans H; rw [hy103]; with_reducible exact H2_) | (have H2_ := (Option.bind_some _ _).symm.trans H; with_reducible exact H2_) | with_reducible exact H | (rw [hy103]; exact H) | exact H
     have Ny103 := mk0 hy103; clear hy103; have H' := mk0 H; clear H; have p101 : 0 ≤ (x8_1 : Int) := ofd; have q101 : x8_1 < (l0.length : Int) := ofd; obtain ⟨ad101, e101, hx101_0, hx101_1⟩ := at_T50 HR0.out x8_1 p101 q101; cases e101; replace hx101_0 := hbc HB hx101_0; replace hx101_1 := hbc HB hx101_1; replace p101 := eq_true p101; replace q101 := eq_true q101
     go_wp2_with (first | ((with_reducible refine gate_dst (N := 5) rfl ?_); refine boxE (N := 5) (cs := #[.string (⟨#[]⟩ : ByteArray), .string (⟨#[]⟩ : ByteArray)]) (t := 50) ?_; intro gb102 hg w6 hbox hb; replace HO_3 := mk0 (Kd.R_below (krA HO_3) hb); have BK102 := mk0 hbox; have GW102 := gwS HB hg; have GE102 := gwS HB hg; replace HB := hbS HB hb; clear hb hbox hg; obtain ⟨hcz7_0, hcz7_1⟩ := cz2 BK102; have hfz7_0 := fz BK102 0; have hfz7_1 := fz BK102 1) | ((with_reducible refine gate_builtin (b := .append) (xs := #[.tmp 12, .tmp 14]) rfl ?_); at_builtin; refine Kd.R_append k91 (w0 := w) w.heap.size rfl (.tmp 12) (.tmp 14) 26 91 (.agg #[(.string ⟨#[]⟩), (.string ⟨#[]⟩)]) 32 rfl Tryz.underlying26 info91 rfl (by decide) (by omega) u3 x3_1 (⟨(rd_T50 l0 x8_1).f0, (rd_T50 l0 x8_1).f1⟩ : S91) [.string ((rd_T50 l0 x8_1).f0), .string ((rd_T50 l0 x8_1).f1)] (fun _ => True) (fun _ => False) rfl (by first | (go_simp; done) | (go_simp; rfl)) ?aP (fun _ hk => hk.elim) ?aF ?aO ?aB ?aS ?aL ?_; (case aP => exact k91_mkM _ _ _ (⟨(rd_T50 l0 x8_1).f0, (rd_T50 l0 x8_1).f1⟩ : S91)); (case aB => exact (hbA HB)); (case aF => exact (fun _ _ => trivial)); (case aO => exact (by (with_reducible repeat (first | apply Kd.R_alloc | apply Kd.R_drewN | apply Kd.R_drew)); exact Kd.R_mono (Kd.R_far (p := ⟨gb102, 1, none⟩) (Kd.R_far (p := ⟨gb102, 0, none⟩) (Kd.R_types HO_3.out BK102.out (by decide)) (fun _ hk => hk.2) (.string ((rd_T50 l0 x8_1).f0))) (fun _ hk => hk.2) (.string ((rd_T50 l0 x8_1).f1))) (fun _ hk => trivial))); (case aS => exact (below_size (hbA HB))); (case aL => have := LMc5.out; omega); intro v104 w8 ho hb hg hat; rw [← Ny103.out] at ho; replace BK102 := mk0 (blk_grown (g := gb102) (o := .cells #[.string ((rd_T50 l0 x8_1).f0), .string ((rd_T50 l0 x8_1).f1)] 50 (0, 0)) (bkW BK102) hg (Kd.R_ne HO_3.out BK102.out (by decide))); replace HB := mk0 hb; have HO105 := mk0 ho; clear HO_3; clear ho hb hg hat))
     go_roundg k1
     case measure => have := HK1.out; omega
     case rel => exact ⟨(y103), (wrap64 (x8_1 + 1)), cl0, H', cl2 HK1, ⟨krA HO105⟩, ⟨hbA HB⟩⟩
    ·
     exact absurd (of_decide_eq_true c2b0) c4
   ·
    rw [if_neg c2] at H; have c2b0 := decide_eq_false c2; clear c2; obtain rfl := Option.some.inj H
    go_wp2
    go_ret
    exact ⟨_, cl3, krA HO_3, hbA HB⟩
end Go.Proofs.YtgmggompdidcoaaGreatDoor.X
