import Derived.Test.YtgmggompdidcoaaGreatDoorMPbtensorReads5
import Derived.WideMake
namespace Go.Proofs.YtgmggompdidcoaaGreatDoor.X
open Go.RowKit Go.Proofs.YtgmggompdidcoaaGreatDoorW.aX Go.Proofs.YtgmggompdidcoaaGreatDoorW.bJ Go.Proofs.YtgmggompdidcoaaGreatDoorW.bK
attribute [local go_sem] bO bQ bS bU bM bN bP bR
set_option linter.unusedVariables false
set_option linter.unusedSimpArgs false
set_option maxHeartbeats 8000000
set_option maxRecDepth 100000
section
section
variable {P : Program} {α : Type}
def aCW (ok : Bool) (L9 : World → World → Prop) (I Ix : World → Prop) (W : World) : Exit → Act → World → Prop
 | .normal, _, W' => ok = true ∧ KeepsOthers W W' ∧ L9 W W' ∧ I W'
 | .ret, _, W' => ok = false ∧ KeepsOthers W W' ∧ Ix W'
 | _, _, _ => False
theorem Xz {g : Operand} {ps : Array Tmp} {assign body : Code} {Q : Exit → Act → World → Prop} {a : Act} {w : World} {n : Nat} (h1 : 1 ≤ n) {gf : Nat} {lb : Array Value}
 (hg : a.eval g = .func (.func gf) #[] lb) (eg : ∀ args w, (callFunc gf args).run P w = .ok (.enter gf args) w) (enc : α → Value) (hps : ps.size = 1) (yR : α → Bool) (all : Bool) (cell : Addr) (hcell : cell.block < w.heap.size) (L9 : World → World → Prop)
 (aEi : ∀ (l : Nat) (J Jx : World → Prop) (W : World), (∀ W v, J W → J (W.setCell cell v)) →
  (∀ x W, J W → YieldAt Fence.wide (n - 1 - 1) P l #[enc x] W fun e W' => (yR x = true ∧ e = .returned (.bool true) ∧ J W' ∧ L9 W W') ∨ (yR x = false ∧ e = .returned (.bool false) ∧ Jx W')) →
  Below w.heap.size w W → J W → CallsIn Fence.wide (n - 1) P gf (#[.func (.yield l) #[] #[]] ++ lb) W fun e W' => (∃ v, e = .returned v) ∧ ((all = true ∧ J W') ∨ (all = false ∧ Jx W')))
 (I Ix : World → Prop) (hIc : ∀ W v, I W → I (W.setCell cell v)) (Rb : ∀ W o, w.heap.size ≤ W.heap.size → I W → I (W.alloc o))
 (Ao : ∀ W l o o', w.heap.size ≤ l → W.heap[l]? = some o → o.isCells = false → I W → I (W.putObj l o'))
 (Rf : ∀ W l o o', w.heap.size ≤ l → W.heap[l]? = some o → o.isCells = false → Ix W → Ix (W.putObj l o'))
 (hKt : ∀ {A B C : World}, L9 A B → L9 B C → L9 A C) (Re : ∀ (W : World) (l : Nat) (o o' : Obj), w.heap.size ≤ l → W.heap[l]? = some o → L9 W (W.putObj l o')) (h0 : I w)
 (Sm : α → Act) (hassign : ∀ (l : Nat) (x : α) (W : World) (K : Act → World → Prop), K (Sm x) W →
  assign.wpIn (Fence.wide.inRound l) (n - 1 - 1) P (Exit.then K (fun _ _ _ => False)) { tmps := (ps.zip #[enc x]).foldl (fun t (p, v) => t.setIfInBounds p v) a.tmps, defers := [] } W)
 (hbody : ∀ (l : Nat) (x : α) (W : World), I W → w.heap.size ≤ W.heap.size → body.wpIn (Fence.wide.inRound l) (n - 1 - 1) P (aCW (yR x) L9 I Ix W) (Sm x) W)
 (hdone : ∀ (D : Nat) (W : World), all = true → w.heap.size ≤ D → I W → W.heap[D]? = some (.deferred (some [])) → Q .normal { a with defers := { target := .collected D, args := #[] } :: a.defers } W)
 (hstop : ∀ (D : Nat) (W : World), all = false → w.heap.size ≤ D → Ix W → W.heap[D]? = some (.deferred (some [])) → Code.ret.wpIn Fence.wide n P Q { a with defers := { target := .collected D, args := #[] } :: a.defers } W) :
 (Code.rangeFunc g ps assign body).wpIn Fence.wide n P Q a w := by
 refine wpIn_rangeFunc ?_
 intro fn hfn
 obtain ⟨rec, hrec⟩ : ∃ rec : LoopState → Option Code → Loop, rec = fun st pe => { state := st, pending := pe, fn, tmps := a.tmps, params := ps, assign, body, defers := w.heap.size } := ⟨_, rfl⟩
 obtain ⟨W1, hW1⟩ : ∃ W1, (w.alloc (.deferred (some []))).alloc (.loop (rec .ready none)) = W1 := ⟨_, rfl⟩
 have hL1 : W1.heap[w.heap.size + 1]? = some (.loop (rec .ready none)) := by
  rw [← hW1]; have := World.alloc_heap_new (w.alloc (.deferred (some []))) (.loop (rec .ready none)); rwa [World.size_alloc] at this
 have hD1 : W1.heap[w.heap.size]? = some (.deferred (some [])) := by
  rw [← hW1]; exact (Below.heap_alloc _ _ _ (by simp)).trans (World.alloc_heap_new w _)
 have hI1 : I W1 := by rw [← hW1]; exact Rb _ _ (by simp) (Rb _ _ (Nat.le_refl _) h0)
 have hb1 : Below w.heap.size w W1 := by rw [← hW1]; exact ((Below.refl _ w).alloc (Nat.le_refl _) _).alloc (by simp) _
 refine ⟨w.heap.size + 1, [{ target := .collected w.heap.size, args := #[] }], W1, { target := .fn (.func gf) lb, args := #[.func (.yield (w.heap.size + 1)) #[] #[]] }, W1, gf,
  #[.func (.yield (w.heap.size + 1)) #[] #[]] ++ lb, W1, ?_, ?_, fun _ _ => trivial, ?_, fun _ => h1, ?_⟩
 · rw [← hW1, hrec]; exact run_enterLoop_outer _ _ _ _ _
 · simp only [resolve, hg]
   simp [go_sem]
 · simp [invoke, go_sem, eg]
 have far : ∀ {W : World} {k : Nat} {o : Obj} (v : Value), k ≠ cell.block → W.heap[k]? = some o → (W.setCell cell v).heap[k]? = some o := fun v hk h => (Below.heap_setCell _ cell v _ hk).trans h
 refine (aEi (w.heap.size + 1)
  (fun W => (I W ∧ w.heap.size ≤ W.heap.size) ∧ W.heap[w.heap.size + 1]? = some (.loop (rec .ready none)) ∧ W.heap[w.heap.size]? = some (.deferred (some [])))
  (fun W => Ix W ∧ W.heap[w.heap.size + 1]? = some (.loop (rec .done (some .ret))) ∧ W.heap[w.heap.size]? = some (.deferred (some [])))
  W1 (fun W v hj => ⟨⟨hIc W v hj.1.1, by simpa [World.setCell] using hj.1.2⟩, far v (by omega) hj.2.1, far v (by omega) hj.2.2⟩) ?_ hb1 ⟨⟨hI1, hb1.size⟩, hL1, hD1⟩).mono ?_
 · rintro x W ⟨⟨hi, hz⟩, hl, hk⟩
   have hlt : w.heap.size + 1 < W.heap.size := (Array.getElem?_eq_some_iff.1 hl).1
   have hy := run_yield (P := P) (args := #[enc x]) hl (by rw [hrec]; exact hps.symm)
   rw [hrec] at hy
   refine ⟨fn, _, assign, body, hy, roundIn_of_wpIn hfn (hassign _ x W _ ⟨_, run_beginRound hl (by rw [hrec]), ?_⟩)⟩
   have hl2 : (W.putObj (w.heap.size + 1) (.loop { rec .ready none with state := .busy })).heap[w.heap.size + 1]? = some (.loop { rec .ready none with state := .busy }) := World.putObj_heap_same hlt
   have hk2 : (W.putObj (w.heap.size + 1) (.loop { rec .ready none with state := .busy })).heap[w.heap.size]? = some (.deferred (some [])) := (World.putObj_heap_other (by omega)).trans hk
   have fin : ∀ (jump : Option Code) (W3 : World), KeepsOthers (W.putObj (w.heap.size + 1) (.loop { rec .ready none with state := .busy })) W3 →
    (Instr.endRound (w.heap.size + 1) jump).run P W3 = .ok (.bool jump.isNone) (W3.putObj (w.heap.size + 1) (.loop (rec (if jump.isNone then .ready else .done) jump))) ∧
    W3.heap[w.heap.size + 1]? = some (.loop { rec .ready none with state := .busy }) ∧
    (W3.putObj (w.heap.size + 1) (.loop (rec (if jump.isNone then .ready else .done) jump))).heap[w.heap.size + 1]? = some (.loop (rec (if jump.isNone then .ready else .done) jump)) ∧
    (W3.putObj (w.heap.size + 1) (.loop (rec (if jump.isNone then .ready else .done) jump))).heap[w.heap.size]? = some (.deferred (some [])) ∧ w.heap.size ≤ W3.heap.size := fun jump W3 hk3 => by
    have hl3 := hk3.same _ _ hl2 rfl
    have := run_endRound (P := P) jump hl3
    rw [hrec] at this ⊢
    exact ⟨this, by rw [hrec] at hl3; exact hl3, World.putObj_heap_same (Array.getElem?_eq_some_iff.1 hl3).1, (World.putObj_heap_other (by omega)).trans (hk3.same _ _ hk2 rfl), by have := (Array.getElem?_eq_some_iff.1 hl3).1; omega⟩
   refine wpIn_mono (hbody _ x _ (Ao _ _ _ _ (by omega) hl rfl hi) (by simpa using hz)) ?_
   rintro e a3 W3 hp
   cases e with
   | normal =>
    obtain ⟨hok, hk3, hkp3, hi3⟩ := hp
    obtain ⟨hr, hl3, hl4, hk4, hz3⟩ := fin none W3 hk3
    exact ⟨_, _, hr, .inl ⟨hok, rfl, ⟨⟨Ao _ _ _ _ (by omega) hl3 rfl hi3, by simpa using hz3⟩, hl4, hk4⟩, hKt (hKt (Re _ _ _ _ (by omega) hl) hkp3) (Re _ _ _ _ (by omega) hl3)⟩⟩
   | ret =>
    obtain ⟨hok, hk3, hi3⟩ := hp
    obtain ⟨hr, hl3, hl4, hk4, hz3⟩ := fin (some .ret) W3 hk3
    exact ⟨_, _, hr, .inr ⟨hok, rfl, Rf _ _ _ _ (by omega) hl3 rfl hi3, hl4, hk4⟩⟩
   | exit id => exact hp.elim
   | goto t => exact hp.elim
   | panic ch => exact hp.elim
   | outgrown => exact hp.elim
 · rintro e W2 ⟨⟨v, rfl⟩, (⟨hall, ⟨hi, _⟩, hl, hk⟩ | ⟨hall, hi, hl, hk⟩)⟩
   · exact ⟨none, _, by have := run_endLoop (P := P) hl (by rw [hrec]; simp); rw [hrec] at this; exact this, hdone _ _ hall (Nat.le_refl _) (Ao _ _ _ _ (by omega) hl rfl hi) ((World.putObj_heap_other (by omega)).trans hk)⟩
   · exact ⟨some .ret, _, by have := run_endLoop (P := P) hl (by rw [hrec]; simp); rw [hrec] at this; exact this, hstop _ _ hall (Nat.le_refl _) (Rf _ _ _ _ (by omega) hl rfl hi) ((World.putObj_heap_other (by omega)).trans hk)⟩
end
end
section
def yQ (c : Int) : Bool := decide (97 ≤ c ∧ c ≤ 122 ∨ 65 ≤ c ∧ c ≤ 90 ∨ 48 ≤ c ∧ c ≤ 57 ∨ c = 46 ∨ c = 95 ∨ c = 45)
def IL : Nat → ByteArray → Int → Bool
 | 0, _, _ => true
 | d + 1, s, i => yQ (bt s i) && IL d s (i + 1)
def FM (s : ByteArray) : Bool := if s.toList = [] then false else if s.toList = [46] then false else s.toList != [46, 46]
def xG (s : ByteArray) : Bool := IL s.size s 0 && FM s
theorem YM {α : Type} {p : Prop} [Decidable p] {x y z : α} (h1 : p → x = z) (h2 : ¬p → y = z) : (if p then x else y) = z := by
 by_cases h : p
 · rw [ip h]; exact h1 h
 · rw [iN h]; exact h2 h
theorem aDk (s : ByteArray) (hs : s.size ≤ 140737488351232) (d : Nat) : ∀ (k : Nat) (i : Int), 0 ≤ i → i + d = s.size → d < k → jW.l0 k s (s.size : Int) i = some (IL d s i && FM s) := by
 induction d with
 | zero =>
  intro k i h0 h1 hk
  obtain ⟨k, rfl⟩ : ∃ m, k = m + 1 := ⟨k - 1, by omega⟩
  rw [jW.l0, iN (by omega)]
  unfold IL FM
  rw [Bool.true_and]
  split
  · rfl
  · split
    · rfl
    · rfl
 | succ d ih =>
  intro k i h0 h1 hk
  obtain ⟨k, rfl⟩ : ∃ m, k = m + 1 := ⟨k - 1, by omega⟩
  rw [jW.l0, ip (by omega), ip h0, ip (by omega)]
  have hw : wrap64 (i + 1) = i + 1 := by unfold wrap64; omega
  have hr := ih k (i + 1) (by omega) (by omega) (by omega)
  rw [hw, hr]
  rw [IL]
  generalize bt s i = c
  generalize IL d s (i + 1) = A
  generalize FM s = E
  cases h : yQ c with
  | true =>
   have h' := of_decide_eq_true h
   rw [Bool.true_and]
   repeat' first | rfl | (refine YM (fun _ => ?_) (fun _ => ?_))
   all_goals (exfalso; omega)
  | false =>
   have h' := of_decide_eq_false h
   rw [Bool.false_and, Bool.false_and]
   repeat' first | rfl | (refine YM (fun _ => ?_) (fun _ => ?_))
   all_goals (exfalso; omega)
theorem aDj (s : ByteArray) (hs : s.size ≤ 140737488351232) : jW.f (s.size + 1) s = some (xG s) := aDk s hs s.size (s.size + 1) 0 (by omega) (by omega) (by omega)
def yF (s : ByteArray) : Bool := (pieces s).all xG && decide (s.size ≤ 255)
theorem aAA (s : ByteArray) (hs : s.size ≤ 140737488351232) (w : World) : Calls Tryz.prog 78 #[.string s] w fun e w' => e = .returned (.bool (xG s)) ∧ fG w w' := jW.calls _ s _ w (aDj s hs)
attribute [local go_sem] Oper.semAt_some
theorem Cz (W : World) (n : Nat) : KeepsOthers W (W.drewN n) := ⟨Nat.le_refl _, fun _ _ h _ => h⟩
theorem ay (s : ByteArray) (hs : s.size ≤ 140737488351232) (w : World) : Calls Tryz.prog 41 #[.string s] w fun e w' => e = .returned (.bool (yF s)) ∧ Below w.heap.size w w' := by
 refine (callsIn_wide (n := 4)).1 ?_
 refine callsIn_of_wp_marks Tryz.func41 rfl trivial ?_ rfl
 simp only [Tryz.ntmps41, List.size_toArray, List.length_cons, List.length_nil, Nat.reduceAdd, Nat.reduceSub, Array.replicate_succ, Array.replicate_zero, List.push_toArray, List.append_toArray, List.nil_append, List.cons_append]
 gi_wp2_with (refine ⟨trivial, ?_⟩; gi_at_call 77; refine (callsIn_wide.2 (Ve _ _)).mono ?_; rintro e w1 ⟨rfl, hS, hz, hb⟩)
 have hsz0 : (w.alloc (.cells #[.bool false] 4)).heap.size = w.heap.size + 1 := World.size_alloc _ _
 have hB0 : Below w.heap.size w w1 := ((Below.refl _ w).alloc (Nat.le_refl _) _).trans (hb.mono (by omega))
 have hc0 : w1.heap[w.heap.size]? = some (.cells #[.bool false] 4 (0, 0)) := (hb.block _ (by omega)).trans (World.alloc_heap_new w _)
 rw [hsz0] at hS hz
 have HS := aC.mk hS
 have HB := aC.mk hB0
 have HC := aC.mk hc0
 have HZ := aC.mk hz
 clear hS hB0 hc0 hb hsz0 hz
 have hcell : (⟨w.heap.size + 1, 0, none⟩ : Addr).block < w1.heap.size := by rw [HZ.out]; show w.heap.size + 1 < _; omega
 refine Xz (α := { x : ByteArray // x.size ≤ 140737488351232 }) (by omega) (gf := 105) (lb := #[.pointer (some ⟨w.heap.size + 1 + 1, 0, none⟩), .pointer (some ⟨w.heap.size + 1, 0, none⟩), .pointer (some ⟨w.heap.size + 1 + 2, 0, none⟩)]) rfl (enters_of Tryz.func105 (by kernel_rfl) rfl)
  (fun x => .string x.1) rfl (fun x => xG x.1) ((pieces s).all xG) ⟨w.heap.size + 1, 0, none⟩ hcell
  (fun W W' => ∀ t, AP W (w.heap.size + 1 + 1) (w.heap.size + 1) (w.heap.size + 1 + 2) t → AP W' (w.heap.size + 1 + 1) (w.heap.size + 1) (w.heap.size + 1 + 2) t)
  ?iter (fun W => Below w.heap.size w W ∧ W.heap[w.heap.size]? = some (.cells #[.bool false] 4 (0, 0))) (fun W => Below w.heap.size w W ∧ W.heap[w.heap.size]? = some (.cells #[.bool false] 4 (0, 0)))
  (fun W v h => ⟨h.1.setCell (by show _ ≤ w.heap.size + 1; omega) _, PV h.2 (by show w.heap.size ≠ w.heap.size + 1; omega) _⟩)
  (fun W o hW h => ⟨h.1.alloc h.1.size _, DV h.2 _⟩)
  ?aFt ?aEp (fun h1 h2 t h => h2 t (h1 t h)) ?keep ⟨HB.out, HC.out⟩
  (fun x => { tmps := #[.string s, undef, .pointer (some ⟨w.heap.size, 0, none⟩), .string x.1, .string s,
   .func (.func 105) #[] #[.pointer (some ⟨w.heap.size + 1 + 1, 0, none⟩), .pointer (some ⟨w.heap.size + 1, 0, none⟩), .pointer (some ⟨w.heap.size + 1 + 2, 0, none⟩)], .string x.1, undef, undef, undef, undef, undef, undef], defers := [] }) ?assign ?body ?done ?stop
 case iter =>
  intro l J Jx W hJ hY hbW h0
  exact Zr l 3 (w.heap.size + 1 + 1) (w.heap.size + 1) (w.heap.size + 1 + 2) (by omega) xG J Jx (by omega) (by omega) hJ (fun x hx W1 h1 => hY ⟨x, hx⟩ W1 h1) s hs W h0
   (Vy HS.out hbW (by rw [HZ.out]; omega) (by rw [HZ.out]; omega) (by rw [HZ.out]; omega))
 case aFt =>
  intro W l o o' hl ho hc h
  have hlt := (Array.getElem?_eq_some_iff.1 ho).1
  exact ⟨h.1.grown (grownBy_putObj' W l o') (by have := h.1.size; omega) (fun k e => by cases e; rw [HZ.out] at hl; omega), (World.putObj_heap_other (by rw [HZ.out] at hl; omega)).trans h.2⟩
 case aEp =>
  intro W l o o' hl ho hc h
  have hlt := (Array.getElem?_eq_some_iff.1 ho).1
  exact ⟨h.1.grown (grownBy_putObj' W l o') (by have := h.1.size; omega) (fun k e => by cases e; rw [HZ.out] at hl; omega), (World.putObj_heap_other (by rw [HZ.out] at hl; omega)).trans h.2⟩
 case keep =>
  intro W l o o' hl ho t h
  rw [HZ.out] at hl
  exact ⟨(World.putObj_heap_other (by omega)).trans h.1, (World.putObj_heap_other (by omega)).trans h.2.1, (World.putObj_heap_other (by omega)).trans h.2.2⟩
 case assign =>
  intro l x W K hK
  gi_wp2
  exact hK
 case body =>
  rintro l ⟨x, hx⟩ W ⟨hBW, hcW⟩ hzW
  have hc1 : W.cell? ⟨w.heap.size, 0, none⟩ = some (.bool false) := aM hcW 0
  have hf1 : W.frozen? ⟨w.heap.size, 0, none⟩ = false := eZ hcW 0
  have MJ := aC.mk hBW
  have RG := aC.mk hcW
  have HP := aC.mk (aAA x hx)
  obtain ⟨pb, hpb⟩ : ∃ pb, xG x = pb := ⟨_, rfl⟩
  have Qf := aC.mk hpb
  rw [hpb] at HP
  clear hBW hcW hzW hpb
  cases pb with
  | true =>
   gi_wp2_with (refine ⟨trivial, ?_⟩; gi_at_call 78; refine (CallsIn.inRound l (callsIn_wide.2 (HP.out _))).mono ?_; rintro e W2 ⟨rfl, ⟨nd, rfl⟩⟩)
   exact ⟨Qf.out, Cz _ _, fun t h => h, ⟨nS MJ.out nd, RG.out⟩⟩
  | false =>
   gi_wp2_with (refine ⟨trivial, ?_⟩; gi_at_call 78; refine (CallsIn.inRound l (callsIn_wide.2 (HP.out _))).mono ?_; rintro e W2 ⟨rfl, ⟨nd, rfl⟩⟩)
   exact ⟨Qf.out, (Cz _ _).trans (KeepsOthers.setCell _ _ _), ⟨(nS MJ.out nd).setCell (Nat.le_refl _) _, lH (w := W.drewN nd) RG.out 0 _ rfl⟩⟩
 case done =>
  rintro D W hall hD ⟨hBW, hcW⟩ hK
  have hc1 : W.cell? ⟨w.heap.size, 0, none⟩ = some (.bool false) := aM hcW 0
  have hf1 : W.frozen? ⟨w.heap.size, 0, none⟩ = false := eZ hcW 0
  have hm : s.size ≤ 9223372036854775807 := by omega
  have MJ := aC.mk hBW
  have RG := aC.mk hcW
  have HD := aC.mk hD
  have HA := aC.mk hall
  have HK := aC.mk hK
  clear hBW hcW hD hall hK
  gi_wp2
  have hK' := (KeepsOthers.setCell W ⟨w.heap.size, 0, none⟩ (.bool (decide ((s.size : Int) ≤ 255)))).same D _ HK.out rfl
  have hne : w.heap.size ≠ D := by have := HD.out; have := HZ.out; omega
  have hcell2 : ((W.setCell ⟨w.heap.size, 0, none⟩ (.bool (decide ((s.size : Int) ≤ 255)))).putObj D (.deferred none)).heap[w.heap.size]? = some (.cells #[.bool (decide ((s.size : Int) ≤ 255))] 4 (0, 0)) := (World.putObj_heap_other hne).trans (lH RG.out 0 _ rfl)
  refine ⟨by simp, .inl ⟨_, _, rfl, run_takeDeferred hK', ?_⟩⟩
  have Aq := aM hcell2 0
  refine ⟨.bool (decide ((s.size : Int) ≤ 255)), ?_, ?_, ?_⟩
  · simp [results, Tryz.f41, go_sem, Aq]
  · unfold yF; rw [HA.out, Bool.true_and]; congr 2; exact decide_eq_decide.2 (by omega)
  · have hlt := (Array.getElem?_eq_some_iff.1 hK').1
    exact (MJ.out.setCell (Nat.le_refl _) _).grown (grownBy_putObj' _ D _) (by have := (MJ.out.setCell (p := ⟨w.heap.size, 0, none⟩) (Nat.le_refl _) (.bool (decide ((s.size : Int) ≤ 255)))).size; omega) (fun k e => by cases e; have := HD.out; have := HZ.out; omega)
 case stop =>
  rintro D W hall hD ⟨hBW, hcW⟩ hK
  have MJ := aC.mk hBW
  have RG := aC.mk hcW
  have HD := aC.mk hD
  have HA := aC.mk hall
  have HK := aC.mk hK
  clear hBW hcW hD hall hK
  gi_wp2
  have hne : w.heap.size ≠ D := by have := HD.out; have := HZ.out; omega
  have hcell2 : (W.putObj D (.deferred none)).heap[w.heap.size]? = some (.cells #[.bool false] 4 (0, 0)) := (World.putObj_heap_other hne).trans RG.out
  refine ⟨by simp, .inl ⟨_, _, rfl, run_takeDeferred HK.out, ?_⟩⟩
  have Aq := aM hcell2 0
  refine ⟨.bool false, ?_, ?_, ?_⟩
  · simp [results, Tryz.f41, go_sem, Aq]
  · unfold yF; rw [HA.out, Bool.false_and]
  · exact MJ.out.grown (grownBy_putObj' _ D _) (by have := MJ.out.size; have := (Array.getElem?_eq_some_iff.1 HK.out).1; omega) (fun k e => by cases e; have := HD.out; have := HZ.out; omega)
end
def fV (l : List jK) : List (ByteArray × ByteArray) := l.map (fun f => (f.f0, f.f1))
def I5 : List (ByteArray × ByteArray) → List jK → Int
 | _, [] => 0
 | met, f :: t => if yF f.f0 = true then (if (fB met f.f0).isSome = true then 14 else I5 (met ++ [(f.f0, f.f1)]) t) else 9
def BJ (l : List jK) : Int := if l.length > 64 then 7 else I5 [] l
theorem Zi {l : List (ByteArray × ByteArray)} {k : ByteArray} (v : ByteArray) (h : fB l k = none) : kK l k v = l ++ [(k, v)] := by
 rcases jq k v l 0 0 with ⟨_, _, _, h3⟩ | ⟨q, d, h0, _⟩
 · exact h3
 · rw [h] at h0; cases h0
def az (w : World) (l : List jK) (e : Ending) (w' : World) : Prop := ∃ m, e = .returned (.tuple #[.agg #[.map m], .int .i64 (BJ l)]) ∧ oZ w' m (if BJ l = 0 then fV l else []) ∧ Below w.heap.size w w'
theorem _0 {w w' : World} {l : List jK} {k : Int} (h : BJ l = k) (hk : k ≠ 0) (hb : Below w.heap.size w w') {e : Ending} (he : e = .returned (.tuple #[.agg #[.map none], .int .i64 k])) : az w l e w' :=
 ⟨none, by rw [he, h], .inl ⟨rfl, by rw [h, iN hk]⟩, hb⟩
theorem Wz {w w' : World} {l : List jK} {m : Nat} (h : BJ l = 0) (hb : Below w.heap.size w w') (hm : w'.heap[m]? = some (.map (pE (fV l)) l.length)) {e : Ending} (he : e = .returned (.tuple #[.agg #[.map (some m)], .int .i64 0])) : az w l e w' :=
 ⟨some m, by rw [he, h], .inr ⟨m, rfl, by rw [h, ip rfl]; unfold fV at hm ⊢; rw [List.length_map]; exact hm⟩, hb⟩
theorem Gq (l : List jK) (i : Nat) (h : i < l.length) : fV (l.take (i + 1)) = fV (l.take i) ++ [(l[i].f0, l[i].f1)] := by
 unfold fV
 rw [List.take_succ_eq_append_getElem h, List.map_append]; rfl
theorem EC {W : World} {g : Nat} {o : Obj} {p : Addr} {v : Value} (h : W.heap[g]? = some o) (ne : aC (g ≠ p.block)) : (W.setCell p v).heap[g]? = some o := (Below.heap_setCell _ _ _ _ ne.out).trans h
theorem aAZ (A : Option Addr) (c : Nat) (l : List jK) (w : World) (hr : Kd.C JB w A l.length l) (hc : l.length ≤ c) (hk : ∀ f ∈ l, f.f0.size ≤ 140737488351232) :
 Calls Tryz.prog 14 #[.slice A l.length c] w (az w l) := by
 have hu := Tryz.underlying25
 have hu2 := Tryz.underlying50
 have HR := aC.mk hr
 have HL := aC.mk hr.2.1
 have HK := aC.mk hk
 have HB := aC.mk (Below.refl w.heap.size w)
 clear hr hc hk
 go_enter Tryz.func14, Tryz.ntmps14
 by_cases h64 : l.length > 64
 · have b64 : decide (64 < (l.length : Int)) = true := dT (by omega)
   have HX := aC.mk (show BJ l = 7 from ip h64)
   clear h64
   go_wp2_with (first | ((with_reducible refine cK (N := 2) rfl ?_); refine dB (N := 2) (cs := #[.map none]) (t := 25) ?_; intro MX hg w2 aG hb; have mP := aA aG; have VM := bB HB hg; replace HB := hbS HB hb; clear hb aG hg; have hc2 := iA mP; have hf2 := fz mP 0))
   refine bodyPost_ret (eP rfl _ _ MX 25 #[.map none] (0, 0) _ rfl (aU mP) Tryz.underlying25 rfl (by kernel_rfl)) rfl ?_
   exact _0 HX.out (by decide) (fD HB.out VM.out) rfl
 have b64 : decide (64 < (l.length : Int)) = false := dF (by omega)
 have HX := aC.mk (show BJ l = I5 [] l from iN h64)
 have H64 := aC.mk h64
 clear h64
 go_wp2_with (first | ((with_reducible refine cK (N := 2) rfl ?_); refine dB (N := 2) (cs := #[.map none]) (t := 25) ?_; intro MX hg w2 aG hb; have mP := aA aG; have VM := bB HB hg; replace HB := hbS HB hb; clear hb aG hg; have hc2 := iA mP; have hf2 := fz mP 0) | ((with_reducible refine cK (N := 13) rfl ?_); refine Ow (N := 13) ?_; intro gm hg w3 aG hb; have xL := aA aG; have GWm := bB HB hg; have Oi := cO mP hg; replace HB := hbS HB hb; replace mP := aI mP hb; clear hb aG hg) | ((with_reducible refine cK (N := 4) rfl ?_); refine dB (N := 4) (cs := #[.map none]) (t := 25) ?_; intro V6 hg w4 aG hb; have uA := aA aG; have GW4 := bB HB hg; have aId := cO mP hg; have aIf := dD mP hg; have Oj := cO xL hg; replace HB := hbS HB hb; replace mP := aI mP hb; replace xL := aI xL hb; clear hb aG hg hc2 hf2; have hc4 := iA uA; have hf4 := fz uA 0))
 go_loopg [17] l.length (fun kq v17 w' => ∃ i : Nat, v17 = .int .i64 i ∧ aC (i + kq = l.length) ∧ aC (I5 [] l = I5 (fV (l.take i)) (l.drop i)) ∧ aC (w'.heap[gm]? = some (.map (pE (fV (l.take i))) i)) ∧ aC (w'.heap[V6]? = some (.cells #[.map (some gm)] 25 (0, 0))) ∧ aC (w'.heap[MX]? = some (.cells #[.map none] 25 (0, 0))) ∧ aC (Below w.heap.size w w'))
 case atStart => exact ⟨0, rfl, ⟨by omega⟩, ⟨rfl⟩, ⟨(Below.heap_setCell _ ⟨V6, 0, none⟩ _ _ Oj.out).trans xL.out⟩, ⟨aU uA⟩, ⟨aU mP⟩, ⟨fD HB.out GW4.out⟩⟩
 case round =>
 clear mP xL uA HB hc4 hf4
 obtain ⟨i, rfl, HN, HE, xL, uA, mP, HB⟩ := hrel
 by_cases hlt : i < l.length
 · have hlt' : decide ((i : Int) < (l.length : Int)) = true := dT (by omega)
   obtain ⟨kk, rfl⟩ : ∃ m, gk = m + 1 := ⟨gk - 1, by have := HN.out; omega⟩
   have dL : 0 ≤ (i : Int) := Int.natCast_nonneg i
   have dM : (i : Int) < (l.length : Int) := by omega
   obtain ⟨lD, iM, gD, kR⟩ := jm (Kd.gN HR.out HB.out) (i : Int) dL dM
   cases iM
   rw [Int.toNat_natCast] at gD kR
   have hrd : rC l (i : Int) = l[i] := by simp [rC, hlt]
   rw [hrd] at gD kR
   have HS := aC.mk (Gq l i hlt)
   have Qb := aC.mk (HK.out l[i] (List.getElem_mem hlt))
   have HD := aC.mk (show l.drop i = l[i] :: l.drop (i + 1) from List.drop_eq_getElem_cons hlt)
   clear hrd
   generalize l[i] = x at gD kR HS Qb HD
   obtain ⟨x0, x1⟩ := x
   have HE2 := aC.mk (HE.out.trans (by rw [HD.out, I5]))
   clear HE HD
   have Hw : aC (wrap64 ((i : Int) + 1) = (i : Int) + 1) := ⟨by have := HL.out; exact fC (by omega) (by omega)⟩
   have HI := aC.mk hlt
   clear hlt
   replace dL := eT dL
   replace dM := eT dM
   obtain ⟨kb, hkb⟩ : ∃ kb, yF x0 = kb := ⟨_, rfl⟩
   have HC := aC.mk (ay x0 Qb.out)
   rw [hkb] at HC
   have Qa := aC.mk hkb
   clear hkb
   have FF : aC (HX.out.trans HE2.out = HX.out.trans HE2.out) := ⟨rfl⟩
   clear FF
   go_wp2_with (first | ((with_reducible refine cK (N := 6) rfl ?_); refine dB (N := 6) (cs := #[.string ⟨#[]⟩, .string ⟨#[]⟩]) (t := 50) ?_; intro Am hg w6 aG hb; have VG := aA aG; have Pp := bB HB hg; have aIe := cO mP hg; have aIg := cO uA hg; have Ol := cO xL hg; replace HB := hbS HB hb; replace mP := aI mP hb; replace uA := aI uA hb; replace xL := aI xL hb; clear hb aG hg; obtain ⟨d_, f_⟩ := yN VG; have uh := fz VG 0; have ui := fz VG 1))
   obtain ⟨w7, hw7⟩ : ∃ w7, w7 = (w6.setCell ⟨Am, 0, none⟩ (.string x0)).setCell ⟨Am, 1, none⟩ (.string x1) := ⟨_, rfl⟩
   rw [← hw7]
   replace HB := aA (show Below w.heap.size w w7 from by rw [hw7]; exact fD (fD HB.out Pp.out) Pp.out)
   have qj := aA (show w7.heap[Am]? = some (.cells #[.string x0, .string x1] 50 (0, 0)) from by rw [hw7]; exact aU VG)
   replace mP := aA (show w7.heap[MX]? = some (.cells #[.map none] 25 (0, 0)) from by rw [hw7]; exact aU mP)
   replace uA := aA (show w7.heap[V6]? = some (.cells #[.map (some gm)] 25 (0, 0)) from by rw [hw7]; exact aU uA)
   replace xL := aA (show w7.heap[gm]? = some (.map (pE (fV (l.take i))) i) from by rw [hw7]; exact EC (EC xL.out Ol) Ol)
   clear VG d_ f_ uh ui hw7
   refine (HC.out _).mono ?_
   rintro e w8 ⟨rfl, hb⟩
   replace qj := aI qj hb; replace mP := aI mP hb; replace uA := aI uA hb; replace xL := aI xL hb; replace HB := hbS HB hb
   clear hb
   have hc2 := iA mP; have hf2 := fz mP 0; have hc4 := iA uA
   obtain ⟨d_, f_⟩ := yN qj
   cases kb with
   | false =>
    have VV := aC.mk (HX.out.trans (HE2.out.trans (iN (by rw [Qa.out]; simp))))
    go_wp2
    refine bodyPost_ret (eP rfl _ _ MX 25 #[.map none] (0, 0) _ rfl (aU mP) Tryz.underlying25 rfl (by kernel_rfl)) rfl ?_
    exact _0 VV.out (by decide) (fD HB.out VM.out) rfl
   | true =>
    have EE := aC.mk (HE2.out.trans (ip Qa.out))
    clear HE2
    have hlk := SQ (W := w8) (m := some gm) (l := fV (l.take i)) (.inr ⟨gm, rfl, by have h := xL.out; rw [show (fV (l.take i)).length = i from by unfold fV; rw [List.length_map, List.length_take]; have := HI.out; omega]; exact h⟩) x0
    cases hg : fB (fV (l.take i)) x0 with
    | some d =>
     rw [hg] at hlk
     have VV := aC.mk (HX.out.trans (EE.out.trans (ip (by rw [hg]; rfl))))
     clear hg
     go_wp2
     refine bodyPost_ret (eP rfl _ _ MX 25 #[.map none] (0, 0) _ rfl (aU mP) Tryz.underlying25 rfl (by kernel_rfl)) rfl ?_
     exact _0 VV.out (by decide) (fD HB.out VM.out) rfl
    | none =>
     rw [hg] at hlk
     have VV := aC.mk (EE.out.trans (iN (by rw [hg]; simp)))
     have HP := aC.mk (Zi x1 hg)
     have hlen : (fV (l.take i)).length = i := by unfold fV; rw [List.length_map, List.length_take]; have := HI.out; omega
     obtain ⟨w9, hrun, jE, KR, hz9, pW⟩ := Lv (w := w) (W := w8) (fV (l.take i)) x0 x1 (by rw [hlen]; exact xL.out) GWm.out HB.out
     rw [HP.out] at jE
     have aEA := aC.mk (show w9.heap[gm]? = some (.map (pE (fV (l.take (i + 1)))) (i + 1)) from by rw [HS.out, jE, List.length_append, hlen]; rfl)
     have aEH := aC.mk (show I5 [] l = I5 (fV (l.take (i + 1))) (l.drop (i + 1)) from by rw [HS.out]; exact VV.out)
     have aEy := aC.mk ((pW V6 (Ne.symm Oj.out)).trans uA.out)
     have aEx := aC.mk ((pW MX Oi.out).trans mP.out)
     have xq := aC.mk KR
     clear hg EE hlen jE KR hz9 pW
     go_wp2
     go_roundg kk
     case measure => omega
     case rel => exact ⟨i + 1, by rw [Hw.out]; rfl, ⟨by have := HN.out; omega⟩, aEH, aEA, aEy, aEx, xq⟩
 · have hge : decide ((i : Int) < (l.length : Int)) = false := dF (by omega)
   have hi : i = l.length := by
    have := HN.out
    omega
   subst hi
   have HX0 := aC.mk (show BJ l = 0 from by rw [HX.out, HE.out, List.drop_length]; rfl)
   have aEz := aC.mk (show wr.heap[gm]? = some (.map (pE (fV l)) l.length) from by rw [← List.take_length (l := l)]; have h := xL.out; rw [List.take_length] at h ⊢; exact h)
   have hc2 := iA mP; have hf2 := fz mP 0; have hc4 := iA uA
   clear hlt
   go_wp2
   refine bodyPost_ret (eP rfl _ _ MX 25 #[.map (some gm)] (0, 0) _ rfl (aU mP) Tryz.underlying25 rfl (by kernel_rfl)) rfl ?_
   exact Wz HX0.out (fD HB.out VM.out) (EC aEz.out ⟨Ne.symm Oi.out⟩) rfl
def oV.f (a0 : Int) : Option Int := some (gF a0)
theorem oV.calls (a0 : Int) (r : Int) (w : World) (h : oV.f a0 = some r) :
 Calls Tryz.prog 56 #[.int .i64 a0] w fun e w' => e = .returned (.int .i64 r) ∧ Below w.heap.size w w' := by
 obtain rfl := Option.some.inj h
 exact Eo.calls a0 w
def vI.l0 : Nat → Int → List (dK) → List (dK) → Int → Int → Option ((List (dK)))
 | 0, _, _, _, _, _ => none
 | k + 1, x1, x5, x8, x9, jJ => if jJ < x9 then (if 0 ≤ jJ then (if jJ < (x8.length : Int) then (if ((bY x8 jJ).f0) = x1 then (if x5.length < 3518437208883 then (vI.l0 k x1 (x5 ++ [(⟨(bY x8 jJ).f0, (bY x8 jJ).f1, (bY x8 jJ).f2, (bY x8 jJ).f3⟩ : dK)]) x8 x9 (wrap64 (jJ + 1))) else (none)) else (vI.l0 k x1 x5 x8 x9 (wrap64 (jJ + 1)))) else (none)) else (none)) else (some x5)
def vI.f (k : Nat) (l0 : List (dK)) (a1 : Int) : Option ((List (dK))) := vI.l0 k a1 ([] : List (dK)) l0 (l0.length : Int) 0
theorem vI.calls (k : Nat) (A0 : Option Addr) (c0 : Nat) (l0 : List (dK)) (a1 : Int) (r : List (dK)) (w : World) (hr0 : Kd.C lN w A0 l0.length l0) (hc0 : l0.length ≤ c0) (h : vI.f k l0 a1 = some r) :
 Calls Tryz.prog 81 #[.slice A0 l0.length c0, .int .i64 a1] w fun e w' => ∃ gW : Value, e = .returned (gW) ∧ Kd.R lN 95 w' w.heap.size (fun _ => True) gW r ∧ Below w.heap.size w w' := by
 have EB := Tryz.underlying95; have fF := aA hr0; have oO := aA hc0; clear hr0 hc0; have HB := aA (Below.refl w.heap.size w); have H : (vI.l0 k a1 ([] : List (dK)) l0 (l0.length : Int) 0) = some r := h; clear h; have H' := aA H; clear H
 go_enter Tryz.func81, Tryz.ntmps81
 go_wp2
 go_loopg [5, 10] k (fun kq v5 v10 w' => ∃ (eU : List (dK)) (iQ : Int), v10 = .int .i64 iQ ∧ aC (vI.l0 kq a1 eU l0 (l0.length : Int) iQ = some r) ∧ aC (kq ≤ k) ∧ aC (Kd.R lN 95 w' w.heap.size (fun _ => True) v5 eU) ∧ aC (Below w.heap.size w w'))
 case atStart => exact ⟨(([] : List (dK))), (0), aZ, H', ⟨Nat.le_refl _⟩, ⟨nC⟩, ⟨aJ HB⟩⟩
 case round =>
  clear H'; obtain ⟨eU, iQ, rfl, HA, bD, qQ, HB⟩ := hrel
  cases gk with
  | zero => exact absurd HA.out (by simp [vI.l0])
  | succ k1 =>
   have H := HA.out; clear HA
   simp only [vI.l0] at H
   by_cases c3 : iQ < (l0.length : Int)
   ·
    rw [ip c3] at H; have gL := dT c3; clear c3; replace H := dU H; obtain ⟨c4, H⟩ := H; have fP := dT c4; clear c4
    by_cases c5 : iQ < (l0.length : Int)
    ·
     rw [ip c5] at H; have iH := dT c5; clear c5
     by_cases c6 : ((bY l0 iQ).f0) = a1
     ·
      rw [ip c6] at H; obtain ⟨kP, wD⟩ := dH c6; clear c6; replace H := dU H; obtain ⟨c7, H⟩ := H; have rq := aA c7; clear c7; obtain ⟨MF, vW⟩ : ∃ y_ : List (dK), y_ = (eU ++ [(⟨(bY l0 iQ).f0, (bY l0 iQ).f1, (bY l0 iQ).f2, (bY l0 iQ).f3⟩ : dK)]) := ⟨_, rfl⟩; replace H : (vI.l0 k1 a1 MF l0 (l0.length : Int) (wrap64 (iQ + 1))) = some r := by first | (rw [vW]; with_reducible exact H) | (have fI := (Option.bind_some _ _).symm.trans H; rw [vW]; with_reducible exact fI) | (have fI := (Option.bind_some _ _).symm.trans H; with_reducible exact fI) | with_reducible exact H | (rw [vW]; exact H) | exact H
      have UM := aA vW; clear vW; have H' := aA H; clear H; have dL : 0 ≤ (iQ : Int) := aK; have dM : iQ < (l0.length : Int) := aK; obtain ⟨lD, iM, gD, kR, pJ, pK⟩ := E8 fF.out iQ dL dM; cases iM; replace gD := hbc HB gD; replace kR := hbc HB kR; replace pJ := hbc HB pJ; replace pK := hbc HB pK; replace dL := eT dL; replace dM := eT dM
      go_wp2_with (first | ((with_reducible refine cK (N := 7) rfl ?_); refine dB (N := 7) (cs := #[.int .i64 0, .int .i64 0, .int .u64 0, .string ⟨#[]⟩]) (t := 95) ?_; intro iY hg w8 aG hb; replace qQ := aA (Kd.gU (Kd.zB (dZ qQ) iY (Nat.le_of_eq hg.symm)) hb); have bX := aA aG; have LU := bB HB hg; have LP := bB HB hg; replace HB := hbS HB hb; clear hb aG hg; obtain ⟨Lh, Li, Lj, Ll⟩ := aN bX; have aC8 := fz bX 0; have aC9 := fz bX 1; have aC' := fz bX 2; have aDa := fz bX 3) | ((with_reducible refine qD (b := .append) (xs := #[.tmp 18, .tmp 20]) rfl ?_); at_builtin; refine Kd.qZ lN (w0 := w) w.heap.size rfl (.tmp 18) (.tmp 20) 96 95 (.agg #[(.int .i64 0), (.int .i64 0), (.int .u64 0), (.string ⟨#[]⟩)]) 40 rfl Tryz.underlying96 Lm rfl (by decide) (by omega) u5 eU (⟨(bY l0 iQ).f0, (bY l0 iQ).f1, (bY l0 iQ).f2, (bY l0 iQ).f3⟩ : dK) [.int .i64 ((bY l0 iQ).f0), .int .i64 ((bY l0 iQ).f1), .int .u64 ((bY l0 iQ).f2), .string ((bY l0 iQ).f3)] (fun k_ => k_ ≠ iY) (fun _ => False) rfl (by first | (go_simp; done) | (go_simp; rfl)) ?aP (fun _ hk => hk.elim) ?aF ?aO ?aB ?aS ?aL ?_; (case aP => exact LG _ _ _ (⟨(bY l0 iQ).f0, (bY l0 iQ).f1, (bY l0 iQ).f2, (bY l0 iQ).f3⟩ : dK)); (case aB => exact (aJ HB)); (case aF => exact (fun k_ hk => Kd.UC (g := iY) (o := .cells #[.int .i64 ((bY l0 iQ).f0), .int .i64 ((bY l0 iQ).f1), .int .u64 ((bY l0 iQ).f2), .string ((bY l0 iQ).f3)] 95 (0, 0)) (aU bX) k_ hk)); (case aO => exact (by (with_reducible repeat (first | apply Kd.kI | apply Kd.kD | apply Kd.jX)); exact Kd.eO (Kd.dE (p := ⟨iY, 3, none⟩) (Kd.dE (p := ⟨iY, 2, none⟩) (Kd.dE (p := ⟨iY, 1, none⟩) (Kd.dE (p := ⟨iY, 0, none⟩) (Kd.eO qQ.out (fun k_ hk => (⟨hk, hk.2⟩ : _ ∧ k_ ≠ iY))) (fun _ hk => hk.2) (.int .i64 ((bY l0 iQ).f0))) (fun _ hk => hk.2) (.int .i64 ((bY l0 iQ).f1))) (fun _ hk => hk.2) (.int .u64 ((bY l0 iQ).f2))) (fun _ hk => hk.2) (.string ((bY l0 iQ).f3))) (fun _ hk => hk.1.2))); (case aS => exact (iI (aJ HB))); (case aL => have := rq.out; omega); intro Oy O3 ho hb hg hat; rw [← UM.out] at ho; replace bX := aA (GZ (g := iY) (o := .cells #[.int .i64 ((bY l0 iQ).f0), .int .i64 ((bY l0 iQ).f1), .int .u64 ((bY l0 iQ).f2), .string ((bY l0 iQ).f3)] 95 (0, 0)) (aU bX) hg (Kd.TZ qQ.out (fun _ hk => hk.2))); replace HB := aA hb; have UK := aA ho; clear qQ; clear ho hb hg hat))
      go_roundg k1
      case measure => have := bD.out; omega
      case rel => exact ⟨(MF), (wrap64 (iQ + 1)), aZ, H', iK bD, ⟨by (with_reducible repeat (first | apply Kd.kI | apply Kd.kD | apply Kd.jX)); exact Kd.eO UK.out (fun _ hk => trivial)⟩, ⟨aJ HB⟩⟩
     ·
      rw [iN c6] at H; have kP := beq_eq_false_iff_ne.mpr c6; have wD := bne_iff_ne.mpr c6; have H' := aA H; clear H; have dL : 0 ≤ (iQ : Int) := aK; have dM : iQ < (l0.length : Int) := aK; obtain ⟨lD, iM, gD, kR, pJ, pK⟩ := E8 fF.out iQ dL dM; cases iM; replace gD := hbc HB gD; replace kR := hbc HB kR; replace pJ := hbc HB pJ; replace pK := hbc HB pK; replace dL := eT dL; replace dM := eT dM
      go_wp2_with (first | ((with_reducible refine cK (N := 7) rfl ?_); refine dB (N := 7) (cs := #[.int .i64 0, .int .i64 0, .int .u64 0, .string ⟨#[]⟩]) (t := 95) ?_; intro iY hg JE aG hb; replace qQ := aA (Kd.gU (Kd.zB (dZ qQ) iY (Nat.le_of_eq hg.symm)) hb); have bX := aA aG; have LU := bB HB hg; have LP := bB HB hg; replace HB := hbS HB hb; clear hb aG hg; obtain ⟨S9, TA, TB, TC⟩ := aN bX; have TI := fz bX 0; have TJ := fz bX 1; have TL := fz bX 2; have TM := eZ bX.out 3))
      go_roundg k1
      case measure => have := bD.out; omega
      case rel => exact ⟨(eU), (wrap64 (iQ + 1)), aZ, H', iK bD, ⟨by (with_reducible repeat (first | apply Kd.kI | apply Kd.kD | apply Kd.jX)); exact Kd.eO (Kd.dE (p := ⟨iY, 3, none⟩) (Kd.dE (p := ⟨iY, 2, none⟩) (Kd.dE (p := ⟨iY, 1, none⟩) (Kd.dE (p := ⟨iY, 0, none⟩) (Kd.eO qQ.out (fun k_ hk => (⟨hk, hk.2⟩ : _ ∧ k_ ≠ iY))) (fun _ hk => hk.2) (.int .i64 ((bY l0 iQ).f0))) (fun _ hk => hk.2) (.int .i64 ((bY l0 iQ).f1))) (fun _ hk => hk.2) (.int .u64 ((bY l0 iQ).f2))) (fun _ hk => hk.2) (.string ((bY l0 iQ).f3))) (fun _ hk => trivial)⟩, ⟨aJ HB⟩⟩
    ·
     exact absurd (of_decide_eq_true gL) c5
   ·
    rw [iN c3] at H; have gL := dF c3; clear c3; obtain rfl := Option.some.inj H
    go_wp2
    go_ret
    exact ⟨_, eH, dZ qQ, aJ HB⟩
def sV.f (l0 : List (dK)) (a1 : Int) : Option (List (dK)) := if l0.length ≤ 3518437208883 then some (l0.filter fun x => x.f0 == a1) else none
theorem Uy (l0 : List (dK)) (a1 : Int) (hb : l0.length ≤ 3518437208883) (d : Nat) : ∀ (k i : Nat) (acc : List (dK)), l0.length - i = d → i ≤ l0.length → acc.length ≤ i → d < k →
 vI.l0 k (a1) acc l0 l0.length i = some (acc ++ (l0.drop i).filter fun x => x.f0 == a1) := by
 induction d with
 | zero =>
  intro k i acc hd hi ha hk
  obtain ⟨k, rfl⟩ : ∃ m, k = m + 1 := ⟨k - 1, by omega⟩
  simp only [vI.l0]
  rw [iN (by omega), List.drop_of_length_le (by omega)]
  simp
 | succ d ih =>
  intro k i acc hd hi ha hk
  obtain ⟨k, rfl⟩ : ∃ m, k = m + 1 := ⟨k - 1, by omega⟩
  have h0 : i < l0.length := by omega
  have e0 : bY l0 (i : Int) = l0[i] := by simp [bY, List.getD_eq_getElem?_getD, h0]
  simp only [vI.l0, e0]
  rw [ip (by omega), ip (by omega), List.drop_eq_getElem_cons h0, fC (by omega) (by omega)]
  try rw [ip (show (i : Int) < (l0.length : Int) by omega)]
  by_cases h : l0[i].f0 = a1
  · rw [ip h, ip (by omega)]
    have := ih k (i + 1) (acc ++ [l0[i]]) (by omega) (by omega) (by simp; omega) (by omega)
    refine this.trans ?_
    rw [List.filter_cons_of_pos (by simp [h]), List.append_assoc]; rfl
  · rw [iN h]
    have := ih k (i + 1) acc (by omega) (by omega) (by omega) (by omega)
    refine this.trans ?_
    rw [List.filter_cons_of_neg (by simp [h])]
theorem sV.ev (l0 : List (dK)) (a1 : Int) (r) (h : sV.f l0 a1 = some r) : ∃ k, vI.f k l0 a1 = some r := by
 unfold sV.f at h
 split at h
 · rename_i hb
   rw [← h]
   refine ⟨l0.length + 1, ?_⟩
   unfold vI.f
   simpa using Uy l0 a1 hb l0.length (l0.length + 1) 0 [] (by omega) (by omega) (by simp) (by omega)
 · cases h
theorem sV.calls (A0 : Option Addr) (c0 : Nat) (l0 : List (dK)) (a1 : Int) (r : List (dK)) (w : World) (hr0 : Kd.C lN w A0 l0.length l0) (hc0 : l0.length ≤ c0) (h : sV.f l0 a1 = some r) :
 Calls Tryz.prog 81 #[.slice A0 l0.length c0, .int .i64 a1] w fun e w' => ∃ gW : Value, e = .returned (gW) ∧ Kd.R lN 95 w' w.heap.size (fun _ => True) gW r ∧ Below w.heap.size w w' := by
 obtain ⟨k, hk⟩ := sV.ev l0 a1 _ h
 exact vI.calls k A0 c0 l0 a1 r w hr0 hc0 hk
def wY.l0 : Nat → List ByteArray → List (dK) → Int → Int → Option (List ByteArray × Int)
 | 0, _, _, _, _ => none
 | k + 1, x6, _x, GI, nQ => if nQ < GI then (if 0 ≤ nQ then (if nQ < (_x.length : Int) then (if ((bY _x nQ).f1) = 2 then (if x6.length < 8796093022208 then (wY.l0 k (x6 ++ [(bY _x nQ).f3]) _x GI (wrap64 (nQ + 1))) else (none)) else (some (([] : List ByteArray), 3))) else (none)) else (none)) else (some (x6, 0))
def wY.f (k : Nat) (l0 : List (dK)) (a1 : Int) : Option (List ByteArray × Int) := (sV.f l0 a1).bind fun t101 => (wY.l0 k ([] : List ByteArray) t101 (t101.length : Int) 0)
theorem wY.calls (k : Nat) (A0 : Option Addr) (c0 : Nat) (l0 : List (dK)) (a1 : Int) (r1 : List ByteArray) (r2 : Int) (w : World) (hr0 : Kd.C lN w A0 l0.length l0) (hc0 : l0.length ≤ c0) (h : wY.f k l0 a1 = some (r1, r2)) :
 Calls Tryz.prog 54 #[.slice A0 l0.length c0, .int .i64 a1] w fun e w' => ∃ gW : Value, e = .returned (.tuple #[gW, .int .i64 r2]) ∧ Kd.R Kd.string 9 w' w.heap.size (fun _ => True) gW r1 ∧ Below w.heap.size w w' := by
 have EB := Tryz.underlying95; have fF := aA hr0; have oO := aA hc0; clear hr0 hc0; have HB := aA (Below.refl w.heap.size w); have H : ((sV.f l0 a1).bind fun t101 => (wY.l0 k ([] : List ByteArray) t101 (t101.length : Int) 0)) = some (r1, r2) := h; clear h; replace H := bnd H; obtain ⟨t101, A3, H⟩ := H; have H' := aA H; clear H
 go_enter Tryz.func54, Tryz.ntmps54
 go_wp2_with (first | ((with_reducible refine dJ (f := 81) rfl ?_); refine dV (some 11) rfl rfl Tryz.func81 (by kernel_rfl) rfl #[.slice A0 l0.length c0, .int .i64 a1] rfl ?_; (with_reducible refine (sV.calls _ _ l0 a1 t101 _ ?iU ?iV A3.out).mono ?_); (case iU => repeat (first | exact fF.out | (with_reducible refine Kd.xY ?_ _) | (with_reducible refine Kd.ES ?_ _) | (with_reducible refine Kd.E5 ?_))); (case iV => exact oO.out); rintro e w4 ⟨KC, rfl, ho0, hb⟩; refine ⟨_, rfl, ?_⟩; have jN := aA (Kd.nV ho0 (iI (aJ HB))); replace HB := hbS HB hb; (try clear hb); (try clear ho0); obtain ⟨vz, VZ, Aa⟩ := Kd.jF jN.out; subst Aa))
 go_loopg [6, 13] k (fun kq v6 v13 w' => ∃ (bH : List ByteArray) (iR : Int), v13 = .int .i64 iR ∧ aC (wY.l0 kq bH t101 (t101.length : Int) iR = some (r1, r2)) ∧ aC (kq ≤ k) ∧ aC (Kd.R Kd.string 9 w' w.heap.size (fun _ => True) v6 bH) ∧ aC (Kd.R lN 95 w' w.heap.size (fun _ => True) (.slice vz t101.length VZ) t101) ∧ aC (Below w.heap.size w w'))
 case atStart => exact ⟨(([] : List ByteArray)), (0), aZ, H', ⟨Nat.le_refl _⟩, ⟨nC⟩, ⟨dZ jN⟩, ⟨aJ HB⟩⟩
 case round =>
  clear H'; obtain ⟨bH, iR, rfl, HA, bD, fH, JY, HB⟩ := hrel
  cases gk with
  | zero => exact absurd HA.out (by simp [wY.l0])
  | succ k1 =>
   have H := HA.out; clear HA
   simp only [wY.l0] at H
   by_cases c6 : iR < (t101.length : Int)
   ·
    rw [ip c6] at H; have kP := dT c6; clear c6; replace H := dU H; obtain ⟨c7, H⟩ := H; have nA := dT c7; clear c7
    by_cases c8 : iR < (t101.length : Int)
    ·
     rw [ip c8] at H; have mG := dT c8; clear c8
     by_cases c9 : ((bY t101 iR).f1) = 2
     ·
      rw [ip c9] at H; obtain ⟨mO, xI⟩ := dH c9; clear c9; replace H := dU H; obtain ⟨c10, H⟩ := H; have mf := aA c10; clear c10; obtain ⟨MG, vX⟩ : ∃ y_ : List ByteArray, y_ = (bH ++ [(bY t101 iR).f3]) := ⟨_, rfl⟩; replace H : (wY.l0 k1 MG t101 (t101.length : Int) (wrap64 (iR + 1))) = some (r1, r2) := by first | (rw [vX]; with_reducible exact H) | (have fI := (Option.bind_some _ _).symm.trans H; rw [vX]; with_reducible exact fI) | (have fI := (Option.bind_some _ _).symm.trans H; with_reducible exact fI) | with_reducible exact H | (rw [vX]; exact H) | exact H
      have UN := aA vX; clear vX; have H' := aA H; clear H; have jC : 0 ≤ (iR : Int) := aK; have jD : iR < (t101.length : Int) := aK; obtain ⟨uO, pV, uJ, EZ, JS, JU⟩ := E8 (Kd.jA JY.out).2.2 iR jC jD; cases pV; replace jC := eT jC; replace jD := eT jD
      go_wp2_with (first | ((with_reducible refine cK (N := 8) rfl ?_); refine dB (N := 8) (cs := #[.int .i64 0, .int .i64 0, .int .u64 0, .string ⟨#[]⟩]) (t := 95) ?_; intro gI hg JE aG hb; replace fH := aA (Kd.gU (dZ fH) hb); replace JY := aA (Kd.gU (Kd.zB (dZ JY) gI (Nat.le_of_eq hg.symm)) hb); have gH := aA aG; have QD := bB HB hg; have LQ := bB HB hg; replace HB := hbS HB hb; clear hb aG hg; obtain ⟨S9, TA, TB, TC⟩ := aN gH; have TI := fz gH 0; have TJ := fz gH 1; have TL := fz gH 2; have TM := fz gH 3) | ((with_reducible refine qD (b := .append) (xs := #[.tmp 20, .tmp 23]) rfl ?_); at_builtin; refine Kd.qZ Kd.string (w0 := w) w.heap.size rfl (.tmp 20) (.tmp 23) 56 9 (.string ⟨#[]⟩) 16 rfl Tryz.underlying56 Nk rfl (by decide) (by omega) u6 bH ((bY t101 iR).f3) [.string ((bY t101 iR).f3)] (fun _ => True) (fun _ => False) rfl (by first | (go_simp; done) | (go_simp; rfl)) ?aP (fun _ hk => hk.elim) ?aF ?aO ?aB ?aS ?aL ?_; (case aP => exact rfl); (case aB => exact (aJ HB)); (case aF => exact (fun _ _ => trivial)); (case aO => exact (by (with_reducible repeat (first | apply Kd.kI | apply Kd.kD | apply Kd.jX)); exact Kd.eO (Kd.dE (p := ⟨gI, 3, none⟩) (Kd.dE (p := ⟨gI, 2, none⟩) (Kd.dE (p := ⟨gI, 1, none⟩) (Kd.dE (p := ⟨gI, 0, none⟩) (Kd.ET fH.out gH.out (by decide)) (fun _ hk => hk.2) (.int .i64 ((bY t101 iR).f0))) (fun _ hk => hk.2) (.int .i64 ((bY t101 iR).f1))) (fun _ hk => hk.2) (.int .u64 ((bY t101 iR).f2))) (fun _ hk => hk.2) (.string ((bY t101 iR).f3))) (fun _ hk => trivial))); (case aS => exact (iI (aJ HB))); (case aL => have := mf.out; omega); intro v107 JF ho hb hg hat; rw [← UN.out] at ho; replace JY := aA (Kd.Gz (by (with_reducible repeat (first | apply Kd.kI | apply Kd.kD | apply Kd.jX)); exact (Kd.eO (Kd.dE (p := ⟨gI, 3, none⟩) (Kd.dE (p := ⟨gI, 2, none⟩) (Kd.dE (p := ⟨gI, 1, none⟩) (Kd.dE (p := ⟨gI, 0, none⟩) (Kd.eO JY.out (fun k_ hk => (⟨hk, hk.2⟩ : _ ∧ k_ ≠ gI))) (fun _ hk => hk.2) (.int .i64 ((bY t101 iR).f0))) (fun _ hk => hk.2) (.int .i64 ((bY t101 iR).f1))) (fun _ hk => hk.2) (.int .u64 ((bY t101 iR).f2))) (fun _ hk => hk.2) (.string ((bY t101 iR).f3))) (fun _ h_ => h_.1))) (Kd.XY (by (with_reducible repeat (first | apply Kd.kI | apply Kd.kD | apply Kd.jX)); exact (Kd.eO (Kd.dE (p := ⟨gI, 3, none⟩) (Kd.dE (p := ⟨gI, 2, none⟩) (Kd.dE (p := ⟨gI, 1, none⟩) (Kd.dE (p := ⟨gI, 0, none⟩) (Kd.ET fH.out gH.out (by decide)) (fun _ hk => hk.2) (.int .i64 ((bY t101 iR).f0))) (fun _ hk => hk.2) (.int .i64 ((bY t101 iR).f1))) (fun _ hk => hk.2) (.int .u64 ((bY t101 iR).f2))) (fun _ hk => hk.2) (.string ((bY t101 iR).f3))) (fun _ h_ => h_.1)))) (by decide) hg); replace gH := aA (GZ (g := gI) (o := .cells #[.int .i64 ((bY t101 iR).f0), .int .i64 ((bY t101 iR).f1), .int .u64 ((bY t101 iR).f2), .string ((bY t101 iR).f3)] 95 (0, 0)) (aU gH) hg (Kd.OI fH.out gH.out (by decide))); replace HB := aA hb; have UL := aA ho; clear fH; clear ho hb hg hat))
      go_roundg k1
      case measure => have := bD.out; omega
      case rel => exact ⟨(MG), (wrap64 (iR + 1)), aZ, H', iK bD, ⟨dZ UL⟩, ⟨by (with_reducible repeat (first | apply Kd.kI | apply Kd.kD | apply Kd.jX)); exact Kd.eO JY.out (fun _ hk => trivial)⟩, ⟨aJ HB⟩⟩
     ·
      rw [iN c9] at H; have mO := beq_eq_false_iff_ne.mpr c9; have xI := bne_iff_ne.mpr c9
      simp only [Option.some.injEq, Prod.mk.injEq] at H
      obtain ⟨rfl, rfl⟩ := H; have jC : 0 ≤ (iR : Int) := aK; have jD : iR < (t101.length : Int) := aK; obtain ⟨uO, pV, uJ, EZ, JS, JU⟩ := E8 (Kd.jA JY.out).2.2 iR jC jD; cases pV; replace jC := eT jC; replace jD := eT jD
      go_wp2_with (first | ((with_reducible refine cK (N := 8) rfl ?_); refine dB (N := 8) (cs := #[.int .i64 0, .int .i64 0, .int .u64 0, .string ⟨#[]⟩]) (t := 95) ?_; intro gI hg R6 aG hb; replace fH := aA (Kd.gU (dZ fH) hb); replace JY := aA (Kd.gU (Kd.zB (dZ JY) gI (Nat.le_of_eq hg.symm)) hb); have gH := aA aG; have QD := bB HB hg; have LQ := bB HB hg; replace HB := hbS HB hb; clear hb aG hg; obtain ⟨di, dm, dn, dw⟩ := aN gH; have Jh := fz gH 0; have Ji := fz gH 1; have Jj := fz gH 2; have Jk := eZ gH.out 3))
      go_ret2
      exact ⟨_, eH, nC, aJ HB⟩
    ·
     exact absurd (of_decide_eq_true kP) c8
   ·
    rw [iN c6] at H; have kP := dF c6; clear c6
    simp only [Option.some.injEq, Prod.mk.injEq] at H
    obtain ⟨rfl, rfl⟩ := H
    go_wp2
    go_ret2
    exact ⟨_, eH, dZ fH, aJ HB⟩
abbrev Fl := Int × Int × Int × ByteArray
def mD (x : dK) : Fl := (x.f0, x.f1, x.f2, x.f3)
def uX (x : dP) : Fl := (x.f0, x.f1, x.f2, x.f3)
def toP (x : Fl) : dK := ⟨x.1, x.2.1, x.2.2.1, x.2.2.2⟩
def toR (x : Fl) : dP := ⟨x.1, x.2.1, x.2.2.1, x.2.2.2⟩
theorem aA7 (x : Fl) : mD (toP x) = x := rfl
theorem aA8 (x : Fl) : uX (toR x) = x := rfl
theorem Wx (l : List Fl) : (l.map toP).map mD = l := by simp [aA7, Function.comp_def]
theorem Wy (l : List Fl) : (l.map toR).map uX = l := by simp [aA8, Function.comp_def]
def LK (num ty n : Int) (d : ByteArray) : ByteArray :=
 if 1 ≤ num ∧ num ≤ 536870911 ∧ (ty = 0 ∨ ty = 1 ∨ ty = 2 ∨ ty = 5) then
  if ty = 0 then uT (8 * num + ty).toNat ++ uT n.toNat
  else if ty = 2 then uT (8 * num + ty).toNat ++ uT d.size ++ d
  else if ty = 1 then uT (8 * num + ty).toNat ++ xB n.toNat 8
  else if n > 4294967295 then ⟨#[]⟩ else uT (8 * num + ty).toNat ++ xB n.toNat 4
 else ⟨#[]⟩
def l6 (b : ByteArray) : Fl × Nat × Nat :=
 if (eD b).2.2 ≠ 0 then ((0, 0, 0, ⟨#[]⟩), 0, (eD b).2.2)
 else if ¬ (1 ≤ (eD b).1 / 8 ∧ (eD b).1 / 8 ≤ 536870911 ∧ ((eD b).1 % 8 = 0 ∨ (eD b).1 % 8 = 1 ∨ (eD b).1 % 8 = 2 ∨ (eD b).1 % 8 = 5)) then ((0, 0, 0, ⟨#[]⟩), 0, 3)
 else if (eD b).1 % 8 = 0 ∨ (eD b).1 % 8 = 2 then
  let q := eD (b.extract (eD b).2.1 b.size)
  if q.2.2 ≠ 0 then ((0, 0, 0, ⟨#[]⟩), 0, q.2.2)
  else if (eD b).1 % 8 = 0 then (((eD b).1 / 8, 0, q.1, ⟨#[]⟩), (eD b).2.1 + q.2.1, 0)
  else if b.size - ((eD b).2.1 + q.2.1) < q.1 then ((0, 0, 0, ⟨#[]⟩), 0, 1)
  else (((eD b).1 / 8, 2, 0, b.extract ((eD b).2.1 + q.2.1) ((eD b).2.1 + q.2.1 + q.1)), (eD b).2.1 + q.2.1 + q.1, 0)
 else
  let size := if (eD b).1 % 8 = 5 then 4 else 8
  if b.size - (eD b).2.1 < size then ((0, 0, 0, ⟨#[]⟩), 0, 1)
  else (((eD b).1 / 8, ((eD b).1 % 8 : Nat), (o8 (ns (b.extract (eD b).2.1 ((eD b).2.1 + size))) : Nat), ⟨#[]⟩), (eD b).2.1 + size, 0)
def lX : Nat → ByteArray → List Fl × Nat
 | 0, _ => ([], 0)
 | k + 1, b => if b.size = 0 then ([], 0) else if (l6 b).2.2 ≠ 0 then ([], (l6 b).2.2)
  else if (lX k (b.extract (l6 b).2.1 b.size)).2 ≠ 0 then ([], (lX k (b.extract (l6 b).2.1 b.size)).2)
  else ((l6 b).1 :: (lX k (b.extract (l6 b).2.1 b.size)).1, 0)
def eX (b : ByteArray) : List Fl × Nat := if b.size > 1048576 then ([], 2) else lX b.size b
theorem G5 (b : ByteArray) (h : (eD b).2.2 = 0) : 1 ≤ (eD b).2.1 ∧ (eD b).2.1 ≤ b.size ∧ (eD b).2.1 ≤ 10 ∧ (eD b).1 < 18446744073709551616 := by
 obtain ⟨⟨y, n, e⟩, hr⟩ : ∃ x, eD b = x := ⟨_, rfl⟩
 rw [hr] at h ⊢
 simp only at h ⊢
 subst h
 obtain ⟨h1, h2, h3, h4, _⟩ := aAQ b y n hr
 have := Ff y
 omega
theorem EN (b : ByteArray) (i : Nat) (h : i ≤ b.size) : (b.extract i b.size).size = b.size - i := by
 rw [ByteArray.size_extract]; omega
theorem WZ (b : ByteArray) (i k l : Nat) (hl : i + l ≤ b.size) : (b.extract i b.size).extract k l = b.extract (i + k) (i + l) := by
 rw [ByteArray.extract_extract, Nat.min_eq_left hl]
theorem Vm (b : ByteArray) : b.extract 0 b.size = b := UH (by rw [XG, List.drop_zero, Nat.sub_zero, ← vG, List.take_length])
theorem Gl (b : ByteArray) (h : (l6 b).2.2 = 0) : 1 ≤ (l6 b).2.1 ∧ (l6 b).2.1 ≤ b.size := by
 unfold l6 at h ⊢
 split at h
 · rename_i h1; exact absurd h h1
 · rename_i h1
   have g := G5 b (by simpa using h1)
   rw [iN h1]
   split at h
   · simp at h
   · rename_i h2
     rw [iN h2]
     split at h
     · rename_i h3
       rw [ip h3]
       simp only at h ⊢
       split at h
       · rename_i h4; exact absurd h h4
       · rename_i h4
         have g2 := G5 (b.extract (eD b).2.1 b.size) (by simpa using h4)
         rw [EN _ _ (by omega)] at g2
         rw [iN h4]
         split
         · simp only; omega
         · rename_i h5
           rw [iN h5] at h
           split at h
           · simp at h
           · rename_i h6; rw [iN h6]; simp only; omega
     · rename_i h3
       rw [iN h3]
       obtain ⟨size, hsz⟩ : ∃ s, (if (eD b).1 % 8 = 5 then 4 else 8) = s := ⟨_, rfl⟩
       have hs4 : 4 ≤ size := by rw [← hsz]; split <;> omega
       simp only [hsz] at h ⊢
       split at h
       · simp at h
       · rename_i h4; rw [iN h4]; simp only; omega
theorem Uc (k : Nat) : ∀ b, (lX k b).1.length ≤ k := by
 induction k with
 | zero => intro b; simp [lX]
 | succ k ih =>
  intro b
  have := ih (b.extract (l6 b).2.1 b.size)
  rw [lX]
  repeat' split
  all_goals simp_all
theorem Cy (k : Nat) (b : ByteArray) (h : (lX k b).2 ≠ 0) : (lX k b).1 = [] := by
 cases k with
 | zero => rfl
 | succ k =>
  rw [lX] at h ⊢
  by_cases h0 : b.size = 0
  · rw [ip h0]
  · rw [iN h0] at h ⊢
    by_cases h1 : (l6 b).2.2 ≠ 0
    · rw [ip h1]
    · rw [iN h1] at h ⊢
      by_cases h2 : (lX k (b.extract (l6 b).2.1 b.size)).2 ≠ 0
      · rw [ip h2]
      · rw [iN h2] at h; exact absurd rfl h
end Go.Proofs.YtgmggompdidcoaaGreatDoor.X
