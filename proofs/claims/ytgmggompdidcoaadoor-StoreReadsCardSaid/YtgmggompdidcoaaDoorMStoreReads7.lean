import Derived.Test.YtgmggompdidcoaaDoorMStoreReads2
import Derived.Test.YtgmggompdidcoaaDoorMStoreReads5
import Derived.Test.YtgmggompdidcoaaDoorMStoreReads6
import Derived.KernelRfl
import Derived.Laws.BitsAllLaws
import Derived.Test.YtgmggompdidcoaaDoorMStoreReads3
namespace Go.Proofs.YtgmggompdidcoaaDoor.X
open Go.RowKit Go.Proofs.YtgmggompdidcoaaDoorW.PrintWords Go.Proofs.YtgmggompdidcoaaDoorW.PrintLast Go.Proofs.YtgmggompdidcoaaDoorW.PrintMore
attribute [local go_sem] max2_int min2_int max_two min_two max_three min_three max_four min_four
set_option linter.unusedVariables false
set_option linter.unusedSimpArgs false
def okb (c : Int) : Bool := decide (97 ≤ c ∧ c ≤ 122 ∨ 65 ≤ c ∧ c ≤ 90 ∨ 48 ≤ c ∧ c ≤ 57 ∨ c = 46 ∨ c = 95 ∨ c = 45)
def allOk : Nat → ByteArray → Int → Bool
  | 0, _, _ => true
  | d + 1, s, i => okb (bt s i) && allOk d s (i + 1)
def endOk (s : ByteArray) : Bool := if s.toList = [] then false else if s.toList = [46] then false else s.toList != [46, 46]
def partB (s : ByteArray) : Bool := allOk s.size s 0 && endOk s
theorem ite_all {α : Type} {p : Prop} [Decidable p] {x y z : α} (h1 : p → x = z) (h2 : ¬p → y = z) : (if p then x else y) = z := by
  by_cases h : p
  · rw [if_pos h]; exact h1 h
  · rw [if_neg h]; exact h2 h
theorem part_l (s : ByteArray) (hs : s.size ≤ 140737488351232) (d : Nat) : ∀ (k : Nat) (i : Int), 0 ≤ i → i + d = s.size → d < k → store_part.l0 k s (s.size : Int) i = some (allOk d s i && endOk s) := by
  induction d with
  | zero =>
    intro k i h0 h1 hk
    obtain ⟨k, rfl⟩ : ∃ m, k = m + 1 := ⟨k - 1, by omega⟩
    rw [store_part.l0, if_neg (by omega)]
    unfold allOk endOk
    rw [Bool.true_and]
    split
    · rfl
    · split
      · rfl
      · rfl
  | succ d ih =>
    intro k i h0 h1 hk
    obtain ⟨k, rfl⟩ : ∃ m, k = m + 1 := ⟨k - 1, by omega⟩
    rw [store_part.l0, if_pos (by omega), if_pos h0, if_pos (by omega)]
    have hw : wrap64 (i + 1) = i + 1 := by unfold wrap64; omega
    have hr := ih k (i + 1) (by omega) (by omega) (by omega)
    rw [hw, hr]
    rw [allOk]
    generalize bt s i = c
    generalize allOk d s (i + 1) = A
    generalize endOk s = E
    cases h : okb c with
    | true =>
      have h' := of_decide_eq_true h
      rw [Bool.true_and]
      repeat' first | rfl | (refine ite_all (fun _ => ?_) (fun _ => ?_))
      all_goals (exfalso; omega)
    | false =>
      have h' := of_decide_eq_false h
      rw [Bool.false_and, Bool.false_and]
      repeat' first | rfl | (refine ite_all (fun _ => ?_) (fun _ => ?_))
      all_goals (exfalso; omega)
theorem part_f (s : ByteArray) (hs : s.size ≤ 140737488351232) : store_part.f (s.size + 1) s = some (partB s) := part_l s hs s.size (s.size + 1) 0 (by omega) (by omega) (by omega)
def keyB (s : ByteArray) : Bool := (pieces s).all partB && decide (s.size ≤ 255)
theorem part_any (s : ByteArray) (hs : s.size ≤ 140737488351232) (w : World) : Calls Tryd.prog 16 #[.string s] w fun e w' => e = .returned (.bool (partB s)) ∧ Drawn0 w w' := store_part.calls _ s _ w (part_f s hs)
attribute [local go_sem] Oper.semAt_some
theorem keptO_drewN (W : World) (n : Nat) : KeepsOthers W (W.drewN n) := ⟨Nat.le_refl _, fun _ _ h _ => h⟩
set_option maxRecDepth 100000 in
set_option maxHeartbeats 4000000 in
theorem Key_any (s : ByteArray) (hs : s.size ≤ 140737488351232) (w : World) : Calls Tryd.prog 11 #[.string s] w fun e w' => e = .returned (.bool (keyB s)) ∧ Below w.heap.size w w' := by
  refine (callsIn_wide (n := 4)).1 ?_
  refine callsIn_of_wp_marks Tryd.func11 rfl trivial ?_ rfl
  simp only [Tryd.ntmps11, List.size_toArray, List.length_cons, List.length_nil, Nat.reduceAdd, Nat.reduceSub, Array.replicate_succ, Array.replicate_zero, List.push_toArray, List.append_toArray, List.nil_append, List.cons_append]
  gi_wp2_with (refine ⟨trivial, ?_⟩; gi_at_call 15; refine (callsIn_wide.2 (SplitSeq_any _ _)).mono ?_; rintro e w1 ⟨rfl, hS, hz, hb⟩)
  have hsz0 : (w.alloc (.cells #[.bool false] 4)).heap.size = w.heap.size + 1 := World.size_alloc _ _
  have hB0 : Below w.heap.size w w1 := ((Below.refl _ w).alloc (Nat.le_refl _) _).trans (hb.mono (by omega))
  have hc0 : w1.heap[w.heap.size]? = some (.cells #[.bool false] 4 (0, 0)) := (hb.block _ (by omega)).trans (World.alloc_heap_new w _)
  rw [hsz0] at hS hz
  have HS := Aside0.mk hS
  have HB := Aside0.mk hB0
  have HC := Aside0.mk hc0
  have HZ := Aside0.mk hz
  clear hS hB0 hc0 hb hsz0 hz
  have hcell : (⟨w.heap.size + 1, 0, none⟩ : Addr).block < w1.heap.size := by rw [HZ.out]; show w.heap.size + 1 < _; omega
  refine range_cell (α := { x : ByteArray // x.size ≤ 140737488351232 }) (by omega) (gf := 25) (lb := #[.pointer (some ⟨w.heap.size + 1 + 1, 0, none⟩), .pointer (some ⟨w.heap.size + 1, 0, none⟩), .pointer (some ⟨w.heap.size + 1 + 2, 0, none⟩)]) rfl (enters_of Tryd.func25 (by kernel_rfl) rfl)
    (fun x => .string x.1) rfl (fun x => partB x.1) ((pieces s).all partB) ⟨w.heap.size + 1, 0, none⟩ hcell
    (fun W W' => ∀ t, SplitAt W (w.heap.size + 1 + 1) (w.heap.size + 1) (w.heap.size + 1 + 2) t → SplitAt W' (w.heap.size + 1 + 1) (w.heap.size + 1) (w.heap.size + 1 + 2) t)
    ?iter (fun W => Below w.heap.size w W ∧ W.heap[w.heap.size]? = some (.cells #[.bool false] 4 (0, 0))) (fun W => Below w.heap.size w W ∧ W.heap[w.heap.size]? = some (.cells #[.bool false] 4 (0, 0)))
    (fun W v h => ⟨h.1.setCell (by show _ ≤ w.heap.size + 1; omega) _, blk_far h.2 (by show w.heap.size ≠ w.heap.size + 1; omega) _⟩)
    (fun W o hW h => ⟨h.1.alloc h.1.size _, blk_alloc h.2 _⟩)
    ?putI ?putI2 (fun h1 h2 t h => h2 t (h1 t h)) ?keep ⟨HB.out, HC.out⟩
    (fun x => { tmps := #[.string s, undef, .pointer (some ⟨w.heap.size, 0, none⟩), .string x.1, .string s,
      .func (.func 25) #[] #[.pointer (some ⟨w.heap.size + 1 + 1, 0, none⟩), .pointer (some ⟨w.heap.size + 1, 0, none⟩), .pointer (some ⟨w.heap.size + 1 + 2, 0, none⟩)], .string x.1, undef, undef, undef, undef, undef, undef], defers := [] }) ?assign ?body ?done ?stop
  case iter =>
    intro l J Jx W hJ hY hbW h0
    exact split_run l 3 (w.heap.size + 1 + 1) (w.heap.size + 1) (w.heap.size + 1 + 2) (by omega) partB J Jx (by omega) (by omega) hJ (fun x hx W1 h1 => hY ⟨x, hx⟩ W1 h1) s hs W h0
      (splitAt_kept HS.out hbW (by rw [HZ.out]; omega) (by rw [HZ.out]; omega) (by rw [HZ.out]; omega))
  case putI =>
    intro W l o o' hl ho hc h
    have hlt := (Array.getElem?_eq_some_iff.1 ho).1
    exact ⟨h.1.grown (grownBy_putObj' W l o') (by have := h.1.size; omega) (fun k e => by cases e; rw [HZ.out] at hl; omega), (World.putObj_heap_other (by rw [HZ.out] at hl; omega)).trans h.2⟩
  case putI2 =>
    intro W l o o' hl ho hc h
    have hlt := (Array.getElem?_eq_some_iff.1 ho).1
    exact ⟨h.1.grown (grownBy_putObj' W l o') (by have := h.1.size; omega) (fun k e => by cases e; rw [HZ.out] at hl; omega), (World.putObj_heap_other (by rw [HZ.out] at hl; omega)).trans h.2⟩
  case keep =>
    intro W l o o' hl ho t h
    rw [HZ.out] at hl
    exact ⟨(World.putObj_heap_other (by omega)).trans h.1, (World.putObj_heap_other (by omega)).trans h.2.1, (World.putObj_heap_other (by omega)).trans h.2.2⟩
  case assign =>
    intro l x W K hK
    gi_wp2
    exact hK
  case body =>
    rintro l ⟨x, hx⟩ W ⟨hBW, hcW⟩ hzW
    have hc1 : W.cell? ⟨w.heap.size, 0, none⟩ = some (.bool false) := blk_cell hcW 0
    have hf1 : W.frozen? ⟨w.heap.size, 0, none⟩ = false := blk_frozen hcW 0
    have HBW := Aside0.mk hBW
    have HCW := Aside0.mk hcW
    have HP := Aside0.mk (part_any x hx)
    obtain ⟨pb, hpb⟩ : ∃ pb, partB x = pb := ⟨_, rfl⟩
    have HPB := Aside0.mk hpb
    rw [hpb] at HP
    clear hBW hcW hzW hpb
    cases pb with
    | true =>
      gi_wp2_with (refine ⟨trivial, ?_⟩; gi_at_call 16; refine (CallsIn.inRound l (callsIn_wide.2 (HP.out _))).mono ?_; rintro e W2 ⟨rfl, ⟨nd, rfl⟩⟩)
      exact ⟨HPB.out, keptO_drewN _ _, fun t h => h, ⟨pw_below_drewN HBW.out nd, HCW.out⟩⟩
    | false =>
      gi_wp2_with (refine ⟨trivial, ?_⟩; gi_at_call 16; refine (CallsIn.inRound l (callsIn_wide.2 (HP.out _))).mono ?_; rintro e W2 ⟨rfl, ⟨nd, rfl⟩⟩)
      exact ⟨HPB.out, (keptO_drewN _ _).trans (KeepsOthers.setCell _ _ _), ⟨(pw_below_drewN HBW.out nd).setCell (Nat.le_refl _) _, blk_put (w := W.drewN nd) HCW.out 0 _ rfl⟩⟩
  case done =>
    rintro D W hall hD ⟨hBW, hcW⟩ hK
    have hc1 : W.cell? ⟨w.heap.size, 0, none⟩ = some (.bool false) := blk_cell hcW 0
    have hf1 : W.frozen? ⟨w.heap.size, 0, none⟩ = false := blk_frozen hcW 0
    have hm : s.size ≤ 9223372036854775807 := by omega
    have HBW := Aside0.mk hBW
    have HCW := Aside0.mk hcW
    have HD := Aside0.mk hD
    have HA := Aside0.mk hall
    have HK := Aside0.mk hK
    clear hBW hcW hD hall hK
    gi_wp2
    have hK' := (KeepsOthers.setCell W ⟨w.heap.size, 0, none⟩ (.bool (decide ((s.size : Int) ≤ 255)))).same D _ HK.out rfl
    have hne : w.heap.size ≠ D := by have := HD.out; have := HZ.out; omega
    have hcell2 : ((W.setCell ⟨w.heap.size, 0, none⟩ (.bool (decide ((s.size : Int) ≤ 255)))).putObj D (.deferred none)).heap[w.heap.size]? = some (.cells #[.bool (decide ((s.size : Int) ≤ 255))] 4 (0, 0)) := (World.putObj_heap_other hne).trans (blk_put HCW.out 0 _ rfl)
    refine ⟨by simp, .inl ⟨_, _, rfl, run_takeDeferred hK', ?_⟩⟩
    have hc5 := blk_cell hcell2 0
    refine ⟨.bool (decide ((s.size : Int) ≤ 255)), ?_, ?_, ?_⟩
    · simp [results, Tryd.f11, go_sem, hc5]
    · unfold keyB; rw [HA.out, Bool.true_and]; congr 2; exact decide_eq_decide.2 (by omega)
    · have hlt := (Array.getElem?_eq_some_iff.1 hK').1
      exact (HBW.out.setCell (Nat.le_refl _) _).grown (grownBy_putObj' _ D _) (by have := (HBW.out.setCell (p := ⟨w.heap.size, 0, none⟩) (Nat.le_refl _) (.bool (decide ((s.size : Int) ≤ 255)))).size; omega) (fun k e => by cases e; have := HD.out; have := HZ.out; omega)
  case stop =>
    rintro D W hall hD ⟨hBW, hcW⟩ hK
    have HBW := Aside0.mk hBW
    have HCW := Aside0.mk hcW
    have HD := Aside0.mk hD
    have HA := Aside0.mk hall
    have HK := Aside0.mk hK
    clear hBW hcW hD hall hK
    gi_wp2
    have hne : w.heap.size ≠ D := by have := HD.out; have := HZ.out; omega
    have hcell2 : (W.putObj D (.deferred none)).heap[w.heap.size]? = some (.cells #[.bool false] 4 (0, 0)) := (World.putObj_heap_other hne).trans HCW.out
    refine ⟨by simp, .inl ⟨_, _, rfl, run_takeDeferred HK.out, ?_⟩⟩
    have hc5 := blk_cell hcell2 0
    refine ⟨.bool false, ?_, ?_, ?_⟩
    · simp [results, Tryd.f11, go_sem, hc5]
    · unfold keyB; rw [HA.out, Bool.false_and]
    · exact HBW.out.grown (grownBy_putObj' _ D _) (by have := HBW.out.size; have := (Array.getElem?_eq_some_iff.1 HK.out).1; omega) (fun k e => by cases e; have := HD.out; have := HZ.out; omega)
end Go.Proofs.YtgmggompdidcoaaDoor.X
namespace Go.Proofs.YtgmggompdidcoaaDoor.X
open Go.RowKit Go.Proofs.YtgmggompdidcoaaDoorW.PrintWords Go.Proofs.YtgmggompdidcoaaDoorW.PrintLast Go.Proofs.YtgmggompdidcoaaDoorW.PrintMore
attribute [local go_sem] max2_int min2_int max_two min_two max_three min_three max_four min_four
set_option linter.unusedVariables false
set_option linter.unusedSimpArgs false
theorem key_lit (s : ByteArray) (b : Bool) (h : keyB s = b) (hs : s.size ≤ 140737488351232) (w : World) : Calls Tryd.prog 11 #[.string s] w fun e w' => e = .returned (.bool b) ∧ Below w.heap.size w w' := by
  rw [← h]; exact Key_any s hs w
theorem kb1 : keyB ⟨#[119, 47, 97, 46, 98, 105, 110]⟩ = true := by kernel_rfl
theorem kb2 : keyB ⟨#[46, 46, 47, 97]⟩ = false := by kernel_rfl
theorem kb3 : keyB ⟨#[47, 97]⟩ = false := by kernel_rfl
theorem kb4 : keyB ⟨#[97, 47, 47, 98]⟩ = false := by kernel_rfl
set_option maxHeartbeats 4000000 in
set_option maxRecDepth 100000 in
theorem Awake08_any (w : World) : Calls Tryd.prog 4 #[] w fun e w' => e = .returned (.bool true) ∧ Below w.heap.size w w' := by
  have HB := Aside0.mk (Below.refl w.heap.size w)
  go_enter Tryd.func4, Tryd.ntmps4
  go_wp2_with (first | fail)
  refine (key_lit _ _ kb1 (by decide) _).mono ?_
  rintro e w1 ⟨rfl, hb⟩
  replace HB := hbS HB hb
  clear hb
  go_wp2_with (first | fail)
  refine (key_lit _ _ kb2 (by decide) _).mono ?_
  rintro e w2 ⟨rfl, hb⟩
  replace HB := hbS HB hb
  clear hb
  go_wp2_with (first | fail)
  refine (key_lit _ _ kb3 (by decide) _).mono ?_
  rintro e w3 ⟨rfl, hb⟩
  replace HB := hbS HB hb
  clear hb
  go_wp2_with (first | fail)
  refine (key_lit _ _ kb4 (by decide) _).mono ?_
  rintro e w4 ⟨rfl, hb⟩
  replace HB := hbS HB hb
  clear hb
  go_wp2
  go_ret
  exact ⟨rfl, HB.out⟩
def ns (s : ByteArray) : List Nat := s.data.toList.map UInt8.toNat
theorem ns_length (s : ByteArray) : (ns s).length = s.size := by simp [ns]
theorem ns_get (s : ByteArray) (i : Nat) (h : i < s.size) : (ns s)[i]'(by rw [ns_length]; exact h) = (s[i]'h).toNat := by simp [ns]; rfl
theorem bt_ns (s : ByteArray) (i : Nat) (h : i < s.size) : bt s i = ((s[i]'h).toNat : Int) := by simp [bt, h]
theorem ns_extract (s : ByteArray) (i j : Nat) : ns (s.extract i j) = ((ns s).drop i).take (j - i) := by
  simp [ns, ByteArray.data_extract, List.map_drop, List.map_take, Array.toList_extract, List.extract_eq_take_drop]
theorem btEx (b : ByteArray) (i j : Nat) (m : Nat) (h : m < j - i) (hj : j ≤ b.size) : bt (b.extract i j) (m : Int) = bt b ((i + m : Nat) : Int) := by
  have h1 : m < (b.extract i j).size := by rw [ByteArray.size_extract, Nat.min_eq_left hj]; exact h
  rw [bt_ns _ _ h1, bt_ns _ _ (show i + m < b.size by omega)]
  have := ns_get (b.extract i j) m h1
  have e2 := ns_get b (i + m) (by omega)
  rw [← this, ← e2]
  have e3 : ns (b.extract i j) = ((ns b).drop i).take (j - i) := ns_extract b i j
  have : (((ns (b.extract i j))[m]'(by rw [ns_length]; exact h1) : Nat) : Int) = ((((ns b).drop i).take (j - i))[m]'(by rw [← e3, ns_length]; exact h1) : Nat) := by
    congr 1
    exact getElem_congr_coll e3
  rw [this, List.getElem_take, List.getElem_drop]
theorem btx (s : ByteArray) (a m : Nat) (h : a + m < s.size) : bt (s.extract a s.size) (m : Int) = bt s ((a + m : Nat) : Int) := btEx s a s.size m (by omega) (Nat.le_refl _)
theorem bt_get (s : ByteArray) (m : Nat) (h : m < s.size) : s.data.toList[m]? = some (s[m]'h) := by
  rw [List.getElem?_eq_getElem (by rw [Array.length_toList]; exact h)]; rfl
theorem bt47 (s : ByteArray) (m : Nat) (h : m < s.size) : bt s (m : Int) = 47 ↔ s.data.toList[m]? = some 47 := by
  rw [bt_get s m h, bt_ns s m h]
  constructor
  · intro e
    have : (s[m]'h).toNat = (47 : UInt8).toNat := by have e' : ((s[m]'h).toNat : Int) = 47 := e; have h2 : (47 : UInt8).toNat = 47 := rfl; omega
    rw [UInt8.toNat_inj.1 this]
  · intro e
    rw [Option.some.inj e]; rfl
theorem slashI_at {t : ByteArray} {q : Nat} (hq : q < t.size) (h1 : bt t (q : Int) = 47) (h2 : ∀ j, j < q → bt t (j : Int) ≠ 47) : slashI t = q := by
  have hge := Lib.indexByte_ge t.data.toList 47
  have hlt := slashI_lt t
  by_cases hn : slashI t = -1
  · exact absurd ((bt47 t q hq).1 h1) (Lib.indexByte_none hn q)
  · have hge' : -1 ≤ slashI t := hge
    obtain ⟨o, ho⟩ : ∃ o : Nat, slashI t = o := ⟨(slashI t).toNat, by omega⟩
    obtain ⟨e1, e2⟩ := Lib.indexByte_some ho
    rw [ho]
    have ho' : o < t.size := by omega
    rcases Nat.lt_trichotomy o q with h | h | h
    · exact absurd ((bt47 t o ho').2 e1) (h2 o h)
    · rw [h]
    · exact absurd ((bt47 t q hq).1 h1) (e2 q h)
theorem slashI_no {t : ByteArray} (h2 : ∀ j, j < t.size → bt t (j : Int) ≠ 47) : slashI t < 0 := by
  have hge : -1 ≤ slashI t := Lib.indexByte_ge t.data.toList 47
  have hlt := slashI_lt t
  by_cases hn : slashI t = -1
  · omega
  · obtain ⟨o, ho⟩ : ∃ o : Nat, slashI t = o := ⟨(slashI t).toNat, by omega⟩
    exact absurd ((bt47 t o (by omega)).2 (Lib.indexByte_some ho).1) (h2 o (by omega))
theorem slashI_past {t : ByteArray} {q : Nat} (h2 : ∀ j, j ≤ q → bt t (j : Int) ≠ 47) (h0 : 0 ≤ slashI t) : (q : Int) < slashI t := by
  have hlt := slashI_lt t
  obtain ⟨o, ho⟩ : ∃ o : Nat, slashI t = o := ⟨(slashI t).toNat, by omega⟩
  rw [ho]
  by_cases h : o ≤ q
  · exact absurd ((bt47 t o (by omega)).2 (Lib.indexByte_some ho).1) (h2 o h)
  · omega
theorem allOk_false {s : ByteArray} {q : Nat} (hq : okb (bt s (q : Int)) = false) : ∀ (d i : Nat), i ≤ q → q < i + d → allOk d s (i : Int) = false
  | 0, i, h1, h2 => by omega
  | d + 1, i, h1, h2 => by
    rw [allOk]
    by_cases e : i = q
    · subst e; rw [hq]; rfl
    · have := allOk_false hq d (i + 1) (by omega) (by omega)
      rw [show ((i : Int) + 1) = ((i + 1 : Nat) : Int) from rfl, this, Bool.and_false]
theorem allOk_true {s : ByteArray} : ∀ (d i : Nat), (∀ j, i ≤ j → j < i + d → okb (bt s (j : Int)) = true) → allOk d s (i : Int) = true
  | 0, i, h => rfl
  | d + 1, i, h => by
    rw [allOk, h i (Nat.le_refl _) (by omega), Bool.true_and]
    exact allOk_true d (i + 1) (fun j h1 h2 => h j (by omega) (by omega))
theorem partB_false {p : ByteArray} {q : Nat} (hq : q < p.size) (h : okb (bt p (q : Int)) = false) : partB p = false := by
  unfold partB
  rw [show (0 : Int) = ((0 : Nat) : Int) from rfl, allOk_false h p.size 0 (Nat.zero_le _) (by omega)]; rfl
theorem partB_all {p : ByteArray} (h : ∀ j, j < p.size → okb (bt p (j : Int)) = true) : partB p = endOk p := by
  unfold partB
  rw [show (0 : Int) = ((0 : Nat) : Int) from rfl, allOk_true p.size 0 (fun j _ h2 => h j (by omega)), Bool.true_and]
theorem extract_extract' (s : ByteArray) (a q : Nat) (h : a + q ≤ s.size) : (s.extract a s.size).extract 0 q = s.extract a (a + q) := by
  rw [ByteArray.extract_extract]
  congr 1
  omega
theorem pieces_bad {s : ByteArray} {a i : Nat} (hai : a ≤ i) (hi : i < s.size) (hn : ∀ j, a ≤ j → j ≤ i → bt s (j : Int) ≠ 47) (hb : okb (bt s (i : Int)) = false) : (pieces (s.extract a s.size)).all partB = false := by
  have hsz : (s.extract a s.size).size = s.size - a := by rw [ByteArray.size_extract]; omega
  have hb' : okb (bt (s.extract a s.size) ((i - a : Nat) : Int)) = false := by rw [btx s a (i - a) (by omega), show a + (i - a) = i from by omega]; exact hb
  by_cases h : slashI (s.extract a s.size) < 0
  · rw [pieces_last h]
    simp only [List.all_cons, List.all_nil, Bool.and_true]
    exact partB_false (by omega) hb'
  · have hp := slashI_past (t := s.extract a s.size) (q := i - a) (fun j hj => by rw [btx s a j (by omega)]; exact hn (a + j) (by omega) (by omega)) (by omega)
    have hl := slashI_lt (s.extract a s.size)
    rw [pieces_cut (by omega), List.all_cons]
    obtain ⟨o, ho⟩ : ∃ o : Nat, slashI (s.extract a s.size) = o := ⟨(slashI (s.extract a s.size)).toNat, by omega⟩
    rw [ho, Int.toNat_natCast, extract_extract' s a o (by omega)]
    have hb2 : okb (bt (s.extract a (a + o)) ((i - a : Nat) : Int)) = false := by rw [btEx s a (a + o) (i - a) (by omega) (by omega), show a + (i - a) = i from by omega]; exact hb
    rw [partB_false (q := i - a) (by rw [ByteArray.size_extract]; omega) hb2, Bool.false_and]
theorem pieces_slash {s : ByteArray} {a i : Nat} (hai : a ≤ i) (hi : i < s.size) (hn : ∀ j, a ≤ j → j < i → okb (bt s (j : Int)) = true) (hs : bt s (i : Int) = 47) : (pieces (s.extract a s.size)).all partB = (endOk (s.extract a i) && (pieces (s.extract (i + 1) s.size)).all partB) := by
  have hsz : (s.extract a s.size).size = s.size - a := by rw [ByteArray.size_extract]; omega
  have hq : slashI (s.extract a s.size) = ((i - a : Nat) : Int) := slashI_at (by omega) (by rw [btx s a (i - a) (by omega), show a + (i - a) = i from by omega]; exact hs) (fun j hj => by
    rw [btx s a j (by omega)]
    intro e
    have := hn (a + j) (by omega) (by omega)
    rw [e] at this; cases this)
  rw [pieces_cut (by rw [hq]; omega), List.all_cons, hq, Int.toNat_natCast, extract_extract' s a (i - a) (by omega), show a + (i - a) = i from by omega]
  have e2 : (s.extract a s.size).extract (i - a + 1) (s.extract a s.size).size = s.extract (i + 1) s.size := by
    rw [ByteArray.extract_extract, hsz]
    congr 1 <;> omega
  rw [e2, partB_all]
  intro j hj
  rw [ByteArray.size_extract] at hj
  rw [btEx s a i j (by omega) (by omega)]
  exact hn (a + j) (by omega) (by omega)
theorem pieces_end {s : ByteArray} {a : Nat} (ha : a ≤ s.size) (hn : ∀ j, a ≤ j → j < s.size → okb (bt s (j : Int)) = true) : (pieces (s.extract a s.size)).all partB = endOk (s.extract a s.size) := by
  have hsz : (s.extract a s.size).size = s.size - a := by rw [ByteArray.size_extract]; omega
  have hl : slashI (s.extract a s.size) < 0 := slashI_no (fun j hj => by
    rw [btx s a j (by omega)]
    intro e
    have := hn (a + j) (by omega) (by omega)
    rw [e] at this; cases this)
  rw [pieces_last hl]
  simp only [List.all_cons, List.all_nil, Bool.and_true]
  exact partB_all (fun j hj => by rw [btx s a j (by omega)]; exact hn (a + j) (by omega) (by omega))
theorem letter_f (c : Int) : agateref08_letter.f c = some (okb c) := by
  unfold agateref08_letter.f
  cases h : okb c with
  | true =>
    have h' := of_decide_eq_true h
    repeat' first | rfl | (refine ite_all (fun _ => ?_) (fun _ => ?_))
    all_goals first | (exfalso; omega) | (congr 1; exact beq_iff_eq.2 (by omega))
  | false =>
    have h' := of_decide_eq_false h
    repeat' first | rfl | (refine ite_all (fun _ => ?_) (fun _ => ?_))
    all_goals first | (exfalso; omega) | (congr 1; exact beq_eq_false_iff_ne.2 (by omega))
theorem endOk_if {α : Type} (p : ByteArray) (x y : α) : (if p.toList = ([] : List UInt8) then x else if p.toList = ([46] : List UInt8) then x else if p.toList = ([46, 46] : List UInt8) then x else y) = if endOk p = true then y else x := by
  unfold endOk
  by_cases h1 : p.toList = []
  · rw [if_pos h1, if_pos h1]; rfl
  · rw [if_neg h1, if_neg h1]
    by_cases h2 : p.toList = [46]
    · rw [if_pos h2, if_pos h2]; rfl
    · rw [if_neg h2, if_neg h2]
      by_cases h3 : p.toList = [46, 46]
      · rw [if_pos h3, h3]; rfl
      · rw [if_neg h3, if_pos (by simpa using h3)]
theorem refKey_l (s : ByteArray) (hs : s.size ≤ 140737488351232) (d : Nat) : ∀ (k a i : Nat), a ≤ i → i + d = s.size → 2 * d + 4 ≤ k → (∀ j, a ≤ j → j < i → okb (bt s (j : Int)) = true) →
    agateref08_Key.l0 k s (a : Int) (i : Int) = some ((pieces (s.extract a s.size)).all partB && decide (s.size ≤ 255)) := by
  induction d with
  | zero =>
    intro k a i hai hi hk hn
    obtain ⟨k, rfl⟩ : ∃ m, k = m + 3 := ⟨k - 3, by omega⟩
    obtain rfl : i = s.size := by omega
    have hw : wrap64 ((s.size : Int) + 1) = (s.size : Int) + 1 := by unfold wrap64; omega
    rw [agateref08_Key.l0, if_pos (by omega), if_neg (by omega), agateref08_Key.j1, if_neg (by simp), if_pos (by omega), if_pos (by omega), if_pos (by omega), endOk_if, hw, Int.toNat_natCast, Int.toNat_natCast, pieces_end (by omega) hn]
    cases he : endOk (s.extract a s.size) with
    | false => rfl
    | true =>
      rw [if_pos rfl, agateref08_Key.l0, if_neg (by omega), Bool.true_and]
      congr 1
      exact decide_eq_decide.2 (by omega)
  | succ d ih =>
    intro k a i hai hi hk hn
    obtain ⟨k, rfl⟩ : ∃ m, k = m + 2 := ⟨k - 2, by omega⟩
    have hw : wrap64 ((i : Int) + 1) = ((i + 1 : Nat) : Int) := by unfold wrap64; omega
    rw [agateref08_Key.l0, if_pos (by omega), if_pos (by omega), if_pos (by omega), agateref08_Key.j1]
    by_cases h47 : bt s (i : Int) = 47
    · rw [if_neg (by rw [h47]; decide), if_pos (by omega), if_pos (by omega), if_pos (by omega), endOk_if, hw, Int.toNat_natCast, Int.toNat_natCast, pieces_slash hai (by omega) hn h47]
      cases he : endOk (s.extract a i) with
      | false => rfl
      | true =>
        rw [if_pos rfl, Bool.true_and]
        exact ih k (i + 1) (i + 1) (Nat.le_refl _) (by omega) (by omega) (fun j h1 h2 => by omega)
    · rw [if_pos (by simpa using h47), if_pos (by omega), if_pos (by omega), letter_f, Option.bind_some]
      cases ho : okb (bt s (i : Int)) with
      | false =>
        rw [if_neg (by simp), pieces_bad hai (by omega) (fun j h1 h2 => ?_) ho]
        · rfl
        · by_cases e : j = i
          · rw [e]; exact h47
          · intro e2
            have := hn j h1 (by omega)
            rw [e2] at this; cases this
      | true =>
        rw [if_pos rfl, hw]
        exact ih k a (i + 1) (by omega) (by omega) (by omega) (fun j h1 h2 => by
          by_cases e : j = i
          · rw [e]; exact ho
          · exact hn j h1 (by omega))
theorem refKey_f (s : ByteArray) (hs : s.size ≤ 140737488351232) (k : Nat) (hk : 2 * s.size + 4 ≤ k) : agateref08_Key.f k s = some (keyB s) := by
  have h := refKey_l s hs s.size k 0 0 (Nat.le_refl _) (by omega) hk (fun j h1 h2 => by omega)
  rw [ByteArray.extract_zero_size] at h
  exact h
end Go.Proofs.YtgmggompdidcoaaDoor.X
