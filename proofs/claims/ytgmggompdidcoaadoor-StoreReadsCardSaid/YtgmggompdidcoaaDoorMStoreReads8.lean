import Derived.Test.YtgmggompdidcoaaDoorMStoreReads2
import Derived.WalkLawsBesides
import Derived.MapKept
import Derived.Test.YtgmggompdidcoaaDoorMStoreReads7
import Derived.WideMake
namespace Go.Proofs.YtgmggompdidcoaaDoor.X
open Go.RowKit Go.Proofs.YtgmggompdidcoaaDoorW.PrintWords Go.Proofs.YtgmggompdidcoaaDoorW.PrintLast Go.Proofs.YtgmggompdidcoaaDoorW.PrintMore
attribute [local go_sem] max2_int min2_int max_two min_two max_three min_three max_four min_four
set_option linter.unusedVariables false
set_option linter.unusedSimpArgs false
instance lawfulBytes : LawfulBEq ByteArray where
  eq_of_beq h := (MapKept.bytes_beq _ _).1 h
  rfl := (MapKept.bytes_beq _ _).2 rfl
theorem same_str (a b : ByteArray) : Instr.sameNow .string (.string a) (.string b) = some (a == b) := by simp [Instr.sameNow]
theorem self_beq (a : ByteArray) : (a == a) = true := (MapKept.bytes_beq a a).2 rfl
theorem below_setObj2 {w W : World} {r : Nat} {o : Obj} (h : Below w.heap.size w W) (hr : w.heap.size ≤ r) : Below w.heap.size w { W with heap := W.heap.setIfInBounds r o } :=
  ⟨h.os, h.tape, h.output, by show _ ≤ (W.heap.setIfInBounds r o).size; rw [Array.size_setIfInBounds]; exact h.size, fun i hi => by
    show (W.heap.setIfInBounds r o)[i]? = _
    rw [Array.getElem?_setIfInBounds_ne (by omega)]; exact h.block i hi⟩
def flL : List (ByteArray × ByteArray) → Nat → List MapEntry
  | [], _ => []
  | x :: t, i => { key := .string x.1, val := .string x.2, born := i } :: flL t (i + 1)
def flE (l : List (ByteArray × ByteArray)) : Array MapEntry := (flL l 0).toArray
def getL : List (ByteArray × ByteArray) → ByteArray → Option ByteArray
  | [], _ => none
  | p :: t, k => if (k == p.1) = true then some p.2 else getL t k
def putL : List (ByteArray × ByteArray) → ByteArray → ByteArray → List (ByteArray × ByteArray)
  | [], k, v => [(k, v)]
  | p :: t, k, v => if (k == p.1) = true then (k, v) :: t else p :: putL t k v
theorem fl_get (nm : ByteArray) : ∀ (l : List (ByteArray × ByteArray)) (i j : Nat),
    (getL l nm = none → Instr.findNow .string (.string nm) (flL l i) j = some none) ∧ (∀ d, getL l nm = some d → ∃ q, Instr.findNow .string (.string nm) (flL l i) j = some (some (q, .string d)))
  | [], i, j => ⟨fun _ => rfl, fun d h => by cases h⟩
  | x :: t, i, j => by
    obtain ⟨h1, h2⟩ := fl_get nm t (i + 1) (j + 1)
    cases hb : (nm == x.1) with
    | true =>
      refine ⟨fun h => ?_, fun d h => ⟨j, ?_⟩⟩
      · rw [getL, if_pos hb] at h; cases h
      · rw [getL, if_pos hb] at h
        obtain rfl := Option.some.inj h
        rw [flL]
        simp only [Instr.findNow, same_str, hb]
    | false =>
      have hn : ¬ (nm == x.1) = true := by rw [hb]; simp
      refine ⟨fun h => ?_, fun d h => ?_⟩
      · rw [getL, if_neg hn] at h
        rw [flL]
        simp only [Instr.findNow, same_str, hb]
        exact h1 h
      · rw [getL, if_neg hn] at h
        rw [flL]
        simp only [Instr.findNow, same_str, hb]
        exact h2 d h
theorem fl_put (nm v : ByteArray) : ∀ (l : List (ByteArray × ByteArray)) (i j : Nat),
    (getL l nm = none ∧ Instr.findNow .string (.string nm) (flL l i) j = some none ∧ flL (putL l nm v) i = flL l i ++ [{ key := .string nm, val := .string v, born := i + l.length }] ∧ putL l nm v = l ++ [(nm, v)]) ∨
    (∃ q d, getL l nm = some d ∧ Instr.findNow .string (.string nm) (flL l i) j = some (some (j + q, .string d)) ∧ (flL l i).modify q (fun e => { e with key := .string nm, val := .string v }) = flL (putL l nm v) i ∧ (flL l i)[q]?.map (·.key) = some (.string nm) ∧ (putL l nm v).length = l.length)
  | [], i, j => .inl ⟨rfl, rfl, rfl, rfl⟩
  | x :: t, i, j => by
    cases hb : (nm == x.1) with
    | true =>
      have hx : nm = x.1 := (MapKept.bytes_beq nm x.1).1 hb
      refine .inr ⟨0, x.2, ?_, ?_, ?_, ?_, ?_⟩
      · rw [getL, if_pos hb]
      · rw [flL]
        simp only [Instr.findNow, same_str, hb]
        rfl
      · rw [putL, if_pos hb, flL, flL]; rfl
      · rw [flL, hx]; rfl
      · rw [putL, if_pos hb]; rfl
    | false =>
      have hn : ¬ (nm == x.1) = true := by rw [hb]; simp
      rcases fl_put nm v t (i + 1) (j + 1) with ⟨h0, h1, h2, h3⟩ | ⟨q, d, h0, h1, h2, h3, h4⟩
      · refine .inl ⟨?_, ?_, ?_, ?_⟩
        · rw [getL, if_neg hn]; exact h0
        · rw [flL]
          simp only [Instr.findNow, same_str, hb]
          exact h1
        · rw [putL, if_neg hn, flL, h2, flL, List.cons_append, List.length_cons]
          have e : i + 1 + t.length = i + (t.length + 1) := by omega
          rw [e]
        · rw [putL, if_neg hn, h3]; rfl
      · refine .inr ⟨q + 1, d, ?_, ?_, ?_, ?_, ?_⟩
        · rw [getL, if_neg hn]; exact h0
        · rw [flL]
          simp only [Instr.findNow, same_str, hb]
          rw [h1]; congr 3; omega
        · rw [putL, if_neg hn, flL, flL, List.modify_succ_cons, h2]
        · rw [flL]; exact h3
        · rw [putL, if_neg hn, List.length_cons, List.length_cons, h4]
def StrMap (W : World) (m : Option Nat) (l : List (ByteArray × ByteArray)) : Prop := (m = none ∧ l = []) ∨ ∃ r, m = some r ∧ W.heap[r]? = some (.map (flE l) l.length)
theorem StrMap.kept {W W' : World} {m : Option Nat} {l : List (ByteArray × ByteArray)} (h : StrMap W m l) (hb : Below W.heap.size W W') : StrMap W' m l := by
  rcases h with h | ⟨r, hr, h⟩
  · exact .inl h
  · exact .inr ⟨r, hr, (hb.block r (Array.getElem?_eq_some_iff.1 h).1).trans h⟩
theorem StrMap.set {W : World} {m : Option Nat} {l : List (ByteArray × ByteArray)} {g i t : Nat} {cs : Array Value} (h : StrMap W m l) (hg : W.heap[g]? = some (.cells cs t (0, 0))) (v : Value) : StrMap (W.setCell ⟨g, i, none⟩ v) m l := by
  rcases h with h | ⟨r, hr, h⟩
  · exact .inl h
  · refine .inr ⟨r, hr, (Below.heap_setCell _ _ _ _ ?_).trans h⟩
    rintro rfl
    rw [h] at hg; cases hg
theorem StrMap.drewN {W : World} {m : Option Nat} {l : List (ByteArray × ByteArray)} (h : StrMap W m l) (n : Nat) : StrMap (W.drewN n) m l := h
set_option maxRecDepth 100000 in
theorem lookup_fl {W : World} {m : Option Nat} {l : List (ByteArray × ByteArray)} (h : StrMap W m l) (nm : ByteArray) : (Instr.lookup 28 (.map m) (.string nm) true).run Tryd.prog W = .ok (.tuple #[.string ((getL l nm).getD ⟨#[]⟩), .bool (getL l nm).isSome]) W := by
  have hk : MapKept.IsKey .string (.string nm) := by simp [MapKept.IsKey]
  have hd : Tryd.prog.underlying 9 = some .string := Tryd.underlying9
  have hz : (zeroValue 9).run Tryd.prog W = .ok (.string ⟨#[]⟩) W := rfl
  rcases h with ⟨rfl, rfl⟩ | ⟨r, rfl, hb⟩
  · have hf : Instr.findNow .string (.string nm) ([] : List MapEntry) 0 = some none := rfl
    simp [Instr.lookup, run_underlying Tryd.underlying28, MapKept.run_checkKey hd hk, MapKept.run_findKey hd hf, Result.andThen, hz, getL]
  · obtain ⟨h1, h2⟩ := fl_get nm l 0 0
    cases hg : getL l nm with
    | none =>
      have hf : Instr.findNow .string (.string nm) (flE l).toList 0 = some none := h1 hg
      simp [Instr.lookup, run_underlying Tryd.underlying28, MapKept.run_getObj_map hb, MapKept.run_checkKey hd hk, MapKept.run_findKey hd hf, Result.andThen, hz]
    | some d =>
      obtain ⟨q, hq⟩ := h2 d hg
      have hf : Instr.findNow .string (.string nm) (flE l).toList 0 = some (some (q, .string d)) := hq
      simp [Instr.lookup, run_underlying Tryd.underlying28, MapKept.run_getObj_map hb, MapKept.run_checkKey hd hk, MapKept.run_findKey hd hf, Result.andThen]
theorem put_fl {w W : World} {r : Nat} (l : List (ByteArray × ByteArray)) (nm v : ByteArray) (hb : W.heap[r]? = some (.map (flE l) l.length)) (hr : w.heap.size ≤ r) (hB : Below w.heap.size w W) :
    ∃ W2, (Instr.mapUpdate 28 (.map (some r)) (.string nm) (.string v)).run Tryd.prog W = .ok () W2 ∧ W2.heap[r]? = some (.map (flE (putL l nm v)) (putL l nm v).length) ∧ Below w.heap.size w W2 ∧ W2.heap.size = W.heap.size ∧ ∀ g, g ≠ r → W2.heap[g]? = W.heap[g]? := by
  have hk : MapKept.IsKey .string (.string nm) := by simp [MapKept.IsKey]
  have hd : Tryd.prog.underlying 9 = some .string := Tryd.underlying9
  rcases fl_put nm v l 0 0 with ⟨_, hf0, hp, he⟩ | ⟨q, d, _, hf0, hm, hkey, hlen⟩
  · have hf : Instr.findNow .string (.string nm) (flE l).toList 0 = some none := hf0
    have hpush : (flE l).push { key := .string nm, val := .string v, born := l.length } = flE (putL l nm v) := by
      unfold flE
      rw [hp, List.push_toArray, Nat.zero_add]
    have hl : (putL l nm v).length = l.length + 1 := by rw [he, List.length_append]; rfl
    have h2 := MapKept.heap_set (o' := .map (flE (putL l nm v)) (l.length + 1)) hb
    refine ⟨{ W with heap := W.heap.setIfInBounds r (.map (flE (putL l nm v)) (l.length + 1)) }, ?_, by rw [hl]; exact h2.1, below_setObj2 hB hr, by simp, h2.2⟩
    simp [Instr.mapUpdate, run_underlying Tryd.underlying28, MapKept.run_getObj_map hb, MapKept.run_checkKey hd hk, MapKept.run_findKey hd hf, MapKept.run_setObj_map _ hb, Result.andThen, hpush]
  · have hf : Instr.findNow .string (.string nm) (flE l).toList 0 = some (some (0 + q, .string d)) := hf0
    have hold : (((flE l)[q]?).map (·.key)).getD (.string nm) = .string nm := by
      have : (flE l)[q]?.map (·.key) = some (.string nm) := by unfold flE; rw [List.getElem?_toArray]; exact hkey
      rw [this]; rfl
    have hs : (Instr.keyThatStays (.string nm) (.string nm)).run Tryd.prog W = .ok (.string nm) W := by
      unfold Instr.keyThatStays
      rw [if_pos (by simp [Instr.sameBits, self_beq])]; rfl
    have hmod : (flE l).modify q (fun e => { e with key := .string nm, val := .string v }) = flE (putL l nm v) := by
      unfold flE
      rw [← hm]; simp
    have h2 := MapKept.heap_set (o' := .map (flE (putL l nm v)) l.length) hb
    refine ⟨{ W with heap := W.heap.setIfInBounds r (.map (flE (putL l nm v)) l.length) }, ?_, by rw [hlen]; exact h2.1, below_setObj2 hB hr, by simp, h2.2⟩
    simp [Instr.mapUpdate, run_underlying Tryd.underlying28, MapKept.run_getObj_map hb, MapKept.run_checkKey hd hk, MapKept.run_findKey hd hf, MapKept.run_setObj_map _ hb, Result.andThen, hold, hs, hmod]
theorem wf_i64 {a : Int} (h : (Lit.int .i64 a).wf = true) : -9223372036854775808 ≤ a ∧ a < 9223372036854775808 := by
  have e1 : IntKind.i64.min = -9223372036854775808 := by decide
  have e2 : IntKind.i64.max = 9223372036854775807 := by decide
  simp only [Lit.wf, Bool.and_eq_true, decide_eq_true_eq, e1, e2] at h; omega
theorem wrap64_id {x : Int} (h0 : -9223372036854775808 ≤ x) (h1 : x < 9223372036854775808) : wrap64 x = x := by unfold wrap64; omega
def prs (l : List S24) : List (ByteArray × ByteArray) := l.map (fun f => (f.f0, f.f1))
def newR : List (ByteArray × ByteArray) → List S24 → Int
  | _, [] => 0
  | met, f :: t => if keyB f.f0 = true then (if (getL met f.f0).isSome = true then 14 else newR (met ++ [(f.f0, f.f1)]) t) else 9
def newC (l : List S24) : Int := if l.length > 64 then 7 else newR [] l
theorem putL_none {l : List (ByteArray × ByteArray)} {k : ByteArray} (v : ByteArray) (h : getL l k = none) : putL l k v = l ++ [(k, v)] := by
  rcases fl_put k v l 0 0 with ⟨_, _, _, h3⟩ | ⟨q, d, h0, _⟩
  · exact h3
  · rw [h] at h0; cases h0
def NewPost (w : World) (l : List S24) (e : Ending) (w' : World) : Prop := ∃ m, e = .returned (.tuple #[.agg #[.map m], .int .i64 (newC l)]) ∧ StrMap w' m (if newC l = 0 then prs l else []) ∧ Below w.heap.size w w'
theorem newPost_no {w w' : World} {l : List S24} {k : Int} (h : newC l = k) (hk : k ≠ 0) (hb : Below w.heap.size w w') {e : Ending} (he : e = .returned (.tuple #[.agg #[.map none], .int .i64 k])) : NewPost w l e w' :=
  ⟨none, by rw [he, h], .inl ⟨rfl, by rw [h, if_neg hk]⟩, hb⟩
theorem newPost_yes {w w' : World} {l : List S24} {m : Nat} (h : newC l = 0) (hb : Below w.heap.size w w') (hm : w'.heap[m]? = some (.map (flE (prs l)) l.length)) {e : Ending} (he : e = .returned (.tuple #[.agg #[.map (some m)], .int .i64 0])) : NewPost w l e w' :=
  ⟨some m, by rw [he, h], .inr ⟨m, rfl, by rw [h, if_pos rfl]; unfold prs at hm ⊢; rw [List.length_map]; exact hm⟩, hb⟩
theorem prs_snoc (l : List S24) (i : Nat) (h : i < l.length) : prs (l.take (i + 1)) = prs (l.take i) ++ [(l[i].f0, l[i].f1)] := by
  unfold prs
  rw [List.take_succ_eq_append_getElem h, List.map_append]; rfl
theorem objS {W : World} {g : Nat} {o : Obj} {p : Addr} {v : Value} (h : W.heap[g]? = some o) (ne : Aside0 (g ≠ p.block)) : (W.setCell p v).heap[g]? = some o := (Below.heap_setCell _ _ _ _ ne.out).trans h
set_option maxHeartbeats 8000000 in
set_option maxRecDepth 100000 in
theorem New_any (A : Option Addr) (c : Nat) (l : List S24) (w : World) (hr : Kd.C k24 w A l.length l) (hc : l.length ≤ c) (hk : ∀ f ∈ l, f.f0.size ≤ 140737488351232) :
    Calls Tryd.prog 6 #[.slice A l.length c] w (NewPost w l) := by
  have hu := Tryd.underlying30
  have hu2 := Tryd.underlying24
  have HR := Aside0.mk hr
  have HL := Aside0.mk hr.2.1
  have HK := Aside0.mk hk
  have HB := Aside0.mk (Below.refl w.heap.size w)
  clear hr hc hk
  go_enter Tryd.func6, Tryd.ntmps6
  by_cases h64 : l.length > 64
  · have b64 : decide (64 < (l.length : Int)) = true := decide_eq_true (by omega)
    have HX := Aside0.mk (show newC l = 7 from if_pos h64)
    clear h64
    go_wp2_with (first | ((with_reducible refine gate_dst (N := 2) rfl ?_); refine boxE (N := 2) (cs := #[.map none]) (t := 30) ?_; intro gb2 hg w2 hbox hb; have BK2 := mk0 hbox; have GW2 := gwS HB hg; replace HB := hbS HB hb; clear hb hbox hg; have hc2 := cz1 BK2; have hf2 := fz BK2 0))
    refine bodyPost_ret (results_ct rfl _ _ gb2 30 #[.map none] (0, 0) _ rfl (bkW BK2) Tryd.underlying30 rfl (by kernel_rfl)) rfl ?_
    exact newPost_no HX.out (by decide) (below_set HB.out GW2.out) rfl
  have b64 : decide (64 < (l.length : Int)) = false := decide_eq_false (by omega)
  have HX := Aside0.mk (show newC l = newR [] l from if_neg h64)
  have H64 := Aside0.mk h64
  clear h64
  go_wp2_with (first | ((with_reducible refine gate_dst (N := 2) rfl ?_); refine boxE (N := 2) (cs := #[.map none]) (t := 30) ?_; intro gb2 hg w2 hbox hb; have BK2 := mk0 hbox; have GW2 := gwS HB hg; replace HB := hbS HB hb; clear hb hbox hg; have hc2 := cz1 BK2; have hf2 := fz BK2 0) | ((with_reducible refine gate_dst (N := 13) rfl ?_); refine mapE (N := 13) ?_; intro gm hg w3 hbox hb; have BKm := mk0 hbox; have GWm := gwS HB hg; have NB2m := neS BK2 hg; replace HB := hbS HB hb; replace BK2 := bkS BK2 hb; clear hb hbox hg) | ((with_reducible refine gate_dst (N := 4) rfl ?_); refine boxE (N := 4) (cs := #[.map none]) (t := 30) ?_; intro gb4 hg w4 hbox hb; have BK4 := mk0 hbox; have GW4 := gwS HB hg; have NB24 := neS BK2 hg; have NB42 := neT BK2 hg; have NBm4 := neS BKm hg; replace HB := hbS HB hb; replace BK2 := bkS BK2 hb; replace BKm := bkS BKm hb; clear hb hbox hg hc2 hf2; have hc4 := cz1 BK4; have hf4 := fz BK4 0))
  go_loopg [17] l.length (fun kq v17 w' => ∃ i : Nat, v17 = .int .i64 i ∧ Aside0 (i + kq = l.length) ∧ Aside0 (newR [] l = newR (prs (l.take i)) (l.drop i)) ∧ Aside0 (w'.heap[gm]? = some (.map (flE (prs (l.take i))) i)) ∧ Aside0 (w'.heap[gb4]? = some (.cells #[.map (some gm)] 30 (0, 0))) ∧ Aside0 (w'.heap[gb2]? = some (.cells #[.map none] 30 (0, 0))) ∧ Aside0 (Below w.heap.size w w'))
  case atStart => exact ⟨0, rfl, ⟨by omega⟩, ⟨rfl⟩, ⟨(Below.heap_setCell _ ⟨gb4, 0, none⟩ _ _ NBm4.out).trans BKm.out⟩, ⟨bkW BK4⟩, ⟨bkW BK2⟩, ⟨below_set HB.out GW4.out⟩⟩
  case round =>
  clear BK2 BKm BK4 HB hc4 hf4
  obtain ⟨i, rfl, HN, HE, BKm, BK4, BK2, HB⟩ := hrel
  by_cases hlt : i < l.length
  · have hlt' : decide ((i : Int) < (l.length : Int)) = true := decide_eq_true (by omega)
    obtain ⟨kk, rfl⟩ : ∃ m, gk = m + 1 := ⟨gk - 1, by have := HN.out; omega⟩
    have p101 : 0 ≤ (i : Int) := Int.natCast_nonneg i
    have q101 : (i : Int) < (l.length : Int) := by omega
    obtain ⟨ad101, e101, hx101_0, hx101_1⟩ := at_T24 (Kd.C_below HR.out HB.out) (i : Int) p101 q101
    cases e101
    rw [Int.toNat_natCast] at hx101_0 hx101_1
    have hrd : rd_T24 l (i : Int) = l[i] := by simp [rd_T24, hlt]
    rw [hrd] at hx101_0 hx101_1
    have HS := Aside0.mk (prs_snoc l i hlt)
    have HKi := Aside0.mk (HK.out l[i] (List.getElem_mem hlt))
    have HD := Aside0.mk (show l.drop i = l[i] :: l.drop (i + 1) from List.drop_eq_getElem_cons hlt)
    clear hrd
    generalize l[i] = x at hx101_0 hx101_1 HS HKi HD
    obtain ⟨x0, x1⟩ := x
    have HE2 := Aside0.mk (HE.out.trans (by rw [HD.out, newR]))
    clear HE HD
    have Hw : Aside0 (wrap64 ((i : Int) + 1) = (i : Int) + 1) := ⟨by have := HL.out; exact wrap64_id (by omega) (by omega)⟩
    have HI := Aside0.mk hlt
    clear hlt
    replace p101 := eq_true p101
    replace q101 := eq_true q101
    obtain ⟨kb, hkb⟩ : ∃ kb, keyB x0 = kb := ⟨_, rfl⟩
    have HC := Aside0.mk (Key_any x0 HKi.out)
    rw [hkb] at HC
    have HKB := Aside0.mk hkb
    clear hkb
    have FF : Aside0 (HX.out.trans HE2.out = HX.out.trans HE2.out) := ⟨rfl⟩
    clear FF
    go_wp2_with (first | ((with_reducible refine gate_dst (N := 6) rfl ?_); refine boxE (N := 6) (cs := #[.string (⟨#[]⟩ : ByteArray), .string (⟨#[]⟩ : ByteArray)]) (t := 24) ?_; intro gb6 hg w6 hbox hb; have BK6 := mk0 hbox; have GW6 := gwS HB hg; have NB26 := neS BK2 hg; have NB46 := neS BK4 hg; have NBm6 := neS BKm hg; replace HB := hbS HB hb; replace BK2 := bkS BK2 hb; replace BK4 := bkS BK4 hb; replace BKm := bkS BKm hb; clear hb hbox hg; obtain ⟨hc60, hc61⟩ := cz2 BK6; have hf60 := fz BK6 0; have hf61 := fz BK6 1))
    obtain ⟨w7, hw7⟩ : ∃ w7, w7 = (w6.setCell ⟨gb6, 0, none⟩ (.string x0)).setCell ⟨gb6, 1, none⟩ (.string x1) := ⟨_, rfl⟩
    rw [← hw7]
    replace HB := mk0 (show Below w.heap.size w w7 from by rw [hw7]; exact below_set (below_set HB.out GW6.out) GW6.out)
    have BK6' := mk0 (show w7.heap[gb6]? = some (.cells #[.string x0, .string x1] 24 (0, 0)) from by rw [hw7]; exact bkW BK6)
    replace BK2 := mk0 (show w7.heap[gb2]? = some (.cells #[.map none] 30 (0, 0)) from by rw [hw7]; exact bkW BK2)
    replace BK4 := mk0 (show w7.heap[gb4]? = some (.cells #[.map (some gm)] 30 (0, 0)) from by rw [hw7]; exact bkW BK4)
    replace BKm := mk0 (show w7.heap[gm]? = some (.map (flE (prs (l.take i))) i) from by rw [hw7]; exact objS (objS BKm.out NBm6) NBm6)
    clear BK6 hc60 hc61 hf60 hf61 hw7
    refine (HC.out _).mono ?_
    rintro e w8 ⟨rfl, hb⟩
    replace BK6' := bkS BK6' hb; replace BK2 := bkS BK2 hb; replace BK4 := bkS BK4 hb; replace BKm := bkS BKm hb; replace HB := hbS HB hb
    clear hb
    have hc2 := cz1 BK2; have hf2 := fz BK2 0; have hc4 := cz1 BK4
    obtain ⟨hc60, hc61⟩ := cz2 BK6'
    cases kb with
    | false =>
      have HX9 := Aside0.mk (HX.out.trans (HE2.out.trans (if_neg (by rw [HKB.out]; simp))))
      go_wp2
      refine bodyPost_ret (results_ct rfl _ _ gb2 30 #[.map none] (0, 0) _ rfl (bkW BK2) Tryd.underlying30 rfl (by kernel_rfl)) rfl ?_
      exact newPost_no HX9.out (by decide) (below_set HB.out GW2.out) rfl
    | true =>
      have HE3 := Aside0.mk (HE2.out.trans (if_pos HKB.out))
      clear HE2
      have hlk := lookup_fl (W := w8) (m := some gm) (l := prs (l.take i)) (.inr ⟨gm, rfl, by have h := BKm.out; rw [show (prs (l.take i)).length = i from by unfold prs; rw [List.length_map, List.length_take]; have := HI.out; omega]; exact h⟩) x0
      cases hg : getL (prs (l.take i)) x0 with
      | some d =>
        rw [hg] at hlk
        have HX9 := Aside0.mk (HX.out.trans (HE3.out.trans (if_pos (by rw [hg]; rfl))))
        clear hg
        go_wp2
        refine bodyPost_ret (results_ct rfl _ _ gb2 30 #[.map none] (0, 0) _ rfl (bkW BK2) Tryd.underlying30 rfl (by kernel_rfl)) rfl ?_
        exact newPost_no HX9.out (by decide) (below_set HB.out GW2.out) rfl
      | none =>
        rw [hg] at hlk
        have HX9 := Aside0.mk (HE3.out.trans (if_neg (by rw [hg]; simp)))
        have HP := Aside0.mk (putL_none x1 hg)
        have hlen : (prs (l.take i)).length = i := by unfold prs; rw [List.length_map, List.length_take]; have := HI.out; omega
        obtain ⟨w9, hrun, hm9, hb9, hz9, hfar⟩ := put_fl (w := w) (W := w8) (prs (l.take i)) x0 x1 (by rw [hlen]; exact BKm.out) GWm.out HB.out
        rw [HP.out] at hm9
        have BKm9 := Aside0.mk (show w9.heap[gm]? = some (.map (flE (prs (l.take (i + 1)))) (i + 1)) from by rw [HS.out, hm9, List.length_append, hlen]; rfl)
        have HX10 := Aside0.mk (show newR [] l = newR (prs (l.take (i + 1))) (l.drop (i + 1)) from by rw [HS.out]; exact HX9.out)
        have BK49 := Aside0.mk ((hfar gb4 (Ne.symm NBm4.out)).trans BK4.out)
        have BK29 := Aside0.mk ((hfar gb2 NB2m.out).trans BK2.out)
        have HB9 := Aside0.mk hb9
        clear hg HE3 hlen hm9 hb9 hz9 hfar
        go_wp2
        go_roundg kk
        case measure => omega
        case rel => exact ⟨i + 1, by rw [Hw.out]; rfl, ⟨by have := HN.out; omega⟩, HX10, BKm9, BK49, BK29, HB9⟩
  · have hge : decide ((i : Int) < (l.length : Int)) = false := decide_eq_false (by omega)
    have hi : i = l.length := by
      have := HN.out
      omega
    subst hi
    have HX0 := Aside0.mk (show newC l = 0 from by rw [HX.out, HE.out, List.drop_length]; rfl)
    have BKm' := Aside0.mk (show wr.heap[gm]? = some (.map (flE (prs l)) l.length) from by rw [← List.take_length (l := l)]; have h := BKm.out; rw [List.take_length] at h ⊢; exact h)
    have hc2 := cz1 BK2; have hf2 := fz BK2 0; have hc4 := cz1 BK4
    clear hlt
    go_wp2
    refine bodyPost_ret (results_ct rfl _ _ gb2 30 #[.map (some gm)] (0, 0) _ rfl (bkW BK2) Tryd.underlying30 rfl (by kernel_rfl)) rfl ?_
    exact newPost_yes HX0.out (below_set HB.out GW2.out) (objS BKm'.out ⟨Ne.symm NB2m.out⟩) rfl
end Go.Proofs.YtgmggompdidcoaaDoor.X
