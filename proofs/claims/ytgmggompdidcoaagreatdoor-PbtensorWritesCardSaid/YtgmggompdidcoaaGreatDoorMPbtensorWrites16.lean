import Derived.Test.YtgmggompdidcoaaGreatDoorMPbtensorWrites2
import Derived.Test.YtgmggompdidcoaaGreatDoorMPbtensorWrites15
import Derived.WalkLawsBesides
import Derived.MapKept
import Derived.RangeFuncNested
import Derived.RangeFuncBound
import Derived.RangeFuncCalls
import Derived.RangeFuncLeaves
import Derived.Shelf.Abstract
import Derived.Shelf.RegionOpen
import Derived.OwnWalkIn
import Derived.TacticsInMore
import Derived.LoopNIn
import Derived.LoopIn
import Derived.Lib.Bytealg
import Derived.Lib.Walk
import Derived.Lib.Strings
import Derived.Lib.Slices
import Derived.Laws.Strings3
import Derived.Lib.IndexLaws
namespace Go.Proofs.YtgmggompdidcoaaGreatDoor.X
open Go.RowKit Go.Proofs.YtgmggompdidcoaaGreatDoorW.PrintWords Go.Proofs.YtgmggompdidcoaaGreatDoorW.PrintLast Go.Proofs.YtgmggompdidcoaaGreatDoorW.PrintMore
attribute [local go_sem] max2_int min2_int max_two min_two max_three min_three max_four min_four
set_option linter.unusedVariables false
set_option linter.unusedSimpArgs false
instance lawfulBytes : LawfulBEq ByteArray where
  eq_of_beq h := (MapKept.bytes_beq _ _).1 h
  rfl := (MapKept.bytes_beq _ _).2 rfl
theorem same_str (a b : ByteArray) : Instr.sameNow .string (.string a) (.string b) = some (a == b) := by simp [Instr.sameNow]
theorem self_beq (a : ByteArray) : (a == a) = true := (MapKept.bytes_beq a a).2 rfl
theorem below_setObj2 {w W : World} {r : Nat} {o : Obj} (h : Below w.heap.size w W) (hr : w.heap.size ≤ r) : Below w.heap.size w { W with heap := W.heap.setIfInBounds r o } :=
  ⟨h.os, h.tape, h.output, by show _ ≤ (W.heap.setIfInBounds r o).size; rw [Array.size_setIfInBounds]; exact h.size, fun i hi => by
    show (W.heap.setIfInBounds r o)[i]? = _
    rw [Array.getElem?_setIfInBounds_ne (by omega)]; exact h.block i hi⟩
def flL : List (ByteArray × ByteArray) → Nat → List MapEntry
  | [], _ => []
  | x :: t, i => { key := .string x.1, val := .string x.2, born := i } :: flL t (i + 1)
def flE (l : List (ByteArray × ByteArray)) : Array MapEntry := (flL l 0).toArray
def getL : List (ByteArray × ByteArray) → ByteArray → Option ByteArray
  | [], _ => none
  | p :: t, k => if (k == p.1) = true then some p.2 else getL t k
def putL : List (ByteArray × ByteArray) → ByteArray → ByteArray → List (ByteArray × ByteArray)
  | [], k, v => [(k, v)]
  | p :: t, k, v => if (k == p.1) = true then (k, v) :: t else p :: putL t k v
theorem fl_get (nm : ByteArray) : ∀ (l : List (ByteArray × ByteArray)) (i j : Nat),
    (getL l nm = none → Instr.findNow .string (.string nm) (flL l i) j = some none) ∧ (∀ d, getL l nm = some d → ∃ q, Instr.findNow .string (.string nm) (flL l i) j = some (some (q, .string d)))
  | [], i, j => ⟨fun _ => rfl, fun d h => by cases h⟩
  | x :: t, i, j => by
    obtain ⟨h1, h2⟩ := fl_get nm t (i + 1) (j + 1)
    cases hb : (nm == x.1) with
    | true =>
      refine ⟨fun h => ?_, fun d h => ⟨j, ?_⟩⟩
      · rw [getL, if_pos hb] at h; cases h
      · rw [getL, if_pos hb] at h
        obtain rfl := Option.some.inj h
        rw [flL]
        simp only [Instr.findNow, same_str, hb]
    | false =>
      have hn : ¬ (nm == x.1) = true := by rw [hb]; simp
      refine ⟨fun h => ?_, fun d h => ?_⟩
      · rw [getL, if_neg hn] at h
        rw [flL]
        simp only [Instr.findNow, same_str, hb]
        exact h1 h
      · rw [getL, if_neg hn] at h
        rw [flL]
        simp only [Instr.findNow, same_str, hb]
        exact h2 d h
theorem fl_put (nm v : ByteArray) : ∀ (l : List (ByteArray × ByteArray)) (i j : Nat),
    (getL l nm = none ∧ Instr.findNow .string (.string nm) (flL l i) j = some none ∧ flL (putL l nm v) i = flL l i ++ [{ key := .string nm, val := .string v, born := i + l.length }] ∧ putL l nm v = l ++ [(nm, v)]) ∨
    (∃ q d, getL l nm = some d ∧ Instr.findNow .string (.string nm) (flL l i) j = some (some (j + q, .string d)) ∧ (flL l i).modify q (fun e => { e with key := .string nm, val := .string v }) = flL (putL l nm v) i ∧ (flL l i)[q]?.map (·.key) = some (.string nm) ∧ (putL l nm v).length = l.length)
  | [], i, j => .inl ⟨rfl, rfl, rfl, rfl⟩
  | x :: t, i, j => by
    cases hb : (nm == x.1) with
    | true =>
      have hx : nm = x.1 := (MapKept.bytes_beq nm x.1).1 hb
      refine .inr ⟨0, x.2, ?_, ?_, ?_, ?_, ?_⟩
      · rw [getL, if_pos hb]
      · rw [flL]
        simp only [Instr.findNow, same_str, hb]
        rfl
      · rw [putL, if_pos hb, flL, flL]; rfl
      · rw [flL, hx]; rfl
      · rw [putL, if_pos hb]; rfl
    | false =>
      have hn : ¬ (nm == x.1) = true := by rw [hb]; simp
      rcases fl_put nm v t (i + 1) (j + 1) with ⟨h0, h1, h2, h3⟩ | ⟨q, d, h0, h1, h2, h3, h4⟩
      · refine .inl ⟨?_, ?_, ?_, ?_⟩
        · rw [getL, if_neg hn]; exact h0
        · rw [flL]
          simp only [Instr.findNow, same_str, hb]
          exact h1
        · rw [putL, if_neg hn, flL, h2, flL, List.cons_append, List.length_cons]
          have e : i + 1 + t.length = i + (t.length + 1) := by omega
          rw [e]
        · rw [putL, if_neg hn, h3]; rfl
      · refine .inr ⟨q + 1, d, ?_, ?_, ?_, ?_, ?_⟩
        · rw [getL, if_neg hn]; exact h0
        · rw [flL]
          simp only [Instr.findNow, same_str, hb]
          rw [h1]; congr 3; omega
        · rw [putL, if_neg hn, flL, flL, List.modify_succ_cons, h2]
        · rw [flL]; exact h3
        · rw [putL, if_neg hn, List.length_cons, List.length_cons, h4]
def StrMap (W : World) (m : Option Nat) (l : List (ByteArray × ByteArray)) : Prop := (m = none ∧ l = []) ∨ ∃ r, m = some r ∧ W.heap[r]? = some (.map (flE l) l.length)
theorem StrMap.kept {W W' : World} {m : Option Nat} {l : List (ByteArray × ByteArray)} (h : StrMap W m l) (hb : Below W.heap.size W W') : StrMap W' m l := by
  rcases h with h | ⟨r, hr, h⟩
  · exact .inl h
  · exact .inr ⟨r, hr, (hb.block r (Array.getElem?_eq_some_iff.1 h).1).trans h⟩
theorem StrMap.set {W : World} {m : Option Nat} {l : List (ByteArray × ByteArray)} {g i t : Nat} {cs : Array Value} (h : StrMap W m l) (hg : W.heap[g]? = some (.cells cs t (0, 0))) (v : Value) : StrMap (W.setCell ⟨g, i, none⟩ v) m l := by
  rcases h with h | ⟨r, hr, h⟩
  · exact .inl h
  · refine .inr ⟨r, hr, (Below.heap_setCell _ _ _ _ ?_).trans h⟩
    rintro rfl
    rw [h] at hg; cases hg
theorem StrMap.drewN {W : World} {m : Option Nat} {l : List (ByteArray × ByteArray)} (h : StrMap W m l) (n : Nat) : StrMap (W.drewN n) m l := h
set_option maxRecDepth 100000 in
theorem lookup_fl {W : World} {m : Option Nat} {l : List (ByteArray × ByteArray)} (h : StrMap W m l) (nm : ByteArray) : (Instr.lookup 23 (.map m) (.string nm) true).run Tryz.prog W = .ok (.tuple #[.string ((getL l nm).getD ⟨#[]⟩), .bool (getL l nm).isSome]) W := by
  have hk : MapKept.IsKey .string (.string nm) := by simp [MapKept.IsKey]
  have hd : Tryz.prog.underlying 9 = some .string := Tryz.underlying9
  have hz : (zeroValue 9).run Tryz.prog W = .ok (.string ⟨#[]⟩) W := rfl
  rcases h with ⟨rfl, rfl⟩ | ⟨r, rfl, hb⟩
  · have hf : Instr.findNow .string (.string nm) ([] : List MapEntry) 0 = some none := rfl
    simp [Instr.lookup, run_underlying Tryz.underlying23, MapKept.run_checkKey hd hk, MapKept.run_findKey hd hf, Result.andThen, hz, getL]
  · obtain ⟨h1, h2⟩ := fl_get nm l 0 0
    cases hg : getL l nm with
    | none =>
      have hf : Instr.findNow .string (.string nm) (flE l).toList 0 = some none := h1 hg
      simp [Instr.lookup, run_underlying Tryz.underlying23, MapKept.run_getObj_map hb, MapKept.run_checkKey hd hk, MapKept.run_findKey hd hf, Result.andThen, hz]
    | some d =>
      obtain ⟨q, hq⟩ := h2 d hg
      have hf : Instr.findNow .string (.string nm) (flE l).toList 0 = some (some (q, .string d)) := hq
      simp [Instr.lookup, run_underlying Tryz.underlying23, MapKept.run_getObj_map hb, MapKept.run_checkKey hd hk, MapKept.run_findKey hd hf, Result.andThen]
theorem put_fl {w W : World} {r : Nat} (l : List (ByteArray × ByteArray)) (nm v : ByteArray) (hb : W.heap[r]? = some (.map (flE l) l.length)) (hr : w.heap.size ≤ r) (hB : Below w.heap.size w W) :
    ∃ W2, (Instr.mapUpdate 23 (.map (some r)) (.string nm) (.string v)).run Tryz.prog W = .ok () W2 ∧ W2.heap[r]? = some (.map (flE (putL l nm v)) (putL l nm v).length) ∧ Below w.heap.size w W2 ∧ W2.heap.size = W.heap.size ∧ ∀ g, g ≠ r → W2.heap[g]? = W.heap[g]? := by
  have hk : MapKept.IsKey .string (.string nm) := by simp [MapKept.IsKey]
  have hd : Tryz.prog.underlying 9 = some .string := Tryz.underlying9
  rcases fl_put nm v l 0 0 with ⟨_, hf0, hp, he⟩ | ⟨q, d, _, hf0, hm, hkey, hlen⟩
  · have hf : Instr.findNow .string (.string nm) (flE l).toList 0 = some none := hf0
    have hpush : (flE l).push { key := .string nm, val := .string v, born := l.length } = flE (putL l nm v) := by
      unfold flE
      rw [hp, List.push_toArray, Nat.zero_add]
    have hl : (putL l nm v).length = l.length + 1 := by rw [he, List.length_append]; rfl
    have h2 := MapKept.heap_set (o' := .map (flE (putL l nm v)) (l.length + 1)) hb
    refine ⟨{ W with heap := W.heap.setIfInBounds r (.map (flE (putL l nm v)) (l.length + 1)) }, ?_, by rw [hl]; exact h2.1, below_setObj2 hB hr, by simp, h2.2⟩
    simp [Instr.mapUpdate, run_underlying Tryz.underlying23, MapKept.run_getObj_map hb, MapKept.run_checkKey hd hk, MapKept.run_findKey hd hf, MapKept.run_setObj_map _ hb, Result.andThen, hpush]
  · have hf : Instr.findNow .string (.string nm) (flE l).toList 0 = some (some (0 + q, .string d)) := hf0
    have hold : (((flE l)[q]?).map (·.key)).getD (.string nm) = .string nm := by
      have : (flE l)[q]?.map (·.key) = some (.string nm) := by unfold flE; rw [List.getElem?_toArray]; exact hkey
      rw [this]; rfl
    have hs : (Instr.keyThatStays (.string nm) (.string nm)).run Tryz.prog W = .ok (.string nm) W := by
      unfold Instr.keyThatStays
      rw [if_pos (by simp [Instr.sameBits, self_beq])]; rfl
    have hmod : (flE l).modify q (fun e => { e with key := .string nm, val := .string v }) = flE (putL l nm v) := by
      unfold flE
      rw [← hm]; simp
    have h2 := MapKept.heap_set (o' := .map (flE (putL l nm v)) l.length) hb
    refine ⟨{ W with heap := W.heap.setIfInBounds r (.map (flE (putL l nm v)) l.length) }, ?_, by rw [hlen]; exact h2.1, below_setObj2 hB hr, by simp, h2.2⟩
    simp [Instr.mapUpdate, run_underlying Tryz.underlying23, MapKept.run_getObj_map hb, MapKept.run_checkKey hd hk, MapKept.run_findKey hd hf, MapKept.run_setObj_map _ hb, Result.andThen, hold, hs, hmod]
def store_part.l0 : Nat → ByteArray → Int → Int → Option (Bool)
 | 0, _, _, _ => none
 | k + 1, x0, x6, x7 => if x7 < x6 then (if 0 ≤ x7 then (if x7 < (x0.size : Int) then (if (bt x0 x7) < 97 then (if (bt x0 x7) < 65 then (if (bt x0 x7) < 48 then (if (bt x0 x7) = 46 then (store_part.l0 k x0 x6 (wrap64 (x7 + 1))) else (if (bt x0 x7) = 95 then (store_part.l0 k x0 x6 (wrap64 (x7 + 1))) else (if (bt x0 x7) = 45 then (store_part.l0 k x0 x6 (wrap64 (x7 + 1))) else (some false)))) else (if (bt x0 x7) > 57 then (if (bt x0 x7) = 46 then (store_part.l0 k x0 x6 (wrap64 (x7 + 1))) else (if (bt x0 x7) = 95 then (store_part.l0 k x0 x6 (wrap64 (x7 + 1))) else (if (bt x0 x7) = 45 then (store_part.l0 k x0 x6 (wrap64 (x7 + 1))) else (some false)))) else (store_part.l0 k x0 x6 (wrap64 (x7 + 1))))) else (if (bt x0 x7) > 90 then (if (bt x0 x7) < 48 then (if (bt x0 x7) = 46 then (store_part.l0 k x0 x6 (wrap64 (x7 + 1))) else (if (bt x0 x7) = 95 then (store_part.l0 k x0 x6 (wrap64 (x7 + 1))) else (if (bt x0 x7) = 45 then (store_part.l0 k x0 x6 (wrap64 (x7 + 1))) else (some false)))) else (if (bt x0 x7) > 57 then (if (bt x0 x7) = 46 then (store_part.l0 k x0 x6 (wrap64 (x7 + 1))) else (if (bt x0 x7) = 95 then (store_part.l0 k x0 x6 (wrap64 (x7 + 1))) else (if (bt x0 x7) = 45 then (store_part.l0 k x0 x6 (wrap64 (x7 + 1))) else (some false)))) else (store_part.l0 k x0 x6 (wrap64 (x7 + 1))))) else (store_part.l0 k x0 x6 (wrap64 (x7 + 1))))) else (if (bt x0 x7) > 122 then (if (bt x0 x7) < 65 then (if (bt x0 x7) < 48 then (if (bt x0 x7) = 46 then (store_part.l0 k x0 x6 (wrap64 (x7 + 1))) else (if (bt x0 x7) = 95 then (store_part.l0 k x0 x6 (wrap64 (x7 + 1))) else (if (bt x0 x7) = 45 then (store_part.l0 k x0 x6 (wrap64 (x7 + 1))) else (some false)))) else (if (bt x0 x7) > 57 then (if (bt x0 x7) = 46 then (store_part.l0 k x0 x6 (wrap64 (x7 + 1))) else (if (bt x0 x7) = 95 then (store_part.l0 k x0 x6 (wrap64 (x7 + 1))) else (if (bt x0 x7) = 45 then (store_part.l0 k x0 x6 (wrap64 (x7 + 1))) else (some false)))) else (store_part.l0 k x0 x6 (wrap64 (x7 + 1))))) else (if (bt x0 x7) > 90 then (if (bt x0 x7) < 48 then (if (bt x0 x7) = 46 then (store_part.l0 k x0 x6 (wrap64 (x7 + 1))) else (if (bt x0 x7) = 95 then (store_part.l0 k x0 x6 (wrap64 (x7 + 1))) else (if (bt x0 x7) = 45 then (store_part.l0 k x0 x6 (wrap64 (x7 + 1))) else (some false)))) else (if (bt x0 x7) > 57 then (if (bt x0 x7) = 46 then (store_part.l0 k x0 x6 (wrap64 (x7 + 1))) else (if (bt x0 x7) = 95 then (store_part.l0 k x0 x6 (wrap64 (x7 + 1))) else (if (bt x0 x7) = 45 then (store_part.l0 k x0 x6 (wrap64 (x7 + 1))) else (some false)))) else (store_part.l0 k x0 x6 (wrap64 (x7 + 1))))) else (store_part.l0 k x0 x6 (wrap64 (x7 + 1))))) else (store_part.l0 k x0 x6 (wrap64 (x7 + 1))))) else (none)) else (none)) else (if x0.toList = ([] : List UInt8) then (some false) else (if x0.toList = ([46] : List UInt8) then (some false) else (some (x0.toList != ([46, 46] : List UInt8)))))
def store_part.f (k : Nat) (a0 : ByteArray) : Option (Bool) := store_part.l0 k a0 (a0.size : Int) 0
set_option maxHeartbeats 8000000 in
set_option maxRecDepth 100000 in
theorem store_part.calls (k : Nat) (a0 : ByteArray) (r : Bool) (w : World) (h : store_part.f k a0 = some r) :
  Calls Tryz.prog 78 #[.string a0] w fun e w' => e = .returned (.bool r) ∧ Drawn0 w w' := by
 have H : (store_part.l0 k a0 (a0.size : Int) 0) = some r := h; clear h; have H' := mk0 H; clear H
 go_enter Tryz.func78, Tryz.ntmps78
 go_wp2
 go_loopg [7] k (fun kq v7 w' => ∃ (x7_1 : Int), v7 = .int .i64 x7_1 ∧ Aside0 (store_part.l0 kq a0 (a0.size : Int) x7_1 = some r) ∧ Aside0 (kq ≤ k) ∧ Drawn0 w w')
 case atStart => exact ⟨(0), cl0, H', ⟨Nat.le_refl _⟩, by repeat (first | exact Drawn0.refl _ | apply Drawn0.step)⟩
 case round =>
  clear H'; obtain ⟨x7_1, rfl, HA, HK1, ⟨m1, rfl⟩⟩ := hrel
  cases gk with
  | zero => exact absurd HA.out (by simp [store_part.l0])
  | succ k1 =>
   have H := HA.out; clear HA
   simp only [store_part.l0] at H
   by_cases c2 : x7_1 < (a0.size : Int)
   ·
    rw [if_pos c2] at H; have c2b0 := decide_eq_true c2; clear c2; replace H := ifS H; obtain ⟨c3, H⟩ := H; have c3b0 := decide_eq_true c3; clear c3
    by_cases c4 : x7_1 < (a0.size : Int)
    ·
     rw [if_pos c4] at H; have c4b0 := decide_eq_true c4; clear c4
     by_cases c6 : (bt a0 x7_1) < 97
     ·
      rw [if_pos c6] at H; have c6b0 := decide_eq_true c6; clear c6
      by_cases c7 : (bt a0 x7_1) < 65
      ·
       rw [if_pos c7] at H; have c7b0 := decide_eq_true c7; clear c7
       by_cases c8 : (bt a0 x7_1) < 48
       ·
        rw [if_pos c8] at H; have c8b0 := decide_eq_true c8; clear c8
        by_cases c9 : (bt a0 x7_1) = 46
        ·
         rw [if_pos c9] at H; have c9b0 := beq_iff_eq.mpr c9; have c9b1 := bne_eq_false_iff_eq.mpr c9; clear c9; have H' := mk0 H; clear H; have p5 : 0 ≤ (x7_1 : Int) := ofd; have q5 : x7_1 < (a0.size : Int) := ofd; have hx5 := bt_at a0 x7_1; replace p5 := eq_true p5; replace q5 := eq_true q5
         go_wp2
         go_roundg k1
         case measure => have := HK1.out; omega
         case rel => exact ⟨(wrap64 (x7_1 + 1)), cl0, H', cl2 HK1, by repeat (first | exact Drawn0.refl _ | apply Drawn0.step)⟩
        ·
         rw [if_neg c9] at H; have c9b0 := beq_eq_false_iff_ne.mpr c9; have c9b1 := bne_iff_ne.mpr c9
         by_cases c10 : (bt a0 x7_1) = 95
         ·
          rw [if_pos c10] at H; have c10b0 := beq_iff_eq.mpr c10; have c10b1 := bne_eq_false_iff_eq.mpr c10; clear c10; have H' := mk0 H; clear H; have p5 : 0 ≤ (x7_1 : Int) := ofd; have q5 : x7_1 < (a0.size : Int) := ofd; have hx5 := bt_at a0 x7_1; replace p5 := eq_true p5; replace q5 := eq_true q5
          go_wp2
          go_roundg k1
          case measure => have := HK1.out; omega
          case rel => exact ⟨(wrap64 (x7_1 + 1)), cl0, H', cl2 HK1, by repeat (first | exact Drawn0.refl _ | apply Drawn0.step)⟩
         ·
          rw [if_neg c10] at H; have c10b0 := beq_eq_false_iff_ne.mpr c10; have c10b1 := bne_iff_ne.mpr c10
          by_cases c11 : (bt a0 x7_1) = 45
          ·
           rw [if_pos c11] at H; have c11b0 := beq_iff_eq.mpr c11; have c11b1 := bne_eq_false_iff_eq.mpr c11; clear c11; have H' := mk0 H; clear H; have p5 : 0 ≤ (x7_1 : Int) := ofd; have q5 : x7_1 < (a0.size : Int) := ofd; have hx5 := bt_at a0 x7_1; replace p5 := eq_true p5; replace q5 := eq_true q5
           go_wp2
           go_roundg k1
           case measure => have := HK1.out; omega
           case rel => exact ⟨(wrap64 (x7_1 + 1)), cl0, H', cl2 HK1, by repeat (first | exact Drawn0.refl _ | apply Drawn0.step)⟩
          ·
           rw [if_neg c11] at H; have c11b0 := beq_eq_false_iff_ne.mpr c11; have c11b1 := bne_iff_ne.mpr c11; obtain rfl := Option.some.inj H; have p5 : 0 ≤ (x7_1 : Int) := ofd; have q5 : x7_1 < (a0.size : Int) := ofd; have hx5 := bt_at a0 x7_1; replace p5 := eq_true p5; replace q5 := eq_true q5
           go_wp2
           go_ret
           exact ⟨by first | rfl | (simp; done) | (simp [*]; done), by repeat (first | exact Drawn0.refl _ | apply Drawn0.step)⟩
       ·
        rw [if_neg c8] at H; have c8b0 := decide_eq_false c8; clear c8
        by_cases c12 : (bt a0 x7_1) > 57
        ·
         rw [if_pos c12] at H; have c12b0 := decide_eq_true c12; clear c12
         by_cases c13 : (bt a0 x7_1) = 46
         ·
          rw [if_pos c13] at H; have c13b0 := beq_iff_eq.mpr c13; have c13b1 := bne_eq_false_iff_eq.mpr c13; clear c13; have H' := mk0 H; clear H; have p5 : 0 ≤ (x7_1 : Int) := ofd; have q5 : x7_1 < (a0.size : Int) := ofd; have hx5 := bt_at a0 x7_1; replace p5 := eq_true p5; replace q5 := eq_true q5
          go_wp2
          go_roundg k1
          case measure => have := HK1.out; omega
          case rel => exact ⟨(wrap64 (x7_1 + 1)), cl0, H', cl2 HK1, by repeat (first | exact Drawn0.refl _ | apply Drawn0.step)⟩
         ·
          rw [if_neg c13] at H; have c13b0 := beq_eq_false_iff_ne.mpr c13; have c13b1 := bne_iff_ne.mpr c13
          by_cases c14 : (bt a0 x7_1) = 95
          ·
           rw [if_pos c14] at H; have c14b0 := beq_iff_eq.mpr c14; have c14b1 := bne_eq_false_iff_eq.mpr c14; clear c14; have H' := mk0 H; clear H; have p5 : 0 ≤ (x7_1 : Int) := ofd; have q5 : x7_1 < (a0.size : Int) := ofd; have hx5 := bt_at a0 x7_1; replace p5 := eq_true p5; replace q5 := eq_true q5
           go_wp2
           go_roundg k1
           case measure => have := HK1.out; omega
           case rel => exact ⟨(wrap64 (x7_1 + 1)), cl0, H', cl2 HK1, by repeat (first | exact Drawn0.refl _ | apply Drawn0.step)⟩
          ·
           rw [if_neg c14] at H; have c14b0 := beq_eq_false_iff_ne.mpr c14; have c14b1 := bne_iff_ne.mpr c14
           by_cases c15 : (bt a0 x7_1) = 45
           ·
            rw [if_pos c15] at H; have c15b0 := beq_iff_eq.mpr c15; have c15b1 := bne_eq_false_iff_eq.mpr c15; clear c15; have H' := mk0 H; clear H; have p5 : 0 ≤ (x7_1 : Int) := ofd; have q5 : x7_1 < (a0.size : Int) := ofd; have hx5 := bt_at a0 x7_1; replace p5 := eq_true p5; replace q5 := eq_true q5
            go_wp2
            go_roundg k1
            case measure => have := HK1.out; omega
            case rel => exact ⟨(wrap64 (x7_1 + 1)), cl0, H', cl2 HK1, by repeat (first | exact Drawn0.refl _ | apply Drawn0.step)⟩
           ·
            rw [if_neg c15] at H; have c15b0 := beq_eq_false_iff_ne.mpr c15; have c15b1 := bne_iff_ne.mpr c15; obtain rfl := Option.some.inj H; have p5 : 0 ≤ (x7_1 : Int) := ofd; have q5 : x7_1 < (a0.size : Int) := ofd; have hx5 := bt_at a0 x7_1; replace p5 := eq_true p5; replace q5 := eq_true q5
            go_wp2
            go_ret
            exact ⟨by first | rfl | (simp; done) | (simp [*]; done), by repeat (first | exact Drawn0.refl _ | apply Drawn0.step)⟩
        ·
         rw [if_neg c12] at H; have c12b0 := decide_eq_false c12; clear c12; have H' := mk0 H; clear H; have p5 : 0 ≤ (x7_1 : Int) := ofd; have q5 : x7_1 < (a0.size : Int) := ofd; have hx5 := bt_at a0 x7_1; replace p5 := eq_true p5; replace q5 := eq_true q5
         go_wp2
         go_roundg k1
         case measure => have := HK1.out; omega
         case rel => exact ⟨(wrap64 (x7_1 + 1)), cl0, H', cl2 HK1, by repeat (first | exact Drawn0.refl _ | apply Drawn0.step)⟩
      ·
       rw [if_neg c7] at H; have c7b0 := decide_eq_false c7; clear c7
       by_cases c16 : (bt a0 x7_1) > 90
       ·
        rw [if_pos c16] at H; have c16b0 := decide_eq_true c16; clear c16
        by_cases c17 : (bt a0 x7_1) < 48
        ·
         rw [if_pos c17] at H; have c17b0 := decide_eq_true c17; clear c17
         by_cases c18 : (bt a0 x7_1) = 46
         ·
          rw [if_pos c18] at H; have c18b0 := beq_iff_eq.mpr c18; have c18b1 := bne_eq_false_iff_eq.mpr c18; clear c18; have H' := mk0 H; clear H; have p5 : 0 ≤ (x7_1 : Int) := ofd; have q5 : x7_1 < (a0.size : Int) := ofd; have hx5 := bt_at a0 x7_1; replace p5 := eq_true p5; replace q5 := eq_true q5
          go_wp2
          go_roundg k1
          case measure => have := HK1.out; omega
          case rel => exact ⟨(wrap64 (x7_1 + 1)), cl0, H', cl2 HK1, by repeat (first | exact Drawn0.refl _ | apply Drawn0.step)⟩
         ·
          rw [if_neg c18] at H; have c18b0 := beq_eq_false_iff_ne.mpr c18; have c18b1 := bne_iff_ne.mpr c18
          by_cases c19 : (bt a0 x7_1) = 95
          ·
           rw [if_pos c19] at H; have c19b0 := beq_iff_eq.mpr c19; have c19b1 := bne_eq_false_iff_eq.mpr c19; clear c19; have H' := mk0 H; clear H; have p5 : 0 ≤ (x7_1 : Int) := ofd; have q5 : x7_1 < (a0.size : Int) := ofd; have hx5 := bt_at a0 x7_1; replace p5 := eq_true p5; replace q5 := eq_true q5
           go_wp2
           go_roundg k1
           case measure => have := HK1.out; omega
           case rel => exact ⟨(wrap64 (x7_1 + 1)), cl0, H', cl2 HK1, by repeat (first | exact Drawn0.refl _ | apply Drawn0.step)⟩
          ·
           rw [if_neg c19] at H; have c19b0 := beq_eq_false_iff_ne.mpr c19; have c19b1 := bne_iff_ne.mpr c19
           by_cases c20 : (bt a0 x7_1) = 45
           ·
            rw [if_pos c20] at H; have c20b0 := beq_iff_eq.mpr c20; have c20b1 := bne_eq_false_iff_eq.mpr c20; clear c20; have H' := mk0 H; clear H; have p5 : 0 ≤ (x7_1 : Int) := ofd; have q5 : x7_1 < (a0.size : Int) := ofd; have hx5 := bt_at a0 x7_1; replace p5 := eq_true p5; replace q5 := eq_true q5
            go_wp2
            go_roundg k1
            case measure => have := HK1.out; omega
            case rel => exact ⟨(wrap64 (x7_1 + 1)), cl0, H', cl2 HK1, by repeat (first | exact Drawn0.refl _ | apply Drawn0.step)⟩
           ·
            rw [if_neg c20] at H; have c20b0 := beq_eq_false_iff_ne.mpr c20; have c20b1 := bne_iff_ne.mpr c20; obtain rfl := Option.some.inj H; have p5 : 0 ≤ (x7_1 : Int) := ofd; have q5 : x7_1 < (a0.size : Int) := ofd; have hx5 := bt_at a0 x7_1; replace p5 := eq_true p5; replace q5 := eq_true q5
            go_wp2
            go_ret
            exact ⟨by first | rfl | (simp; done) | (simp [*]; done), by repeat (first | exact Drawn0.refl _ | apply Drawn0.step)⟩
        ·
         rw [if_neg c17] at H; have c17b0 := decide_eq_false c17; clear c17
         by_cases c21 : (bt a0 x7_1) > 57
         ·
          rw [if_pos c21] at H; have c21b0 := decide_eq_true c21; clear c21
          by_cases c22 : (bt a0 x7_1) = 46
          ·
           rw [if_pos c22] at H; have c22b0 := beq_iff_eq.mpr c22; have c22b1 := bne_eq_false_iff_eq.mpr c22; clear c22; have H' := mk0 H; clear H; have p5 : 0 ≤ (x7_1 : Int) := ofd; have q5 : x7_1 < (a0.size : Int) := ofd; have hx5 := bt_at a0 x7_1; replace p5 := eq_true p5; replace q5 := eq_true q5
           go_wp2
           go_roundg k1
           case measure => have := HK1.out; omega
           case rel => exact ⟨(wrap64 (x7_1 + 1)), cl0, H', cl2 HK1, by repeat (first | exact Drawn0.refl _ | apply Drawn0.step)⟩
          ·
           rw [if_neg c22] at H; have c22b0 := beq_eq_false_iff_ne.mpr c22; have c22b1 := bne_iff_ne.mpr c22
           by_cases c23 : (bt a0 x7_1) = 95
           ·
            rw [if_pos c23] at H; have c23b0 := beq_iff_eq.mpr c23; have c23b1 := bne_eq_false_iff_eq.mpr c23; clear c23; have H' := mk0 H; clear H; have p5 : 0 ≤ (x7_1 : Int) := ofd; have q5 : x7_1 < (a0.size : Int) := ofd; have hx5 := bt_at a0 x7_1; replace p5 := eq_true p5; replace q5 := eq_true q5
            go_wp2
            go_roundg k1
            case measure => have := HK1.out; omega
            case rel => exact ⟨(wrap64 (x7_1 + 1)), cl0, H', cl2 HK1, by repeat (first | exact Drawn0.refl _ | apply Drawn0.step)⟩
           ·
            rw [if_neg c23] at H; have c23b0 := beq_eq_false_iff_ne.mpr c23; have c23b1 := bne_iff_ne.mpr c23
            by_cases c24 : (bt a0 x7_1) = 45
            ·
             rw [if_pos c24] at H; have c24b0 := beq_iff_eq.mpr c24; have c24b1 := bne_eq_false_iff_eq.mpr c24; clear c24; have H' := mk0 H; clear H; have p5 : 0 ≤ (x7_1 : Int) := ofd; have q5 : x7_1 < (a0.size : Int) := ofd; have hx5 := bt_at a0 x7_1; replace p5 := eq_true p5; replace q5 := eq_true q5
             go_wp2
             go_roundg k1
             case measure => have := HK1.out; omega
             case rel => exact ⟨(wrap64 (x7_1 + 1)), cl0, H', cl2 HK1, by repeat (first | exact Drawn0.refl _ | apply Drawn0.step)⟩
            ·
             rw [if_neg c24] at H; have c24b0 := beq_eq_false_iff_ne.mpr c24; have c24b1 := bne_iff_ne.mpr c24; obtain rfl := Option.some.inj H; have p5 : 0 ≤ (x7_1 : Int) := ofd; have q5 : x7_1 < (a0.size : Int) := ofd; have hx5 := bt_at a0 x7_1; replace p5 := eq_true p5; replace q5 := eq_true q5
             go_wp2
             go_ret
             exact ⟨by first | rfl | (simp; done) | (simp [*]; done), by repeat (first | exact Drawn0.refl _ | apply Drawn0.step)⟩
         ·
          rw [if_neg c21] at H; have c21b0 := decide_eq_false c21; clear c21; have H' := mk0 H; clear H; have p5 : 0 ≤ (x7_1 : Int) := ofd; have q5 : x7_1 < (a0.size : Int) := ofd; have hx5 := bt_at a0 x7_1; replace p5 := eq_true p5; replace q5 := eq_true q5
          go_wp2
          go_roundg k1
          case measure => have := HK1.out; omega
          case rel => exact ⟨(wrap64 (x7_1 + 1)), cl0, H', cl2 HK1, by repeat (first | exact Drawn0.refl _ | apply Drawn0.step)⟩
       ·
        rw [if_neg c16] at H; have c16b0 := decide_eq_false c16; clear c16; have H' := mk0 H; clear H; have p5 : 0 ≤ (x7_1 : Int) := ofd; have q5 : x7_1 < (a0.size : Int) := ofd; have hx5 := bt_at a0 x7_1; replace p5 := eq_true p5; replace q5 := eq_true q5
        go_wp2
        go_roundg k1
        case measure => have := HK1.out; omega
        case rel => exact ⟨(wrap64 (x7_1 + 1)), cl0, H', cl2 HK1, by repeat (first | exact Drawn0.refl _ | apply Drawn0.step)⟩
     ·
      rw [if_neg c6] at H; have c6b0 := decide_eq_false c6; clear c6
      by_cases c25 : (bt a0 x7_1) > 122
      ·
       rw [if_pos c25] at H; have c25b0 := decide_eq_true c25; clear c25
       by_cases c26 : (bt a0 x7_1) < 65
       ·
        rw [if_pos c26] at H; have c26b0 := decide_eq_true c26; clear c26
        by_cases c27 : (bt a0 x7_1) < 48
        ·
         rw [if_pos c27] at H; have c27b0 := decide_eq_true c27; clear c27
         by_cases c28 : (bt a0 x7_1) = 46
         ·
          rw [if_pos c28] at H; have c28b0 := beq_iff_eq.mpr c28; have c28b1 := bne_eq_false_iff_eq.mpr c28; clear c28; have H' := mk0 H; clear H; have p5 : 0 ≤ (x7_1 : Int) := ofd; have q5 : x7_1 < (a0.size : Int) := ofd; have hx5 := bt_at a0 x7_1; replace p5 := eq_true p5; replace q5 := eq_true q5
          go_wp2
          go_roundg k1
          case measure => have := HK1.out; omega
          case rel => exact ⟨(wrap64 (x7_1 + 1)), cl0, H', cl2 HK1, by repeat (first | exact Drawn0.refl _ | apply Drawn0.step)⟩
         ·
          rw [if_neg c28] at H; have c28b0 := beq_eq_false_iff_ne.mpr c28; have c28b1 := bne_iff_ne.mpr c28
          by_cases c29 : (bt a0 x7_1) = 95
          ·
           rw [if_pos c29] at H; have c29b0 := beq_iff_eq.mpr c29; have c29b1 := bne_eq_false_iff_eq.mpr c29; clear c29; have H' := mk0 H; clear H; have p5 : 0 ≤ (x7_1 : Int) := ofd; have q5 : x7_1 < (a0.size : Int) := ofd; have hx5 := bt_at a0 x7_1; replace p5 := eq_true p5; replace q5 := eq_true q5
           go_wp2
           go_roundg k1
           case measure => have := HK1.out; omega
           case rel => exact ⟨(wrap64 (x7_1 + 1)), cl0, H', cl2 HK1, by repeat (first | exact Drawn0.refl _ | apply Drawn0.step)⟩
          ·
           rw [if_neg c29] at H; have c29b0 := beq_eq_false_iff_ne.mpr c29; have c29b1 := bne_iff_ne.mpr c29
           by_cases c30 : (bt a0 x7_1) = 45
           ·
            rw [if_pos c30] at H; have c30b0 := beq_iff_eq.mpr c30; have c30b1 := bne_eq_false_iff_eq.mpr c30; clear c30; have H' := mk0 H; clear H; have p5 : 0 ≤ (x7_1 : Int) := ofd; have q5 : x7_1 < (a0.size : Int) := ofd; have hx5 := bt_at a0 x7_1; replace p5 := eq_true p5; replace q5 := eq_true q5
            go_wp2
            go_roundg k1
            case measure => have := HK1.out; omega
            case rel => exact ⟨(wrap64 (x7_1 + 1)), cl0, H', cl2 HK1, by repeat (first | exact Drawn0.refl _ | apply Drawn0.step)⟩
           ·
            rw [if_neg c30] at H; have c30b0 := beq_eq_false_iff_ne.mpr c30; have c30b1 := bne_iff_ne.mpr c30; obtain rfl := Option.some.inj H; have p5 : 0 ≤ (x7_1 : Int) := ofd; have q5 : x7_1 < (a0.size : Int) := ofd; have hx5 := bt_at a0 x7_1; replace p5 := eq_true p5; replace q5 := eq_true q5
            go_wp2
            go_ret
            exact ⟨by first | rfl | (simp; done) | (simp [*]; done), by repeat (first | exact Drawn0.refl _ | apply Drawn0.step)⟩
        ·
         rw [if_neg c27] at H; have c27b0 := decide_eq_false c27; clear c27
         by_cases c31 : (bt a0 x7_1) > 57
         ·
          rw [if_pos c31] at H; have c31b0 := decide_eq_true c31; clear c31
          by_cases c32 : (bt a0 x7_1) = 46
          ·
           rw [if_pos c32] at H; have c32b0 := beq_iff_eq.mpr c32; have c32b1 := bne_eq_false_iff_eq.mpr c32; clear c32; have H' := mk0 H; clear H; have p5 : 0 ≤ (x7_1 : Int) := ofd; have q5 : x7_1 < (a0.size : Int) := ofd; have hx5 := bt_at a0 x7_1; replace p5 := eq_true p5; replace q5 := eq_true q5
           go_wp2
           go_roundg k1
           case measure => have := HK1.out; omega
           case rel => exact ⟨(wrap64 (x7_1 + 1)), cl0, H', cl2 HK1, by repeat (first | exact Drawn0.refl _ | apply Drawn0.step)⟩
          ·
           rw [if_neg c32] at H; have c32b0 := beq_eq_false_iff_ne.mpr c32; have c32b1 := bne_iff_ne.mpr c32
           by_cases c33 : (bt a0 x7_1) = 95
           ·
            rw [if_pos c33] at H; have c33b0 := beq_iff_eq.mpr c33; have c33b1 := bne_eq_false_iff_eq.mpr c33; clear c33; have H' := mk0 H; clear H; have p5 : 0 ≤ (x7_1 : Int) := ofd; have q5 : x7_1 < (a0.size : Int) := ofd; have hx5 := bt_at a0 x7_1; replace p5 := eq_true p5; replace q5 := eq_true q5
            go_wp2
            go_roundg k1
            case measure => have := HK1.out; omega
            case rel => exact ⟨(wrap64 (x7_1 + 1)), cl0, H', cl2 HK1, by repeat (first | exact Drawn0.refl _ | apply Drawn0.step)⟩
           ·
            rw [if_neg c33] at H; have c33b0 := beq_eq_false_iff_ne.mpr c33; have c33b1 := bne_iff_ne.mpr c33
            by_cases c34 : (bt a0 x7_1) = 45
            ·
             rw [if_pos c34] at H; have c34b0 := beq_iff_eq.mpr c34; have c34b1 := bne_eq_false_iff_eq.mpr c34; clear c34; have H' := mk0 H; clear H; have p5 : 0 ≤ (x7_1 : Int) := ofd; have q5 : x7_1 < (a0.size : Int) := ofd; have hx5 := bt_at a0 x7_1; replace p5 := eq_true p5; replace q5 := eq_true q5
             go_wp2
             go_roundg k1
             case measure => have := HK1.out; omega
             case rel => exact ⟨(wrap64 (x7_1 + 1)), cl0, H', cl2 HK1, by repeat (first | exact Drawn0.refl _ | apply Drawn0.step)⟩
            ·
             rw [if_neg c34] at H; have c34b0 := beq_eq_false_iff_ne.mpr c34; have c34b1 := bne_iff_ne.mpr c34; obtain rfl := Option.some.inj H; have p5 : 0 ≤ (x7_1 : Int) := ofd; have q5 : x7_1 < (a0.size : Int) := ofd; have hx5 := bt_at a0 x7_1; replace p5 := eq_true p5; replace q5 := eq_true q5
             go_wp2
             go_ret
             exact ⟨by first | rfl | (simp; done) | (simp [*]; done), by repeat (first | exact Drawn0.refl _ | apply Drawn0.step)⟩
         ·
          rw [if_neg c31] at H; have c31b0 := decide_eq_false c31; clear c31; have H' := mk0 H; clear H; have p5 : 0 ≤ (x7_1 : Int) := ofd; have q5 : x7_1 < (a0.size : Int) := ofd; have hx5 := bt_at a0 x7_1; replace p5 := eq_true p5; replace q5 := eq_true q5
          go_wp2
          go_roundg k1
          case measure => have := HK1.out; omega
          case rel => exact ⟨(wrap64 (x7_1 + 1)), cl0, H', cl2 HK1, by repeat (first | exact Drawn0.refl _ | apply Drawn0.step)⟩
       ·
        rw [if_neg c26] at H; have c26b0 := decide_eq_false c26; clear c26
        by_cases c35 : (bt a0 x7_1) > 90
        ·
         rw [if_pos c35] at H; have c35b0 := decide_eq_true c35; clear c35
         by_cases c36 : (bt a0 x7_1) < 48
         ·
          rw [if_pos c36] at H; have c36b0 := decide_eq_true c36; clear c36
          by_cases c37 : (bt a0 x7_1) = 46
          ·
           rw [if_pos c37] at H; have c37b0 := beq_iff_eq.mpr c37; have c37b1 := bne_eq_false_iff_eq.mpr c37; clear c37; have H' := mk0 H; clear H; have p5 : 0 ≤ (x7_1 : Int) := ofd; have q5 : x7_1 < (a0.size : Int) := ofd; have hx5 := bt_at a0 x7_1; replace p5 := eq_true p5; replace q5 := eq_true q5
           go_wp2
           go_roundg k1
           case measure => have := HK1.out; omega
           case rel => exact ⟨(wrap64 (x7_1 + 1)), cl0, H', cl2 HK1, by repeat (first | exact Drawn0.refl _ | apply Drawn0.step)⟩
          ·
           rw [if_neg c37] at H; have c37b0 := beq_eq_false_iff_ne.mpr c37; have c37b1 := bne_iff_ne.mpr c37
           by_cases c38 : (bt a0 x7_1) = 95
           ·
            rw [if_pos c38] at H; have c38b0 := beq_iff_eq.mpr c38; have c38b1 := bne_eq_false_iff_eq.mpr c38; clear c38; have H' := mk0 H; clear H; have p5 : 0 ≤ (x7_1 : Int) := ofd; have q5 : x7_1 < (a0.size : Int) := ofd; have hx5 := bt_at a0 x7_1; replace p5 := eq_true p5; replace q5 := eq_true q5
            go_wp2
            go_roundg k1
            case measure => have := HK1.out; omega
            case rel => exact ⟨(wrap64 (x7_1 + 1)), cl0, H', cl2 HK1, by repeat (first | exact Drawn0.refl _ | apply Drawn0.step)⟩
           ·
            rw [if_neg c38] at H; have c38b0 := beq_eq_false_iff_ne.mpr c38; have c38b1 := bne_iff_ne.mpr c38
            by_cases c39 : (bt a0 x7_1) = 45
            ·
             rw [if_pos c39] at H; have c39b0 := beq_iff_eq.mpr c39; have c39b1 := bne_eq_false_iff_eq.mpr c39; clear c39; have H' := mk0 H; clear H; have p5 : 0 ≤ (x7_1 : Int) := ofd; have q5 : x7_1 < (a0.size : Int) := ofd; have hx5 := bt_at a0 x7_1; replace p5 := eq_true p5; replace q5 := eq_true q5
             go_wp2
             go_roundg k1
             case measure => have := HK1.out; omega
             case rel => exact ⟨(wrap64 (x7_1 + 1)), cl0, H', cl2 HK1, by repeat (first | exact Drawn0.refl _ | apply Drawn0.step)⟩
            ·
             rw [if_neg c39] at H; have c39b0 := beq_eq_false_iff_ne.mpr c39; have c39b1 := bne_iff_ne.mpr c39; obtain rfl := Option.some.inj H; have p5 : 0 ≤ (x7_1 : Int) := ofd; have q5 : x7_1 < (a0.size : Int) := ofd; have hx5 := bt_at a0 x7_1; replace p5 := eq_true p5; replace q5 := eq_true q5
             go_wp2
             go_ret
             exact ⟨by first | rfl | (simp; done) | (simp [*]; done), by repeat (first | exact Drawn0.refl _ | apply Drawn0.step)⟩
         ·
          rw [if_neg c36] at H; have c36b0 := decide_eq_false c36; clear c36
          by_cases c40 : (bt a0 x7_1) > 57
          ·
           rw [if_pos c40] at H; have c40b0 := decide_eq_true c40; clear c40
           by_cases c41 : (bt a0 x7_1) = 46
           ·
            rw [if_pos c41] at H; have c41b0 := beq_iff_eq.mpr c41; have c41b1 := bne_eq_false_iff_eq.mpr c41; clear c41; have H' := mk0 H; clear H; have p5 : 0 ≤ (x7_1 : Int) := ofd; have q5 : x7_1 < (a0.size : Int) := ofd; have hx5 := bt_at a0 x7_1; replace p5 := eq_true p5; replace q5 := eq_true q5
            go_wp2
            go_roundg k1
            case measure => have := HK1.out; omega
            case rel => exact ⟨(wrap64 (x7_1 + 1)), cl0, H', cl2 HK1, by repeat (first | exact Drawn0.refl _ | apply Drawn0.step)⟩
           ·
            rw [if_neg c41] at H; have c41b0 := beq_eq_false_iff_ne.mpr c41; have c41b1 := bne_iff_ne.mpr c41
            by_cases c42 : (bt a0 x7_1) = 95
            ·
             rw [if_pos c42] at H; have c42b0 := beq_iff_eq.mpr c42; have c42b1 := bne_eq_false_iff_eq.mpr c42; clear c42; have H' := mk0 H; clear H; have p5 : 0 ≤ (x7_1 : Int) := ofd; have q5 : x7_1 < (a0.size : Int) := ofd; have hx5 := bt_at a0 x7_1; replace p5 := eq_true p5; replace q5 := eq_true q5
             go_wp2
             go_roundg k1
             case measure => have := HK1.out; omega
             case rel => exact ⟨(wrap64 (x7_1 + 1)), cl0, H', cl2 HK1, by repeat (first | exact Drawn0.refl _ | apply Drawn0.step)⟩
            ·
             rw [if_neg c42] at H; have c42b0 := beq_eq_false_iff_ne.mpr c42; have c42b1 := bne_iff_ne.mpr c42
             by_cases c43 : (bt a0 x7_1) = 45
             ·
              rw [if_pos c43] at H; have c43b0 := beq_iff_eq.mpr c43; have c43b1 := bne_eq_false_iff_eq.mpr c43; clear c43; have H' := mk0 H; clear H; have p5 : 0 ≤ (x7_1 : Int) := ofd; have q5 : x7_1 < (a0.size : Int) := ofd; have hx5 := bt_at a0 x7_1; replace p5 := eq_true p5; replace q5 := eq_true q5
              go_wp2
              go_roundg k1
              case measure => have := HK1.out; omega
              case rel => exact ⟨(wrap64 (x7_1 + 1)), cl0, H', cl2 HK1, by repeat (first | exact Drawn0.refl _ | apply Drawn0.step)⟩
             ·
              rw [if_neg c43] at H; have c43b0 := beq_eq_false_iff_ne.mpr c43; have c43b1 := bne_iff_ne.mpr c43; obtain rfl := Option.some.inj H; have p5 : 0 ≤ (x7_1 : Int) := ofd; have q5 : x7_1 < (a0.size : Int) := ofd; have hx5 := bt_at a0 x7_1; replace p5 := eq_true p5; replace q5 := eq_true q5
              go_wp2
              go_ret
              exact ⟨by first | rfl | (simp; done) | (simp [*]; done), by repeat (first | exact Drawn0.refl _ | apply Drawn0.step)⟩
          ·
           rw [if_neg c40] at H; have c40b0 := decide_eq_false c40; clear c40; have H' := mk0 H; clear H; have p5 : 0 ≤ (x7_1 : Int) := ofd; have q5 : x7_1 < (a0.size : Int) := ofd; have hx5 := bt_at a0 x7_1; replace p5 := eq_true p5; replace q5 := eq_true q5
           go_wp2
           go_roundg k1
           case measure => have := HK1.out; omega
           case rel => exact ⟨(wrap64 (x7_1 + 1)), cl0, H', cl2 HK1, by repeat (first | exact Drawn0.refl _ | apply Drawn0.step)⟩
        ·
         rw [if_neg c35] at H; have c35b0 := decide_eq_false c35; clear c35; have H' := mk0 H; clear H; have p5 : 0 ≤ (x7_1 : Int) := ofd; have q5 : x7_1 < (a0.size : Int) := ofd; have hx5 := bt_at a0 x7_1; replace p5 := eq_true p5; replace q5 := eq_true q5
         go_wp2
         go_roundg k1
         case measure => have := HK1.out; omega
         case rel => exact ⟨(wrap64 (x7_1 + 1)), cl0, H', cl2 HK1, by repeat (first | exact Drawn0.refl _ | apply Drawn0.step)⟩
      ·
       rw [if_neg c25] at H; have c25b0 := decide_eq_false c25; clear c25; have H' := mk0 H; clear H; have p5 : 0 ≤ (x7_1 : Int) := ofd; have q5 : x7_1 < (a0.size : Int) := ofd; have hx5 := bt_at a0 x7_1; replace p5 := eq_true p5; replace q5 := eq_true q5
       go_wp2
       go_roundg k1
       case measure => have := HK1.out; omega
       case rel => exact ⟨(wrap64 (x7_1 + 1)), cl0, H', cl2 HK1, by repeat (first | exact Drawn0.refl _ | apply Drawn0.step)⟩
    ·
     exact absurd (of_decide_eq_true c2b0) c4
   ·
    rw [if_neg c2] at H; have c2b0 := decide_eq_false c2; clear c2
    by_cases c44 : a0.toList = ([] : List UInt8)
    ·
     rw [if_pos c44] at H; have c44b0 := beq_iff_eq.mpr c44; have c44b1 := bne_eq_false_iff_eq.mpr c44; clear c44; obtain rfl := Option.some.inj H
     go_wp2
     go_ret
     exact ⟨by first | rfl | (simp; done) | (simp [*]; done), by repeat (first | exact Drawn0.refl _ | apply Drawn0.step)⟩
    ·
     rw [if_neg c44] at H; have c44b0 := beq_eq_false_iff_ne.mpr c44; have c44b1 := bne_iff_ne.mpr c44
     by_cases c45 : a0.toList = ([46] : List UInt8)
     ·
      rw [if_pos c45] at H; have c45b0 := beq_iff_eq.mpr c45; have c45b1 := bne_eq_false_iff_eq.mpr c45; clear c45; obtain rfl := Option.some.inj H
      go_wp2
      go_ret
      exact ⟨by first | rfl | (simp; done) | (simp [*]; done), by repeat (first | exact Drawn0.refl _ | apply Drawn0.step)⟩
     ·
      rw [if_neg c45] at H; have c45b0 := beq_eq_false_iff_ne.mpr c45; have c45b1 := bne_iff_ne.mpr c45; obtain rfl := Option.some.inj H
      go_wp2
      go_ret
      exact ⟨by first | rfl | (simp; done) | (simp [*]; done), by repeat (first | exact Drawn0.refl _ | apply Drawn0.step)⟩
end Go.Proofs.YtgmggompdidcoaaGreatDoor.X
namespace Go.Proofs.YtgmggompdidcoaaGreatDoor.X
open Go.RowKit Go.Proofs.YtgmggompdidcoaaGreatDoorW.PrintWords Go.Proofs.YtgmggompdidcoaaGreatDoorW.PrintLast Go.Proofs.YtgmggompdidcoaaGreatDoorW.PrintMore
attribute [local go_sem] max2_int min2_int max_two min_two max_three min_three max_four min_four
set_option linter.unusedVariables false
set_option linter.unusedSimpArgs false
def slashI (s : ByteArray) : Int := Lib.indexByte s.data.toList 47
theorem indexByte_lt : ∀ (l : List UInt8) (c : UInt8), Lib.indexByte l c < l.length
  | [], _ => by simp [Lib.indexByte]
  | b :: l, c => by
    have := indexByte_lt l c
    unfold Lib.indexByte
    rw [List.length_cons]
    split
    · omega
    · split
      · omega
      · omega
theorem slashI_lt (s : ByteArray) : slashI s < s.size := by
  have h := indexByte_lt s.data.toList 47
  rw [Array.length_toList] at h
  exact h
def pcN : Nat → ByteArray → List ByteArray
  | 0, s => [s]
  | n + 1, s => if slashI s < 0 then [s] else s.extract 0 (slashI s).toNat :: pcN n (s.extract ((slashI s).toNat + 1) s.size)
def pieces (s : ByteArray) : List ByteArray := pcN s.size s
theorem pcN_more : ∀ (n m : Nat) (s : ByteArray), s.size ≤ n → s.size ≤ m → pcN n s = pcN m s
  | 0, 0, _, _, _ => rfl
  | 0, m + 1, s, hn, _ => by
    have h0 : s.size = 0 := by omega
    have := slashI_lt s
    rw [pcN, pcN, if_pos (by omega)]
  | n + 1, 0, s, _, hm => by
    have h0 : s.size = 0 := by omega
    have := slashI_lt s
    rw [pcN, pcN, if_pos (by omega)]
  | n + 1, m + 1, s, hn, hm => by
    rw [pcN, pcN]
    by_cases h : slashI s < 0
    · rw [if_pos h, if_pos h]
    · rw [if_neg h, if_neg h, pcN_more n m _ (by rw [ByteArray.size_extract]; omega) (by rw [ByteArray.size_extract]; omega)]
theorem pieces_last {s : ByteArray} (h : slashI s < 0) : pieces s = [s] := by
  unfold pieces
  cases hn : s.size with
  | zero => rfl
  | succ n => rw [pcN, if_pos h]
theorem pieces_cut {s : ByteArray} (h : 0 ≤ slashI s) : pieces s = s.extract 0 (slashI s).toNat :: pieces (s.extract ((slashI s).toNat + 1) s.size) := by
  have hl := slashI_lt s
  unfold pieces
  obtain ⟨n, hn⟩ : ∃ n, s.size = n + 1 := ⟨s.size - 1, by omega⟩
  rw [hn, pcN, if_neg (by omega), ← hn]
  congr 1
  exact pcN_more _ _ _ (by rw [ByteArray.size_extract]; omega) (by rw [ByteArray.size_extract]; omega)
set_option maxHeartbeats 1000000 in
set_option maxRecDepth 100000 in
theorem idxByte_any (s : ByteArray) (c : Int) (w : World) :
    Calls Tryz.prog 114 #[.string s, .int .u8 c] w fun e w' => e = .returned (.int .i64 (Lib.indexByte s.data.toList c.toNat.toUInt8)) ∧ w = w' := by
  go_enter Tryz.func114, Tryz.ntmps114
  go_wp2
  rw [run_callFunc_extern Tryz.func121 (by kernel_rfl) (by kernel_rfl) (by kernel_rfl) (e := Extern.BytealgIndexByte.indexByte) (by kernel_rfl), Lib.run_indexByteString]
  simp only [Result.andThen]
  rw [Oper.upon_value]
  go_wp2
  go_ret
  exact ⟨rfl, rfl⟩
set_option maxHeartbeats 2000000 in
set_option maxRecDepth 100000 in
theorem idxLite (s : ByteArray) (w : World) :
    Calls Tryz.prog 111 #[.string s, .string ⟨#[47]⟩] w fun e w' => e = .returned (.int .i64 (slashI s)) ∧ w = w' := by
  go_enter Tryz.func111, Tryz.ntmps111
  go_wp2_with (go_at_call 114; refine (idxByte_any _ _ _).mono ?_; rintro e w' ⟨rfl, rfl⟩)
  · have h : ([47] == s.toList) = true := by assumption
    go_ret
    refine ⟨?_, rfl⟩
    have e : s.data.toList = [47] := by rw [← Lib.toList_data]; exact (beq_iff_eq.1 h).symm
    unfold slashI
    rw [e]
    simp [Lib.indexByte]
  · go_ret
    exact ⟨rfl, rfl⟩
set_option maxHeartbeats 1000000 in
set_option maxRecDepth 100000 in
theorem idxStr (s : ByteArray) (w : World) :
    Calls Tryz.prog 107 #[.string s, .string ⟨#[47]⟩] w fun e w' => e = .returned (.int .i64 (slashI s)) ∧ w = w' := by
  go_enter Tryz.func107, Tryz.ntmps107
  go_wp2_with (go_at_call 111; refine (idxLite _ _).mono ?_; rintro e w' ⟨rfl, rfl⟩)
  go_ret
  exact ⟨rfl, rfl⟩
def SplitAt (W : World) (Bp Bs Bq : Nat) (s : ByteArray) : Prop := W.heap[Bp]? = some (.cells #[.string ⟨#[47]⟩] 9 (0, 0)) ∧ W.heap[Bs]? = some (.cells #[.string s] 9 (0, 0)) ∧ W.heap[Bq]? = some (.cells #[.int .i64 0] 3 (0, 0))
set_option maxHeartbeats 1000000 in
set_option maxRecDepth 100000 in
theorem splitSeq_any (s : ByteArray) (w : World) :
    Calls Tryz.prog 96 #[.string s, .string ⟨#[47]⟩, .int .i64 0] w fun e w' => e = .returned (.func (.func 105) #[] #[.pointer (some ⟨w.heap.size + 1, 0, none⟩), .pointer (some ⟨w.heap.size, 0, none⟩), .pointer (some ⟨w.heap.size + 2, 0, none⟩)]) ∧
      SplitAt w' (w.heap.size + 1) w.heap.size (w.heap.size + 2) s ∧ w'.heap.size = w.heap.size + 3 ∧ Below w.heap.size w w' := by
  go_enter Tryz.func96, Tryz.ntmps96
  go_wp2
  go_ret
  refine ⟨rfl, ⟨?_, ?_, ?_⟩, by simp, ((Below.refl _ w).alloc (Nat.le_refl _) _).alloc (by simp) _ |>.alloc (by simp; omega) _⟩
  · refine (Below.heap_alloc _ _ _ (by simp)).trans ?_
    have := World.alloc_heap_new (w.alloc (.cells #[.string s] 9)) (.cells #[.string ⟨#[47]⟩] 9)
    rwa [World.size_alloc] at this
  · exact ((Below.heap_alloc _ _ _ (by simp; omega)).trans (Below.heap_alloc _ _ _ (by simp))).trans (World.alloc_heap_new w _)
  · have := World.alloc_heap_new ((w.alloc (.cells #[.string s] 9)).alloc (.cells #[.string ⟨#[47]⟩] 9)) (.cells #[.int .i64 0] 3)
    rwa [World.size_alloc, World.size_alloc] at this
set_option maxHeartbeats 1000000 in
set_option maxRecDepth 100000 in
theorem SplitSeq_any (s : ByteArray) (w : World) :
    Calls Tryz.prog 77 #[.string s, .string ⟨#[47]⟩] w fun e w' => e = .returned (.func (.func 105) #[] #[.pointer (some ⟨w.heap.size + 1, 0, none⟩), .pointer (some ⟨w.heap.size, 0, none⟩), .pointer (some ⟨w.heap.size + 2, 0, none⟩)]) ∧
      SplitAt w' (w.heap.size + 1) w.heap.size (w.heap.size + 2) s ∧ w'.heap.size = w.heap.size + 3 ∧ Below w.heap.size w w' := by
  go_enter Tryz.func77, Tryz.ntmps77
  go_wp2_with (go_at_call 96; refine (splitSeq_any _ _).mono ?_; rintro e w' ⟨rfl, hs, hz, hb⟩)
  go_ret
  exact ⟨rfl, hs, hz, hb⟩
theorem splitAt_put {W : World} {Bp Bs Bq : Nat} {s t : ByteArray} (h : SplitAt W Bp Bs Bq s) (h1 : Bp ≠ Bs) (h2 : Bq ≠ Bs) : SplitAt (W.setCell ⟨Bs, 0, none⟩ (.string t)) Bp Bs Bq t :=
  ⟨blk_far h.1 h1 _, blk_put h.2.1 0 _ rfl, blk_far h.2.2 h2 _⟩
theorem splitAt_kept {W W' : World} {Bp Bs Bq : Nat} {s : ByteArray} {n : Nat} (h : SplitAt W Bp Bs Bq s) (hb : Below n W W') (h1 : Bp < n) (h2 : Bs < n) (h3 : Bq < n) : SplitAt W' Bp Bs Bq s :=
  ⟨(hb.block _ h1).trans h.1, (hb.block _ h2).trans h.2.1, (hb.block _ h3).trans h.2.2⟩
def leftIn (W : World) (Bs : Nat) : Nat := match W.cell? ⟨Bs, 0, none⟩ with
  | some (Value.string s) => s.size
  | _ => 0
theorem leftIn_eq {W : World} {Bp Bs Bq : Nat} {s : ByteArray} (h : SplitAt W Bp Bs Bq s) : leftIn W Bs = s.size := by
  unfold leftIn; rw [blk_cell h.2.1 0]; rfl
theorem idxStrN (s : ByteArray) (i : Int) (h : slashI s = i) (w : World) :
    Calls Tryz.prog 107 #[.string s, .string ⟨#[47]⟩] w fun e w' => e = .returned (.int .i64 i) ∧ w = w' := by
  rw [← h]; exact idxStr s w
attribute [local go_sem] Oper.semAt_some
set_option maxRecDepth 100000 in
set_option maxHeartbeats 2000000 in
theorem split_run (l n Bp Bs Bq : Nat) (hn : 1 ≤ n) (pOK : ByteArray → Bool) (J Jx : World → Prop) (hps : Bp ≠ Bs) (hqs : Bq ≠ Bs)
    (hJ : ∀ W v, J W → J (W.setCell ⟨Bs, 0, none⟩ v))
    (hY : ∀ x : ByteArray, x.size ≤ 140737488351232 → ∀ W, J W → YieldAt Fence.wide (n - 1) Tryz.prog l #[.string x] W fun e W' => (pOK x = true ∧ e = .returned (.bool true) ∧ J W' ∧ ∀ s, SplitAt W Bp Bs Bq s → SplitAt W' Bp Bs Bq s) ∨ (pOK x = false ∧ e = .returned (.bool false) ∧ Jx W'))
    (s : ByteArray) (hsz : s.size ≤ 140737488351232) (W : World) (h0 : J W) (hs : SplitAt W Bp Bs Bq s) :
    CallsIn Fence.wide n Tryz.prog 105 #[.func (.yield l) #[] #[], .pointer (some ⟨Bp, 0, none⟩), .pointer (some ⟨Bs, 0, none⟩), .pointer (some ⟨Bq, 0, none⟩)] W fun e W' =>
      (∃ v, e = .returned v) ∧ (((pieces s).all pOK = true ∧ J W') ∨ ((pieces s).all pOK = false ∧ Jx W')) := by
  refine callsIn_of_wp Tryz.func105 rfl trivial ?_ rfl
  simp only [Tryz.ntmps105, List.size_toArray, List.length_cons, List.length_nil, Nat.reduceAdd, Nat.reduceSub, Array.replicate_succ, Array.replicate_zero, List.push_toArray, List.append_toArray, List.nil_append, List.cons_append]
  have hc1 : W.cell? ⟨Bp, 0, none⟩ = some (.string ⟨#[47]⟩) := blk_cell hs.1 0
  gi_wp2
  clear hc1
  gi_loopw [7] (fun _ wr => ∃ cur : ByteArray, J wr ∧ SplitAt wr Bp Bs Bq cur ∧ cur.size ≤ 140737488351232 ∧ Aside0 ((pieces s).all pOK = (pieces cur).all pOK)) (fun _ wr => leftIn wr Bs)
  case atStart => exact ⟨s, h0, hs, hsz, ⟨rfl⟩⟩
  case round =>
    obtain ⟨cur, hJr, hS, hsz', HA⟩ := hrel
    have HL := Aside0.mk (leftIn_eq hS)
    have hc1 : wr.cell? ⟨Bp, 0, none⟩ = some (.string ⟨#[47]⟩) := blk_cell hS.1 0
    have hc2 : wr.cell? ⟨Bs, 0, none⟩ = some (.string cur) := blk_cell hS.2.1 0
    have hc3 : wr.cell? ⟨Bq, 0, none⟩ = some (.int .i64 0) := blk_cell hS.2.2 0
    have HS := Aside0.mk hS
    have HJ := Aside0.mk hJr
    have HYy := Aside0.mk hY
    have HJj := Aside0.mk hJ
    clear hS hJr hY hJ
    by_cases hneg : slashI cur < 0
    · obtain ⟨i, hi⟩ : ∃ i, slashI cur = i := ⟨_, rfl⟩
      have hi0 : decide (i < 0) = true := by rw [← hi]; exact decide_eq_true hneg
      have HP := Aside0.mk (pieces_last hneg)
      have HI := Aside0.mk hi
      obtain ⟨fn, tmps, assign, body, hy, hR⟩ := HYy.out cur hsz' wr HJ.out
      clear hneg hi
      gi_wp2_with (refine ⟨trivial, ?_⟩; gi_at_call 107; refine (callsIn_wide.2 (idxStrN cur i HI.out _)).mono ?_; rintro e w' ⟨rfl, rfl⟩)
      refine hR.mono ?_
      have hp : (pieces s).all pOK = pOK cur := by rw [HA.out, HP.out]; simp
      rintro e W3 (⟨hx, rfl, hJ3, hk3⟩ | ⟨hx, rfl, hJx3⟩)
      · gi_wp2
        refine bodyPost_end (results_none rfl _ _ _) rfl ?_
        exact ⟨⟨_, rfl⟩, .inl ⟨hp.trans hx, hJ3⟩⟩
      · gi_wp2
        refine bodyPost_end (results_none rfl _ _ _) rfl ?_
        exact ⟨⟨_, rfl⟩, .inr ⟨hp.trans hx, hJx3⟩⟩
    · have hlt := slashI_lt cur
      obtain ⟨q, hq⟩ : ∃ q : Nat, slashI cur = q := ⟨(slashI cur).toNat, by omega⟩
      have hqs' : q < cur.size := by omega
      have hq1 : q + 1 ≤ cur.size := hqs'
      have hi0 : decide ((q : Int) < 0) = false := decide_eq_false (by omega)
      have HP := Aside0.mk (pieces_cut (s := cur) (by omega))
      have HI := Aside0.mk hq
      obtain ⟨fn, tmps, assign, body, hy, hR⟩ := HYy.out (cur.extract 0 q) (by rw [ByteArray.size_extract]; omega) wr HJ.out
      clear hneg hq hlt
      gi_wp2_with (refine ⟨trivial, ?_⟩; gi_at_call 107; refine (callsIn_wide.2 (idxStrN cur q HI.out _)).mono ?_; rintro e w' ⟨rfl, rfl⟩)
      refine hR.mono ?_
      have hp : (pieces s).all pOK = (pOK (cur.extract 0 q) && (pieces (cur.extract (q + 1) cur.size)).all pOK) := by
        rw [HA.out, HP.out, HI.out]; rfl
      rintro e W3 (⟨hx, rfl, hJ3, hk3⟩ | ⟨hx, rfl, hJx3⟩)
      · have hS3 := hk3 cur HS.out
        have hc1 : W3.cell? ⟨Bp, 0, none⟩ = some (.string ⟨#[47]⟩) := blk_cell hS3.1 0
        have hc2 : W3.cell? ⟨Bs, 0, none⟩ = some (.string cur) := blk_cell hS3.2.1 0
        have hf2 : W3.frozen? ⟨Bs, 0, none⟩ = false := blk_frozen hS3.2.1 0
        have HS3 := Aside0.mk hS3
        have HJ3 := Aside0.mk hJ3
        have HP2 := Aside0.mk hp
        have HX := Aside0.mk hx
        have HN := Aside0.mk (splitAt_put (t := cur.extract (q + 1) cur.size) hS3 hps hqs)
        clear hS3 hJ3 hp hx hk3
        gi_wp2
        go_roundw
        case rel => exact ⟨cur.extract (q + 1) cur.size, HJj.out _ _ HJ3.out, HN.out, by rw [ByteArray.size_extract]; omega, ⟨by rw [HP2.out, HX.out]; rfl⟩⟩
        case measure => rw [leftIn_eq HN.out, HL.out, ByteArray.size_extract]; omega
      · gi_wp2
        refine bodyPost_ret (results_none rfl _ _ _) rfl ?_
        exact ⟨⟨_, rfl⟩, .inr ⟨by rw [hp, hx]; rfl, hJx3⟩⟩
end Go.Proofs.YtgmggompdidcoaaGreatDoor.X
