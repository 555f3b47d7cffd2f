import Derived.Test.YtgmggompdidcoaaGreatDoorMPbtensorReads4
import Derived.RangeFuncNested
import Derived.RangeFuncBound
import Derived.RangeFuncCalls
import Derived.RangeFuncLeaves
import Derived.Shelf.Abstract
import Derived.Shelf.RegionOpen
import Derived.OwnWalkIn
import Derived.TacticsInMore
import Derived.LoopNIn
import Derived.LoopIn
import Derived.Lib.Bytealg
import Derived.Lib.Walk
import Derived.Lib.Strings
import Derived.Lib.Slices
import Derived.Laws.Strings3
import Derived.Lib.IndexLaws
namespace Go.Proofs.YtgmggompdidcoaaGreatDoor.X
open Go.RowKit Go.Proofs.YtgmggompdidcoaaGreatDoorW.aX Go.Proofs.YtgmggompdidcoaaGreatDoorW.bJ Go.Proofs.YtgmggompdidcoaaGreatDoorW.bK
attribute [local go_sem] bO bQ bS bU bM bN bP bR
set_option linter.unusedVariables false
set_option linter.unusedSimpArgs false
set_option maxHeartbeats 8000000
set_option maxRecDepth 100000
def JJ.f (aY : ByteArray) (aT : Int) (aV : List Int) (bC : ByteArray) (lJ : ByteArray) (lK : Int) (iX : List Int) (lL : ByteArray) : Option Bool := if aV.length ≤ 1000000000000000000 then some (pg aY aT aV bC lJ lK iX lL) else none
theorem Sw (aY : ByteArray) (aT : Int) (aV : List Int) (bC : ByteArray) (lJ : ByteArray) (lK : Int) (iX : List Int) (lL : ByteArray) (hl : aV.length ≤ 1000000000000000000) (he : aV.length = iX.length) (d : Nat) : ∀ (k i : Nat), aV.length - i = d → i ≤ aV.length → d < k →
 nR.l0 k (i : Int) aY aT aV bC lJ lK iX lL = some (decide (aV.drop i = iX.drop i)) := by
 induction d with
 | zero =>
  intro k i hdd hi hk
  obtain ⟨k, rfl⟩ : ∃ m, k = m + 1 := ⟨k - 1, by omega⟩
  simp only [nR.l0]
  rw [iN (by omega), List.drop_of_length_le (by omega), List.drop_of_length_le (by omega)]; rfl
 | succ d ih =>
  intro k i hdd hi hk
  obtain ⟨k, rfl⟩ : ∃ m, k = m + 1 := ⟨k - 1, by omega⟩
  have hlt : i < aV.length := by omega
  have hlt2 : i < iX.length := by omega
  have e0 : rd aV (i : Int) = aV[i] := by simp [rd, hlt]
  have e1 : rd iX (i : Int) = iX[i] := by simp [rd, hlt2]
  simp only [nR.l0]
  rw [ip (by omega), ip (by omega), ip (by omega), e0, e1, List.drop_eq_getElem_cons hlt, List.drop_eq_getElem_cons hlt2]
  by_cases hx : aV[i] = iX[i]
  · rw [ip hx, fC (by omega) (by omega), show ((i : Int) + 1) = ((i + 1 : Nat) : Int) by omega, ih k (i + 1) (by omega) (by omega) (by omega)]
    congr 1
    exact decide_eq_decide.2 ⟨fun h => by rw [h, hx], fun h => (List.cons.inj h).2⟩
  · rw [iN hx, dF (fun h => hx (List.cons.inj h).1)]
theorem JJ.ev (aY : ByteArray) (aT : Int) (aV : List Int) (bC : ByteArray) (lJ : ByteArray) (lK : Int) (iX : List Int) (lL : ByteArray) (r) (h : JJ.f aY aT aV bC lJ lK iX lL = some r) : ∃ k, nR.f k aY aT aV bC lJ lK iX lL = some r := by
 unfold JJ.f at h
 split at h
 case isFalse => cases h
 rename_i hl
 rw [← h]
 refine ⟨aV.length + 2, ?_⟩
 unfold nR.f pg
 by_cases h0 : aY = lJ
 case neg => rw [iN (fun e => h0 (toList_inj.1 e)), dF (fun e => h0 e.1)]; rfl
 rw [ip (by rw [h0])]
 by_cases h1 : aT = lK
 case neg => rw [iN h1, dF (fun e => h1 e.2.1)]; rfl
 rw [ip h1]
 by_cases h3 : bC = lL
 case neg => rw [iN (fun e => h3 (toList_inj.1 e)), dF (fun e => h3 e.2.2.2)]; rfl
 rw [ip (by rw [h3])]
 rw [show aV.length + 2 = (aV.length + 1) + 1 from rfl]
 simp only [nR.j0]
 by_cases he : aV.length = iX.length
 · rw [show ((aV.length : Int) != (iX.length : Int)) = false by simp [he], iN (by decide)]
   have := Sw aY aT aV bC lJ lK iX lL hl he aV.length (aV.length + 1) 0 (by omega) (by omega) (by omega)
   rw [List.drop_zero, List.drop_zero] at this
   refine this.trans ?_
   congr 1
   exact decide_eq_decide.2 ⟨fun e => ⟨h0, h1, e, h3⟩, fun e => e.2.2.1⟩
 · rw [show ((aV.length : Int) != (iX.length : Int)) = true by simp; omega, ip rfl, dF (fun e => he (by rw [e.2.2.1]))]
theorem JJ.calls (aY : ByteArray) (aT : Int) (fM : Option Addr) (fO : Nat) (aV : List Int) (bC : ByteArray) (lJ : ByteArray) (lK : Int) (FU : Option Addr) (FX : Nat) (iX : List Int) (lL : ByteArray) (r : Bool) (w : World) (rF : Kd.C (Kd.int .i64) w fM aV.length aV) (rE : aV.length ≤ fO) (ZL : Kd.C (Kd.int .i64) w FU iX.length iX) (ZJ : iX.length ≤ FX) (h : JJ.f aY aT aV bC lJ lK iX lL = some r) :
 Calls Tryz.prog 9 #[.agg #[.string aY, .int .i64 aT, .slice fM aV.length fO, .string bC], .agg #[.string lJ, .int .i64 lK, .slice FU iX.length FX, .string lL]] w fun e w' => e = .returned (.bool r) ∧ Below w.heap.size w w' := by
 obtain ⟨k, hk⟩ := JJ.ev aY aT aV bC lJ lK iX lL _ h
 exact nR.calls k aY aT fM fO aV bC lJ lK FU FX iX lL r w rF rE ZL ZJ hk
structure But (g : Nat) (w W : World) : Prop where
 os : W.os = w.os
 tape : W.tape = w.tape
 output : W.output = w.output
 size : w.heap.size ≤ W.heap.size
 block : ∀ i, i < w.heap.size → i ≠ g → W.heap[i]? = w.heap[i]?
theorem But.refl (g : Nat) (w : World) : But g w w := ⟨rfl, rfl, rfl, Nat.le_refl _, fun _ _ _ => rfl⟩
theorem But.trans {g : Nat} {a b c : World} (h : But g a b) (k : But g b c) : But g a c := ⟨k.os.trans h.os, k.tape.trans h.tape, k.output.trans h.output, Nat.le_trans h.size k.size, fun i hi hn => (k.block i (Nat.lt_of_lt_of_le hi h.size) hn).trans (h.block i hi hn)⟩
theorem But.of_below {g : Nat} {w W : World} (h : Below w.heap.size w W) : But g w W := ⟨h.os, h.tape, h.output, h.size, fun i hi _ => h.block i hi⟩
theorem But.step {g : Nat} {a b c : World} (h : But g a b) (k : Below b.heap.size b c) : But g a c := h.trans (But.of_below k)
theorem But.set {g : Nat} {w W : World} (h : But g w W) (i : Nat) (v : Value) : But g w (W.setCell ⟨g, i, none⟩ v) :=
 ⟨h.os, h.tape, h.output, by show _ ≤ (W.heap.modify g _).size; rw [Array.size_modify]; exact h.size, fun j hj hn => (Below.heap_setCell W _ _ j hn).trans (h.block j hj hn)⟩
theorem But.alloc {g : Nat} {w W : World} (h : But g w W) (o : Obj) : But g w (W.alloc o) := h.step (iD (Below.refl W.heap.size W) o)
theorem But.drewN {g : Nat} {w W : World} (h : But g w W) (n : Nat) : But g w (W.drewN n) := ⟨h.os, h.tape, h.output, h.size, h.block⟩
theorem But.below {B g : Nat} {w W : World} (h : But g w W) (hg : B ≤ g) (hs : B ≤ w.heap.size) : Below B w W := ⟨h.os, h.tape, h.output, h.size, fun i hi => h.block i (Nat.lt_of_lt_of_le hi hs) (fun e => Nat.not_le.2 hi (e ▸ hg))⟩
theorem But.keep {g j : Nat} {w W : World} {o : Obj} (h : But g w W) (hj : w.heap[j]? = some o) (hn : j ≠ g) : W.heap[j]? = some o := (h.block j (jB hj) hn).trans hj
theorem IK {α : Type} {d : Kd α} {g n : Nat} {ok : Nat → Prop} {w W : World} {A : Option Addr} {xs : List α} (h : Kd.F d w ok A n xs) (hb : But g w W) (hok : ∀ k, ok k → k ≠ g) : Kd.F d W ok A n xs := Kd.TY h (fun k hk hlt => hb.block k hlt (hok k hk))
theorem kZ {α : Type} {d : Kd α} {n : Nat} {ok : Nat → Prop} {w W : World} {A : Option Addr} {xs : List α} (h : Kd.F d w ok A n xs) (hb : Below w.heap.size w W) : Kd.F d W ok A n xs := Kd.TY h (fun k _ hlt => hb.block k hlt)
def KA (l : List jK) : Nat := (l.map (fun f => f.f0.size + f.f1.size)).sum
theorem Zt (l : List jK) (i : Nat) (h : i < l.length) : KA (l.take (i + 1)) = KA (l.take i) + (l[i].f0.size + l[i].f1.size) := by
 unfold KA
 rw [List.take_succ_eq_append_getElem h, List.map_append, List.sum_append]
 rfl
theorem Gv {l : List jK} {f : jK} (h : f ∈ l) : f.f0.size + f.f1.size ≤ KA l := by
 unfold KA
 induction l with
 | nil => cases h
 | cons a t ih =>
  rw [List.map_cons, List.sum_cons]
  rcases List.mem_cons.1 h with rfl | h
  · omega
  · have := ih h; omega
instance aFw : LawfulBEq ByteArray where
 eq_of_beq h := (MapKept.bytes_beq _ _).1 h
 rfl := (MapKept.bytes_beq _ _).2 rfl
theorem PS (a b : ByteArray) : Instr.sameNow .string (.string a) (.string b) = some (a == b) := by simp [Instr.sameNow]
theorem aAJ (a : ByteArray) : (a == a) = true := (MapKept.bytes_beq a a).2 rfl
theorem Ch {w W : World} {r : Nat} {o : Obj} (h : Below w.heap.size w W) (hr : w.heap.size ≤ r) : Below w.heap.size w { W with heap := W.heap.setIfInBounds r o } :=
 ⟨h.os, h.tape, h.output, by show _ ≤ (W.heap.setIfInBounds r o).size; rw [Array.size_setIfInBounds]; exact h.size, fun i hi => by
  show (W.heap.setIfInBounds r o)[i]? = _
  rw [Array.getElem?_setIfInBounds_ne (by omega)]; exact h.block i hi⟩
def qA : List (ByteArray × ByteArray) → Nat → List MapEntry
 | [], _ => []
 | x :: t, i => { key := .string x.1, val := .string x.2, born := i } :: qA t (i + 1)
def pE (l : List (ByteArray × ByteArray)) : Array MapEntry := (qA l 0).toArray
def fB : List (ByteArray × ByteArray) → ByteArray → Option ByteArray
 | [], _ => none
 | p :: t, k => if (k == p.1) = true then some p.2 else fB t k
def kK : List (ByteArray × ByteArray) → ByteArray → ByteArray → List (ByteArray × ByteArray)
 | [], k, v => [(k, v)]
 | p :: t, k, v => if (k == p.1) = true then (k, v) :: t else p :: kK t k v
theorem Lg (nm : ByteArray) : ∀ (l : List (ByteArray × ByteArray)) (i j : Nat),
 (fB l nm = none → Instr.findNow .string (.string nm) (qA l i) j = some none) ∧ (∀ d, fB l nm = some d → ∃ q, Instr.findNow .string (.string nm) (qA l i) j = some (some (q, .string d)))
 | [], i, j => ⟨fun _ => rfl, fun d h => by cases h⟩
 | x :: t, i, j => by
  obtain ⟨h1, h2⟩ := Lg nm t (i + 1) (j + 1)
  cases hb : (nm == x.1) with
  | true =>
   refine ⟨fun h => ?_, fun d h => ⟨j, ?_⟩⟩
   · rw [fB, ip hb] at h; cases h
   · rw [fB, ip hb] at h
     obtain rfl := Option.some.inj h
     rw [qA]
     simp only [Instr.findNow, PS, hb]
  | false =>
   have hn : ¬ (nm == x.1) = true := by rw [hb]; simp
   refine ⟨fun h => ?_, fun d h => ?_⟩
   · rw [fB, iN hn] at h
     rw [qA]
     simp only [Instr.findNow, PS, hb]
     exact h1 h
   · rw [fB, iN hn] at h
     rw [qA]
     simp only [Instr.findNow, PS, hb]
     exact h2 d h
theorem jq (nm v : ByteArray) : ∀ (l : List (ByteArray × ByteArray)) (i j : Nat),
 (fB l nm = none ∧ Instr.findNow .string (.string nm) (qA l i) j = some none ∧ qA (kK l nm v) i = qA l i ++ [{ key := .string nm, val := .string v, born := i + l.length }] ∧ kK l nm v = l ++ [(nm, v)]) ∨
 (∃ q d, fB l nm = some d ∧ Instr.findNow .string (.string nm) (qA l i) j = some (some (j + q, .string d)) ∧ (qA l i).modify q (fun e => { e with key := .string nm, val := .string v }) = qA (kK l nm v) i ∧ (qA l i)[q]?.map (·.key) = some (.string nm) ∧ (kK l nm v).length = l.length)
 | [], i, j => .inl ⟨rfl, rfl, rfl, rfl⟩
 | x :: t, i, j => by
  cases hb : (nm == x.1) with
  | true =>
   have hx : nm = x.1 := (MapKept.bytes_beq nm x.1).1 hb
   refine .inr ⟨0, x.2, ?_, ?_, ?_, ?_, ?_⟩
   · rw [fB, ip hb]
   · rw [qA]
     simp only [Instr.findNow, PS, hb]
     rfl
   · rw [kK, ip hb, qA, qA]; rfl
   · rw [qA, hx]; rfl
   · rw [kK, ip hb]; rfl
  | false =>
   have hn : ¬ (nm == x.1) = true := by rw [hb]; simp
   rcases jq nm v t (i + 1) (j + 1) with ⟨h0, h1, h2, h3⟩ | ⟨q, d, h0, h1, h2, h3, h4⟩
   · refine .inl ⟨?_, ?_, ?_, ?_⟩
     · rw [fB, iN hn]; exact h0
     · rw [qA]
       simp only [Instr.findNow, PS, hb]
       exact h1
     · rw [kK, iN hn, qA, h2, qA, List.cons_append, List.length_cons]
       have e : i + 1 + t.length = i + (t.length + 1) := by omega
       rw [e]
     · rw [kK, iN hn, h3]; rfl
   · refine .inr ⟨q + 1, d, ?_, ?_, ?_, ?_, ?_⟩
     · rw [fB, iN hn]; exact h0
     · rw [qA]
       simp only [Instr.findNow, PS, hb]
       rw [h1]; congr 3; omega
     · rw [kK, iN hn, qA, qA, List.modify_succ_cons, h2]
     · rw [qA]; exact h3
     · rw [kK, iN hn, List.length_cons, List.length_cons, h4]
def oZ (W : World) (m : Option Nat) (l : List (ByteArray × ByteArray)) : Prop := (m = none ∧ l = []) ∨ ∃ r, m = some r ∧ W.heap[r]? = some (.map (pE l) l.length)
theorem oZ.kept {W W' : World} {m : Option Nat} {l : List (ByteArray × ByteArray)} (h : oZ W m l) (hb : Below W.heap.size W W') : oZ W' m l := by
 rcases h with h | ⟨r, hr, h⟩
 · exact .inl h
 · exact .inr ⟨r, hr, (hb.block r (Array.getElem?_eq_some_iff.1 h).1).trans h⟩
theorem oZ.set {W : World} {m : Option Nat} {l : List (ByteArray × ByteArray)} {g i t : Nat} {cs : Array Value} (h : oZ W m l) (hg : W.heap[g]? = some (.cells cs t (0, 0))) (v : Value) : oZ (W.setCell ⟨g, i, none⟩ v) m l := by
 rcases h with h | ⟨r, hr, h⟩
 · exact .inl h
 · refine .inr ⟨r, hr, (Below.heap_setCell _ _ _ _ ?_).trans h⟩
   rintro rfl
   rw [h] at hg; cases hg
theorem oZ.drewN {W : World} {m : Option Nat} {l : List (ByteArray × ByteArray)} (h : oZ W m l) (n : Nat) : oZ (W.drewN n) m l := h
theorem SQ {W : World} {m : Option Nat} {l : List (ByteArray × ByteArray)} (h : oZ W m l) (nm : ByteArray) : (Instr.lookup 23 (.map m) (.string nm) true).run Tryz.prog W = .ok (.tuple #[.string ((fB l nm).getD ⟨#[]⟩), .bool (fB l nm).isSome]) W := by
 have hk : MapKept.IsKey .string (.string nm) := by simp [MapKept.IsKey]
 have hd : Tryz.prog.underlying 9 = some .string := Tryz.underlying9
 have hz : (zeroValue 9).run Tryz.prog W = .ok (.string ⟨#[]⟩) W := rfl
 rcases h with ⟨rfl, rfl⟩ | ⟨r, rfl, hb⟩
 · have hf : Instr.findNow .string (.string nm) ([] : List MapEntry) 0 = some none := rfl
   simp [Instr.lookup, run_underlying Tryz.underlying23, MapKept.run_checkKey hd hk, MapKept.run_findKey hd hf, Result.andThen, hz, fB]
 · obtain ⟨h1, h2⟩ := Lg nm l 0 0
   cases hg : fB l nm with
   | none =>
    have hf : Instr.findNow .string (.string nm) (pE l).toList 0 = some none := h1 hg
    simp [Instr.lookup, run_underlying Tryz.underlying23, MapKept.run_getObj_map hb, MapKept.run_checkKey hd hk, MapKept.run_findKey hd hf, Result.andThen, hz]
   | some d =>
    obtain ⟨q, hq⟩ := h2 d hg
    have hf : Instr.findNow .string (.string nm) (pE l).toList 0 = some (some (q, .string d)) := hq
    simp [Instr.lookup, run_underlying Tryz.underlying23, MapKept.run_getObj_map hb, MapKept.run_checkKey hd hk, MapKept.run_findKey hd hf, Result.andThen]
theorem Lv {w W : World} {r : Nat} (l : List (ByteArray × ByteArray)) (nm v : ByteArray) (hb : W.heap[r]? = some (.map (pE l) l.length)) (hr : w.heap.size ≤ r) (hB : Below w.heap.size w W) :
 ∃ W2, (Instr.mapUpdate 23 (.map (some r)) (.string nm) (.string v)).run Tryz.prog W = .ok () W2 ∧ W2.heap[r]? = some (.map (pE (kK l nm v)) (kK l nm v).length) ∧ Below w.heap.size w W2 ∧ W2.heap.size = W.heap.size ∧ ∀ g, g ≠ r → W2.heap[g]? = W.heap[g]? := by
 have hk : MapKept.IsKey .string (.string nm) := by simp [MapKept.IsKey]
 have hd : Tryz.prog.underlying 9 = some .string := Tryz.underlying9
 rcases jq nm v l 0 0 with ⟨_, hf0, hp, he⟩ | ⟨q, d, _, hf0, hm, hkey, hlen⟩
 · have hf : Instr.findNow .string (.string nm) (pE l).toList 0 = some none := hf0
   have hpush : (pE l).push { key := .string nm, val := .string v, born := l.length } = pE (kK l nm v) := by
    unfold pE
    rw [hp, List.push_toArray, Nat.zero_add]
   have hl : (kK l nm v).length = l.length + 1 := by rw [he, List.length_append]; rfl
   have h2 := MapKept.heap_set (o' := .map (pE (kK l nm v)) (l.length + 1)) hb
   refine ⟨{ W with heap := W.heap.setIfInBounds r (.map (pE (kK l nm v)) (l.length + 1)) }, ?_, by rw [hl]; exact h2.1, Ch hB hr, by simp, h2.2⟩
   simp [Instr.mapUpdate, run_underlying Tryz.underlying23, MapKept.run_getObj_map hb, MapKept.run_checkKey hd hk, MapKept.run_findKey hd hf, MapKept.run_setObj_map _ hb, Result.andThen, hpush]
 · have hf : Instr.findNow .string (.string nm) (pE l).toList 0 = some (some (0 + q, .string d)) := hf0
   have hold : (((pE l)[q]?).map (·.key)).getD (.string nm) = .string nm := by
    have : (pE l)[q]?.map (·.key) = some (.string nm) := by unfold pE; rw [List.getElem?_toArray]; exact hkey
    rw [this]; rfl
   have hs : (Instr.keyThatStays (.string nm) (.string nm)).run Tryz.prog W = .ok (.string nm) W := by
    unfold Instr.keyThatStays
    rw [ip (by simp [Instr.sameBits, aAJ])]; rfl
   have hmod : (pE l).modify q (fun e => { e with key := .string nm, val := .string v }) = pE (kK l nm v) := by
    unfold pE
    rw [← hm]; simp
   have h2 := MapKept.heap_set (o' := .map (pE (kK l nm v)) l.length) hb
   refine ⟨{ W with heap := W.heap.setIfInBounds r (.map (pE (kK l nm v)) l.length) }, ?_, by rw [hlen]; exact h2.1, Ch hB hr, by simp, h2.2⟩
   simp [Instr.mapUpdate, run_underlying Tryz.underlying23, MapKept.run_getObj_map hb, MapKept.run_checkKey hd hk, MapKept.run_findKey hd hf, MapKept.run_setObj_map _ hb, Result.andThen, hold, hs, hmod]
def jW.l0 : Nat → ByteArray → Int → Int → Option (Bool)
 | 0, _, _, _ => none
 | k + 1, x0, x6, x7 => if x7 < x6 then (if 0 ≤ x7 then (if x7 < (x0.size : Int) then (if (bt x0 x7) < 97 then (if (bt x0 x7) < 65 then (if (bt x0 x7) < 48 then (if (bt x0 x7) = 46 then (jW.l0 k x0 x6 (wrap64 (x7 + 1))) else (if (bt x0 x7) = 95 then (jW.l0 k x0 x6 (wrap64 (x7 + 1))) else (if (bt x0 x7) = 45 then (jW.l0 k x0 x6 (wrap64 (x7 + 1))) else (some false)))) else (if (bt x0 x7) > 57 then (if (bt x0 x7) = 46 then (jW.l0 k x0 x6 (wrap64 (x7 + 1))) else (if (bt x0 x7) = 95 then (jW.l0 k x0 x6 (wrap64 (x7 + 1))) else (if (bt x0 x7) = 45 then (jW.l0 k x0 x6 (wrap64 (x7 + 1))) else (some false)))) else (jW.l0 k x0 x6 (wrap64 (x7 + 1))))) else (if (bt x0 x7) > 90 then (if (bt x0 x7) < 48 then (if (bt x0 x7) = 46 then (jW.l0 k x0 x6 (wrap64 (x7 + 1))) else (if (bt x0 x7) = 95 then (jW.l0 k x0 x6 (wrap64 (x7 + 1))) else (if (bt x0 x7) = 45 then (jW.l0 k x0 x6 (wrap64 (x7 + 1))) else (some false)))) else (if (bt x0 x7) > 57 then (if (bt x0 x7) = 46 then (jW.l0 k x0 x6 (wrap64 (x7 + 1))) else (if (bt x0 x7) = 95 then (jW.l0 k x0 x6 (wrap64 (x7 + 1))) else (if (bt x0 x7) = 45 then (jW.l0 k x0 x6 (wrap64 (x7 + 1))) else (some false)))) else (jW.l0 k x0 x6 (wrap64 (x7 + 1))))) else (jW.l0 k x0 x6 (wrap64 (x7 + 1))))) else (if (bt x0 x7) > 122 then (if (bt x0 x7) < 65 then (if (bt x0 x7) < 48 then (if (bt x0 x7) = 46 then (jW.l0 k x0 x6 (wrap64 (x7 + 1))) else (if (bt x0 x7) = 95 then (jW.l0 k x0 x6 (wrap64 (x7 + 1))) else (if (bt x0 x7) = 45 then (jW.l0 k x0 x6 (wrap64 (x7 + 1))) else (some false)))) else (if (bt x0 x7) > 57 then (if (bt x0 x7) = 46 then (jW.l0 k x0 x6 (wrap64 (x7 + 1))) else (if (bt x0 x7) = 95 then (jW.l0 k x0 x6 (wrap64 (x7 + 1))) else (if (bt x0 x7) = 45 then (jW.l0 k x0 x6 (wrap64 (x7 + 1))) else (some false)))) else (jW.l0 k x0 x6 (wrap64 (x7 + 1))))) else (if (bt x0 x7) > 90 then (if (bt x0 x7) < 48 then (if (bt x0 x7) = 46 then (jW.l0 k x0 x6 (wrap64 (x7 + 1))) else (if (bt x0 x7) = 95 then (jW.l0 k x0 x6 (wrap64 (x7 + 1))) else (if (bt x0 x7) = 45 then (jW.l0 k x0 x6 (wrap64 (x7 + 1))) else (some false)))) else (if (bt x0 x7) > 57 then (if (bt x0 x7) = 46 then (jW.l0 k x0 x6 (wrap64 (x7 + 1))) else (if (bt x0 x7) = 95 then (jW.l0 k x0 x6 (wrap64 (x7 + 1))) else (if (bt x0 x7) = 45 then (jW.l0 k x0 x6 (wrap64 (x7 + 1))) else (some false)))) else (jW.l0 k x0 x6 (wrap64 (x7 + 1))))) else (jW.l0 k x0 x6 (wrap64 (x7 + 1))))) else (jW.l0 k x0 x6 (wrap64 (x7 + 1))))) else (none)) else (none)) else (if x0.toList = ([] : List UInt8) then (some false) else (if x0.toList = ([46] : List UInt8) then (some false) else (some (x0.toList != ([46, 46] : List UInt8)))))
def jW.f (k : Nat) (a0 : ByteArray) : Option (Bool) := jW.l0 k a0 (a0.size : Int) 0
theorem jW.calls (k : Nat) (a0 : ByteArray) (r : Bool) (w : World) (h : jW.f k a0 = some r) :
 Calls Tryz.prog 78 #[.string a0] w fun e w' => e = .returned (.bool r) ∧ fG w w' := by
 have H : (jW.l0 k a0 (a0.size : Int) 0) = some r := h; clear h; have H' := aA H; clear H
 go_enter Tryz.func78, Tryz.ntmps78
 go_wp2
 go_loopg [7] k (fun kq v7 w' => ∃ (aH : Int), v7 = .int .i64 aH ∧ aC (jW.l0 kq a0 (a0.size : Int) aH = some r) ∧ aC (kq ≤ k) ∧ fG w w')
 case atStart => exact ⟨(0), aZ, H', ⟨Nat.le_refl _⟩, dr⟩
 case round =>
  clear H'; obtain ⟨aH, rfl, HA, bD, ⟨m1, rfl⟩⟩ := hrel
  cases gk with
  | zero => exact absurd HA.out (by simp [jW.l0])
  | succ k1 =>
   have H := HA.out; clear HA
   simp only [jW.l0] at H
   by_cases c2 : aH < (a0.size : Int)
   ·
    rw [ip c2] at H; have iZ := dT c2; clear c2; replace H := dU H; obtain ⟨c3, H⟩ := H; have gL := dT c3; clear c3
    by_cases c4 : aH < (a0.size : Int)
    ·
     rw [ip c4] at H; have fP := dT c4; clear c4
     by_cases c6 : (bt a0 aH) < 97
     ·
      rw [ip c6] at H; have kP := dT c6; clear c6
      by_cases c7 : (bt a0 aH) < 65
      ·
       rw [ip c7] at H; have nA := dT c7; clear c7
       by_cases c8 : (bt a0 aH) < 48
       ·
        rw [ip c8] at H; have mG := dT c8; clear c8
        by_cases c9 : (bt a0 aH) = 46
        ·
         rw [ip c9] at H; obtain ⟨mO, xI⟩ := dH c9; clear c9; have H' := aA H; clear H; have p5 : 0 ≤ (aH : Int) := aK; have q5 : aH < (a0.size : Int) := aK; have hx5 := fE a0 aH; replace p5 := eT p5; replace q5 := eT q5
         go_wp2
         go_roundg k1
         case measure => have := bD.out; omega
         case rel => exact ⟨(wrap64 (aH + 1)), aZ, H', iK bD, dr⟩
        ·
         rw [iN c9] at H; have mO := beq_eq_false_iff_ne.mpr c9; have xI := bne_iff_ne.mpr c9
         by_cases c10 : (bt a0 aH) = 95
         ·
          rw [ip c10] at H; obtain ⟨qO, zN⟩ := dH c10; clear c10; have H' := aA H; clear H; have p5 : 0 ≤ (aH : Int) := aK; have q5 : aH < (a0.size : Int) := aK; have hx5 := fE a0 aH; replace p5 := eT p5; replace q5 := eT q5
          go_wp2
          go_roundg k1
          case measure => have := bD.out; omega
          case rel => exact ⟨(wrap64 (aH + 1)), aZ, H', iK bD, dr⟩
         ·
          rw [iN c10] at H; have qO := beq_eq_false_iff_ne.mpr c10; have zN := bne_iff_ne.mpr c10
          by_cases c11 : (bt a0 aH) = 45
          ·
           rw [ip c11] at H; obtain ⟨nJ, JZ⟩ := dH c11; clear c11; have H' := aA H; clear H; have p5 : 0 ≤ (aH : Int) := aK; have q5 : aH < (a0.size : Int) := aK; have hx5 := fE a0 aH; replace p5 := eT p5; replace q5 := eT q5
           go_wp2
           go_roundg k1
           case measure => have := bD.out; omega
           case rel => exact ⟨(wrap64 (aH + 1)), aZ, H', iK bD, dr⟩
          ·
           rw [iN c11] at H; have nJ := beq_eq_false_iff_ne.mpr c11; have JZ := bne_iff_ne.mpr c11; obtain rfl := Option.some.inj H; have p5 : 0 ≤ (aH : Int) := aK; have q5 : aH < (a0.size : Int) := aK; have hx5 := fE a0 aH; replace p5 := eT p5; replace q5 := eT q5
           go_wp2
           go_ret
           exact dW
       ·
        rw [iN c8] at H; have mG := dF c8; clear c8
        by_cases c12 : (bt a0 aH) > 57
        ·
         rw [ip c12] at H; have tH := dT c12; clear c12
         by_cases c13 : (bt a0 aH) = 46
         ·
          rw [ip c13] at H; obtain ⟨vU, OB⟩ := dH c13; clear c13; have H' := aA H; clear H; have p5 : 0 ≤ (aH : Int) := aK; have q5 : aH < (a0.size : Int) := aK; have hx5 := fE a0 aH; replace p5 := eT p5; replace q5 := eT q5
          go_wp2
          go_roundg k1
          case measure => have := bD.out; omega
          case rel => exact ⟨(wrap64 (aH + 1)), aZ, H', iK bD, dr⟩
         ·
          rw [iN c13] at H; have vU := beq_eq_false_iff_ne.mpr c13; have OB := bne_iff_ne.mpr c13
          by_cases c14 : (bt a0 aH) = 95
          ·
           rw [ip c14] at H; obtain ⟨yB, QH⟩ := dH c14; clear c14; have H' := aA H; clear H; have p5 : 0 ≤ (aH : Int) := aK; have q5 : aH < (a0.size : Int) := aK; have hx5 := fE a0 aH; replace p5 := eT p5; replace q5 := eT q5
           go_wp2
           go_roundg k1
           case measure => have := bD.out; omega
           case rel => exact ⟨(wrap64 (aH + 1)), aZ, H', iK bD, dr⟩
          ·
           rw [iN c14] at H; have yB := beq_eq_false_iff_ne.mpr c14; have QH := bne_iff_ne.mpr c14
           by_cases c15 : (bt a0 aH) = 45
           ·
            rw [ip c15] at H; obtain ⟨qP, FD⟩ := dH c15; clear c15; have H' := aA H; clear H; have p5 : 0 ≤ (aH : Int) := aK; have q5 : aH < (a0.size : Int) := aK; have hx5 := fE a0 aH; replace p5 := eT p5; replace q5 := eT q5
            go_wp2
            go_roundg k1
            case measure => have := bD.out; omega
            case rel => exact ⟨(wrap64 (aH + 1)), aZ, H', iK bD, dr⟩
           ·
            rw [iN c15] at H; have qP := beq_eq_false_iff_ne.mpr c15; have FD := bne_iff_ne.mpr c15; obtain rfl := Option.some.inj H; have p5 : 0 ≤ (aH : Int) := aK; have q5 : aH < (a0.size : Int) := aK; have hx5 := fE a0 aH; replace p5 := eT p5; replace q5 := eT q5
            go_wp2
            go_ret
            exact dW
        ·
         rw [iN c12] at H; have tH := dF c12; clear c12; have H' := aA H; clear H; have p5 : 0 ≤ (aH : Int) := aK; have q5 : aH < (a0.size : Int) := aK; have hx5 := fE a0 aH; replace p5 := eT p5; replace q5 := eT q5
         go_wp2
         go_roundg k1
         case measure => have := bD.out; omega
         case rel => exact ⟨(wrap64 (aH + 1)), aZ, H', iK bD, dr⟩
      ·
       rw [iN c7] at H; have nA := dF c7; clear c7
       by_cases c16 : (bt a0 aH) > 90
       ·
        rw [ip c16] at H; have FE := dT c16; clear c16
        by_cases c17 : (bt a0 aH) < 48
        ·
         rw [ip c17] at H; have J2 := dT c17; clear c17
         by_cases c18 : (bt a0 aH) = 46
         ·
          rw [ip c18] at H; obtain ⟨LW, QK⟩ := dH c18; clear c18; have H' := aA H; clear H; have p5 : 0 ≤ (aH : Int) := aK; have q5 : aH < (a0.size : Int) := aK; have hx5 := fE a0 aH; replace p5 := eT p5; replace q5 := eT q5
          go_wp2
          go_roundg k1
          case measure => have := bD.out; omega
          case rel => exact ⟨(wrap64 (aH + 1)), aZ, H', iK bD, dr⟩
         ·
          rw [iN c18] at H; have LW := beq_eq_false_iff_ne.mpr c18; have QK := bne_iff_ne.mpr c18
          by_cases c19 : (bt a0 aH) = 95
          ·
           rw [ip c19] at H; obtain ⟨LX, QL⟩ := dH c19; clear c19; have H' := aA H; clear H; have p5 : 0 ≤ (aH : Int) := aK; have q5 : aH < (a0.size : Int) := aK; have hx5 := fE a0 aH; replace p5 := eT p5; replace q5 := eT q5
           go_wp2
           go_roundg k1
           case measure => have := bD.out; omega
           case rel => exact ⟨(wrap64 (aH + 1)), aZ, H', iK bD, dr⟩
          ·
           rw [iN c19] at H; have LX := beq_eq_false_iff_ne.mpr c19; have QL := bne_iff_ne.mpr c19
           by_cases c20 : (bt a0 aH) = 45
           ·
            rw [ip c20] at H; obtain ⟨QM, Ml⟩ := dH c20; clear c20; have H' := aA H; clear H; have p5 : 0 ≤ (aH : Int) := aK; have q5 : aH < (a0.size : Int) := aK; have hx5 := fE a0 aH; replace p5 := eT p5; replace q5 := eT q5
            go_wp2
            go_roundg k1
            case measure => have := bD.out; omega
            case rel => exact ⟨(wrap64 (aH + 1)), aZ, H', iK bD, dr⟩
           ·
            rw [iN c20] at H; have QM := beq_eq_false_iff_ne.mpr c20; have Ml := bne_iff_ne.mpr c20; obtain rfl := Option.some.inj H; have p5 : 0 ≤ (aH : Int) := aK; have q5 : aH < (a0.size : Int) := aK; have hx5 := fE a0 aH; replace p5 := eT p5; replace q5 := eT q5
            go_wp2
            go_ret
            exact dW
        ·
         rw [iN c17] at H; have J2 := dF c17; clear c17
         by_cases c21 : (bt a0 aH) > 57
         ·
          rw [ip c21] at H; have vV := dT c21; clear c21
          by_cases mU : (bt a0 aH) = 46
          ·
           rw [ip mU] at H; obtain ⟨LY, QO⟩ := dH mU; clear mU; have H' := aA H; clear H; have p5 : 0 ≤ (aH : Int) := aK; have q5 : aH < (a0.size : Int) := aK; have hx5 := fE a0 aH; replace p5 := eT p5; replace q5 := eT q5
           go_wp2
           go_roundg k1
           case measure => have := bD.out; omega
           case rel => exact ⟨(wrap64 (aH + 1)), aZ, H', iK bD, dr⟩
          ·
           rw [iN mU] at H; have LY := beq_eq_false_iff_ne.mpr mU; have QO := bne_iff_ne.mpr mU
           by_cases c23 : (bt a0 aH) = 95
           ·
            rw [ip c23] at H; obtain ⟨ZA, mr⟩ := dH c23; clear c23; have H' := aA H; clear H; have p5 : 0 ≤ (aH : Int) := aK; have q5 : aH < (a0.size : Int) := aK; have hx5 := fE a0 aH; replace p5 := eT p5; replace q5 := eT q5
            go_wp2
            go_roundg k1
            case measure => have := bD.out; omega
            case rel => exact ⟨(wrap64 (aH + 1)), aZ, H', iK bD, dr⟩
           ·
            rw [iN c23] at H; have ZA := beq_eq_false_iff_ne.mpr c23; have mr := bne_iff_ne.mpr c23
            by_cases c24 : (bt a0 aH) = 45
            ·
             rw [ip c24] at H; obtain ⟨FH, QP⟩ := dH c24; clear c24; have H' := aA H; clear H; have p5 : 0 ≤ (aH : Int) := aK; have q5 : aH < (a0.size : Int) := aK; have hx5 := fE a0 aH; replace p5 := eT p5; replace q5 := eT q5
             go_wp2
             go_roundg k1
             case measure => have := bD.out; omega
             case rel => exact ⟨(wrap64 (aH + 1)), aZ, H', iK bD, dr⟩
            ·
             rw [iN c24] at H; have FH := beq_eq_false_iff_ne.mpr c24; have QP := bne_iff_ne.mpr c24; obtain rfl := Option.some.inj H; have p5 : 0 ≤ (aH : Int) := aK; have q5 : aH < (a0.size : Int) := aK; have hx5 := fE a0 aH; replace p5 := eT p5; replace q5 := eT q5
             go_wp2
             go_ret
             exact dW
         ·
          rw [iN c21] at H; have vV := dF c21; clear c21; have H' := aA H; clear H; have p5 : 0 ≤ (aH : Int) := aK; have q5 : aH < (a0.size : Int) := aK; have hx5 := fE a0 aH; replace p5 := eT p5; replace q5 := eT q5
          go_wp2
          go_roundg k1
          case measure => have := bD.out; omega
          case rel => exact ⟨(wrap64 (aH + 1)), aZ, H', iK bD, dr⟩
       ·
        rw [iN c16] at H; have FE := dF c16; clear c16; have H' := aA H; clear H; have p5 : 0 ≤ (aH : Int) := aK; have q5 : aH < (a0.size : Int) := aK; have hx5 := fE a0 aH; replace p5 := eT p5; replace q5 := eT q5
        go_wp2
        go_roundg k1
        case measure => have := bD.out; omega
        case rel => exact ⟨(wrap64 (aH + 1)), aZ, H', iK bD, dr⟩
     ·
      rw [iN c6] at H; have kP := dF c6; clear c6
      by_cases nD : (bt a0 aH) > 122
      ·
       rw [ip nD] at H; have LZ := dT nD; clear nD
       by_cases oQ : (bt a0 aH) < 65
       ·
        rw [ip oQ] at H; have FI := dT oQ; clear oQ
        by_cases qW : (bt a0 aH) < 48
        ·
         rw [ip qW] at H; have QR := dT qW; clear qW
         by_cases c28 : (bt a0 aH) = 46
         ·
          rw [ip c28] at H; obtain ⟨J3, J4⟩ := dH c28; clear c28; have H' := aA H; clear H; have p5 : 0 ≤ (aH : Int) := aK; have q5 : aH < (a0.size : Int) := aK; have hx5 := fE a0 aH; replace p5 := eT p5; replace q5 := eT q5
          go_wp2
          go_roundg k1
          case measure => have := bD.out; omega
          case rel => exact ⟨(wrap64 (aH + 1)), aZ, H', iK bD, dr⟩
         ·
          rw [iN c28] at H; have J3 := beq_eq_false_iff_ne.mpr c28; have J4 := bne_iff_ne.mpr c28
          by_cases wN : (bt a0 aH) = 95
          ·
           rw [ip wN] at H; obtain ⟨ZB, ZC⟩ := dH wN; clear wN; have H' := aA H; clear H; have p5 : 0 ≤ (aH : Int) := aK; have q5 : aH < (a0.size : Int) := aK; have hx5 := fE a0 aH; replace p5 := eT p5; replace q5 := eT q5
           go_wp2
           go_roundg k1
           case measure => have := bD.out; omega
           case rel => exact ⟨(wrap64 (aH + 1)), aZ, H', iK bD, dr⟩
          ·
           rw [iN wN] at H; have ZB := beq_eq_false_iff_ne.mpr wN; have ZC := bne_iff_ne.mpr wN
           by_cases nP : (bt a0 aH) = 45
           ·
            rw [ip nP] at H; obtain ⟨QS, QT⟩ := dH nP; clear nP; have H' := aA H; clear H; have p5 : 0 ≤ (aH : Int) := aK; have q5 : aH < (a0.size : Int) := aK; have hx5 := fE a0 aH; replace p5 := eT p5; replace q5 := eT q5
            go_wp2
            go_roundg k1
            case measure => have := bD.out; omega
            case rel => exact ⟨(wrap64 (aH + 1)), aZ, H', iK bD, dr⟩
           ·
            rw [iN nP] at H; have QS := beq_eq_false_iff_ne.mpr nP; have QT := bne_iff_ne.mpr nP; obtain rfl := Option.some.inj H; have p5 : 0 ≤ (aH : Int) := aK; have q5 : aH < (a0.size : Int) := aK; have hx5 := fE a0 aH; replace p5 := eT p5; replace q5 := eT q5
            go_wp2
            go_ret
            exact dW
        ·
         rw [iN qW] at H; have QR := dF qW; clear qW
         by_cases c31 : (bt a0 aH) > 57
         ·
          rw [ip c31] at H; have ni := dT c31; clear c31
          by_cases c32 : (bt a0 aH) = 46
          ·
           rw [ip c32] at H; obtain ⟨Mo, Mq⟩ := dH c32; clear c32; have H' := aA H; clear H; have p5 : 0 ≤ (aH : Int) := aK; have q5 : aH < (a0.size : Int) := aK; have hx5 := fE a0 aH; replace p5 := eT p5; replace q5 := eT q5
           go_wp2
           go_roundg k1
           case measure => have := bD.out; omega
           case rel => exact ⟨(wrap64 (aH + 1)), aZ, H', iK bD, dr⟩
          ·
           rw [iN c32] at H; have Mo := beq_eq_false_iff_ne.mpr c32; have Mq := bne_iff_ne.mpr c32
           by_cases CL : (bt a0 aH) = 95
           ·
            rw [ip CL] at H; obtain ⟨Mr, Ms⟩ := dH CL; clear CL; have H' := aA H; clear H; have p5 : 0 ≤ (aH : Int) := aK; have q5 : aH < (a0.size : Int) := aK; have hx5 := fE a0 aH; replace p5 := eT p5; replace q5 := eT q5
            go_wp2
            go_roundg k1
            case measure => have := bD.out; omega
            case rel => exact ⟨(wrap64 (aH + 1)), aZ, H', iK bD, dr⟩
           ·
            rw [iN CL] at H; have Mr := beq_eq_false_iff_ne.mpr CL; have Ms := bne_iff_ne.mpr CL
            by_cases c34 : (bt a0 aH) = 45
            ·
             rw [ip c34] at H; obtain ⟨nk, nu⟩ := dH c34; clear c34; have H' := aA H; clear H; have p5 : 0 ≤ (aH : Int) := aK; have q5 : aH < (a0.size : Int) := aK; have hx5 := fE a0 aH; replace p5 := eT p5; replace q5 := eT q5
             go_wp2
             go_roundg k1
             case measure => have := bD.out; omega
             case rel => exact ⟨(wrap64 (aH + 1)), aZ, H', iK bD, dr⟩
            ·
             rw [iN c34] at H; have nk := beq_eq_false_iff_ne.mpr c34; have nu := bne_iff_ne.mpr c34; obtain rfl := Option.some.inj H; have p5 : 0 ≤ (aH : Int) := aK; have q5 : aH < (a0.size : Int) := aK; have hx5 := fE a0 aH; replace p5 := eT p5; replace q5 := eT q5
             go_wp2
             go_ret
             exact dW
         ·
          rw [iN c31] at H; have ni := dF c31; clear c31; have H' := aA H; clear H; have p5 : 0 ≤ (aH : Int) := aK; have q5 : aH < (a0.size : Int) := aK; have hx5 := fE a0 aH; replace p5 := eT p5; replace q5 := eT q5
          go_wp2
          go_roundg k1
          case measure => have := bD.out; omega
          case rel => exact ⟨(wrap64 (aH + 1)), aZ, H', iK bD, dr⟩
       ·
        rw [iN oQ] at H; have FI := dF oQ; clear oQ
        by_cases oU : (bt a0 aH) > 90
        ·
         rw [ip oU] at H; have FJ := dT oU; clear oU
         by_cases CO : (bt a0 aH) < 48
         ·
          rw [ip CO] at H; have ny := dT CO; clear CO
          by_cases c37 : (bt a0 aH) = 46
          ·
           rw [ip c37] at H; obtain ⟨aD3, aD4⟩ := dH c37; clear c37; have H' := aA H; clear H; have p5 : 0 ≤ (aH : Int) := aK; have q5 : aH < (a0.size : Int) := aK; have hx5 := fE a0 aH; replace p5 := eT p5; replace q5 := eT q5
           go_wp2
           go_roundg k1
           case measure => have := bD.out; omega
           case rel => exact ⟨(wrap64 (aH + 1)), aZ, H', iK bD, dr⟩
          ·
           rw [iN c37] at H; have aD3 := beq_eq_false_iff_ne.mpr c37; have aD4 := bne_iff_ne.mpr c37
           by_cases wO : (bt a0 aH) = 95
           ·
            rw [ip wO] at H; obtain ⟨ZE, ZF⟩ := dH wO; clear wO; have H' := aA H; clear H; have p5 : 0 ≤ (aH : Int) := aK; have q5 : aH < (a0.size : Int) := aK; have hx5 := fE a0 aH; replace p5 := eT p5; replace q5 := eT q5
            go_wp2
            go_roundg k1
            case measure => have := bD.out; omega
            case rel => exact ⟨(wrap64 (aH + 1)), aZ, H', iK bD, dr⟩
           ·
            rw [iN wO] at H; have ZE := beq_eq_false_iff_ne.mpr wO; have ZF := bne_iff_ne.mpr wO
            by_cases xN : (bt a0 aH) = 45
            ·
             rw [ip xN] at H; obtain ⟨ZG, Mt⟩ := dH xN; clear xN; have H' := aA H; clear H; have p5 : 0 ≤ (aH : Int) := aK; have q5 : aH < (a0.size : Int) := aK; have hx5 := fE a0 aH; replace p5 := eT p5; replace q5 := eT q5
             go_wp2
             go_roundg k1
             case measure => have := bD.out; omega
             case rel => exact ⟨(wrap64 (aH + 1)), aZ, H', iK bD, dr⟩
            ·
             rw [iN xN] at H; have ZG := beq_eq_false_iff_ne.mpr xN; have Mt := bne_iff_ne.mpr xN; obtain rfl := Option.some.inj H; have p5 : 0 ≤ (aH : Int) := aK; have q5 : aH < (a0.size : Int) := aK; have hx5 := fE a0 aH; replace p5 := eT p5; replace q5 := eT q5
             go_wp2
             go_ret
             exact dW
         ·
          rw [iN CO] at H; have ny := dF CO; clear CO
          by_cases c40 : (bt a0 aH) > 57
          ·
           rw [ip c40] at H; have ZH := dT c40; clear c40
           by_cases EJ : (bt a0 aH) = 46
           ·
            rw [ip EJ] at H; obtain ⟨Mw, Mx⟩ := dH EJ; clear EJ; have H' := aA H; clear H; have p5 : 0 ≤ (aH : Int) := aK; have q5 : aH < (a0.size : Int) := aK; have hx5 := fE a0 aH; replace p5 := eT p5; replace q5 := eT q5
            go_wp2
            go_roundg k1
            case measure => have := bD.out; omega
            case rel => exact ⟨(wrap64 (aH + 1)), aZ, H', iK bD, dr⟩
           ·
            rw [iN EJ] at H; have Mw := beq_eq_false_iff_ne.mpr EJ; have Mx := bne_iff_ne.mpr EJ
            by_cases KO : (bt a0 aH) = 95
            ·
             rw [ip KO] at H; obtain ⟨Na, Nb⟩ := dH KO; clear KO; have H' := aA H; clear H; have p5 : 0 ≤ (aH : Int) := aK; have q5 : aH < (a0.size : Int) := aK; have hx5 := fE a0 aH; replace p5 := eT p5; replace q5 := eT q5
             go_wp2
             go_roundg k1
             case measure => have := bD.out; omega
             case rel => exact ⟨(wrap64 (aH + 1)), aZ, H', iK bD, dr⟩
            ·
             rw [iN KO] at H; have Na := beq_eq_false_iff_ne.mpr KO; have Nb := bne_iff_ne.mpr KO
             by_cases CP : (bt a0 aH) = 45
             ·
              rw [ip CP] at H; obtain ⟨nz, oh⟩ := dH CP; clear CP; have H' := aA H; clear H; have p5 : 0 ≤ (aH : Int) := aK; have q5 : aH < (a0.size : Int) := aK; have hx5 := fE a0 aH; replace p5 := eT p5; replace q5 := eT q5
              go_wp2
              go_roundg k1
              case measure => have := bD.out; omega
              case rel => exact ⟨(wrap64 (aH + 1)), aZ, H', iK bD, dr⟩
             ·
              rw [iN CP] at H; have nz := beq_eq_false_iff_ne.mpr CP; have oh := bne_iff_ne.mpr CP; obtain rfl := Option.some.inj H; have p5 : 0 ≤ (aH : Int) := aK; have q5 : aH < (a0.size : Int) := aK; have hx5 := fE a0 aH; replace p5 := eT p5; replace q5 := eT q5
              go_wp2
              go_ret
              exact dW
          ·
           rw [iN c40] at H; have ZH := dF c40; clear c40; have H' := aA H; clear H; have p5 : 0 ≤ (aH : Int) := aK; have q5 : aH < (a0.size : Int) := aK; have hx5 := fE a0 aH; replace p5 := eT p5; replace q5 := eT q5
           go_wp2
           go_roundg k1
           case measure => have := bD.out; omega
           case rel => exact ⟨(wrap64 (aH + 1)), aZ, H', iK bD, dr⟩
        ·
         rw [iN oU] at H; have FJ := dF oU; clear oU; have H' := aA H; clear H; have p5 : 0 ≤ (aH : Int) := aK; have q5 : aH < (a0.size : Int) := aK; have hx5 := fE a0 aH; replace p5 := eT p5; replace q5 := eT q5
         go_wp2
         go_roundg k1
         case measure => have := bD.out; omega
         case rel => exact ⟨(wrap64 (aH + 1)), aZ, H', iK bD, dr⟩
      ·
       rw [iN nD] at H; have LZ := dF nD; clear nD; have H' := aA H; clear H; have p5 : 0 ≤ (aH : Int) := aK; have q5 : aH < (a0.size : Int) := aK; have hx5 := fE a0 aH; replace p5 := eT p5; replace q5 := eT q5
       go_wp2
       go_roundg k1
       case measure => have := bD.out; omega
       case rel => exact ⟨(wrap64 (aH + 1)), aZ, H', iK bD, dr⟩
    ·
     exact absurd (of_decide_eq_true iZ) c4
   ·
    rw [iN c2] at H; have iZ := dF c2; clear c2
    by_cases KP : a0.toList = ([] : List UInt8)
    ·
     rw [ip KP] at H; obtain ⟨aD7, aD8⟩ := dH KP; clear KP; obtain rfl := Option.some.inj H
     go_wp2
     go_ret
     exact dW
    ·
     rw [iN KP] at H; have aD7 := beq_eq_false_iff_ne.mpr KP; have aD8 := bne_iff_ne.mpr KP
     by_cases CQ : a0.toList = ([46] : List UInt8)
     ·
      rw [ip CQ] at H; obtain ⟨om, aD9⟩ := dH CQ; clear CQ; obtain rfl := Option.some.inj H
      go_wp2
      go_ret
      exact dW
     ·
      rw [iN CQ] at H; have om := beq_eq_false_iff_ne.mpr CQ; have aD9 := bne_iff_ne.mpr CQ; obtain rfl := Option.some.inj H
      go_wp2
      go_ret
      exact dW
section
def lI (s : ByteArray) : Int := Lib.indexByte s.data.toList 47
theorem Co : ∀ (l : List UInt8) (c : UInt8), Lib.indexByte l c < l.length
 | [], _ => by simp [Lib.indexByte]
 | b :: l, c => by
  have := Co l c
  unfold Lib.indexByte
  rw [List.length_cons]
  split
  · omega
  · split
    · omega
    · omega
theorem LA (s : ByteArray) : lI s < s.size := by
 have h := Co s.data.toList 47
 rw [Array.length_toList] at h
 exact h
def EK : Nat → ByteArray → List ByteArray
 | 0, s => [s]
 | n + 1, s => if lI s < 0 then [s] else s.extract 0 (lI s).toNat :: EK n (s.extract ((lI s).toNat + 1) s.size)
def pieces (s : ByteArray) : List ByteArray := EK s.size s
theorem Gp : ∀ (n m : Nat) (s : ByteArray), s.size ≤ n → s.size ≤ m → EK n s = EK m s
 | 0, 0, _, _, _ => rfl
 | 0, m + 1, s, hn, _ => by
  have h0 : s.size = 0 := by omega
  have := LA s
  rw [EK, EK, ip (by omega)]
 | n + 1, 0, s, _, hm => by
  have h0 : s.size = 0 := by omega
  have := LA s
  rw [EK, EK, ip (by omega)]
 | n + 1, m + 1, s, hn, hm => by
  rw [EK, EK]
  by_cases h : lI s < 0
  · rw [ip h, ip h]
  · rw [iN h, iN h, Gp n m _ (by rw [ByteArray.size_extract]; omega) (by rw [ByteArray.size_extract]; omega)]
theorem _R {s : ByteArray} (h : lI s < 0) : pieces s = [s] := by
 unfold pieces
 cases hn : s.size with
 | zero => rfl
 | succ n => rw [EK, ip h]
theorem _1 {s : ByteArray} (h : 0 ≤ lI s) : pieces s = s.extract 0 (lI s).toNat :: pieces (s.extract ((lI s).toNat + 1) s.size) := by
 have hl := LA s
 unfold pieces
 obtain ⟨n, hn⟩ : ∃ n, s.size = n + 1 := ⟨s.size - 1, by omega⟩
 rw [hn, EK, iN (by omega), ← hn]
 congr 1
 exact Gp _ _ _ (by rw [ByteArray.size_extract]; omega) (by rw [ByteArray.size_extract]; omega)
theorem Wu (s : ByteArray) (c : Int) (w : World) :
 Calls Tryz.prog 114 #[.string s, .int .u8 c] w fun e w' => e = .returned (.int .i64 (Lib.indexByte s.data.toList c.toNat.toUInt8)) ∧ w = w' := by
 go_enter Tryz.func114, Tryz.ntmps114
 go_wp2
 rw [run_callFunc_extern Tryz.func121 (by kernel_rfl) (by kernel_rfl) (by kernel_rfl) (e := Extern.BytealgIndexByte.indexByte) (by kernel_rfl), Lib.run_indexByteString]
 simp only [Result.andThen]
 rw [Oper.upon_value]
 go_wp2
 go_ret
 exact ⟨rfl, rfl⟩
theorem aCp (s : ByteArray) (w : World) :
 Calls Tryz.prog 111 #[.string s, .string ⟨#[47]⟩] w fun e w' => e = .returned (.int .i64 (lI s)) ∧ w = w' := by
 go_enter Tryz.func111, Tryz.ntmps111
 go_wp2_with (go_at_call 114; refine (Wu _ _ _).mono ?_; rintro e w' ⟨rfl, rfl⟩)
 · have h : ([47] == s.toList) = true := by assumption
   go_ret
   refine ⟨?_, rfl⟩
   have e : s.data.toList = [47] := by rw [← Lib.toList_data]; exact (beq_iff_eq.1 h).symm
   unfold lI
   rw [e]
   simp [Lib.indexByte]
 · go_ret
   exact ⟨rfl, rfl⟩
theorem aDb (s : ByteArray) (w : World) :
 Calls Tryz.prog 107 #[.string s, .string ⟨#[47]⟩] w fun e w' => e = .returned (.int .i64 (lI s)) ∧ w = w' := by
 go_enter Tryz.func107, Tryz.ntmps107
 go_wp2_with (go_at_call 111; refine (aCp _ _).mono ?_; rintro e w' ⟨rfl, rfl⟩)
 go_ret
 exact ⟨rfl, rfl⟩
def AP (W : World) (Bp Bs Bq : Nat) (s : ByteArray) : Prop := W.heap[Bp]? = some (.cells #[.string ⟨#[47]⟩] 9 (0, 0)) ∧ W.heap[Bs]? = some (.cells #[.string s] 9 (0, 0)) ∧ W.heap[Bq]? = some (.cells #[.int .i64 0] 3 (0, 0))
theorem Vz (s : ByteArray) (w : World) :
 Calls Tryz.prog 96 #[.string s, .string ⟨#[47]⟩, .int .i64 0] w fun e w' => e = .returned (.func (.func 105) #[] #[.pointer (some ⟨w.heap.size + 1, 0, none⟩), .pointer (some ⟨w.heap.size, 0, none⟩), .pointer (some ⟨w.heap.size + 2, 0, none⟩)]) ∧
  AP w' (w.heap.size + 1) w.heap.size (w.heap.size + 2) s ∧ w'.heap.size = w.heap.size + 3 ∧ Below w.heap.size w w' := by
 go_enter Tryz.func96, Tryz.ntmps96
 go_wp2
 go_ret
 refine ⟨rfl, ⟨?_, ?_, ?_⟩, by simp, ((Below.refl _ w).alloc (Nat.le_refl _) _).alloc (by simp) _ |>.alloc (by simp; omega) _⟩
 · refine (Below.heap_alloc _ _ _ (by simp)).trans ?_
   have := World.alloc_heap_new (w.alloc (.cells #[.string s] 9)) (.cells #[.string ⟨#[47]⟩] 9)
   rwa [World.size_alloc] at this
 · exact ((Below.heap_alloc _ _ _ (by simp; omega)).trans (Below.heap_alloc _ _ _ (by simp))).trans (World.alloc_heap_new w _)
 · have := World.alloc_heap_new ((w.alloc (.cells #[.string s] 9)).alloc (.cells #[.string ⟨#[47]⟩] 9)) (.cells #[.int .i64 0] 3)
   rwa [World.size_alloc, World.size_alloc] at this
theorem Ve (s : ByteArray) (w : World) :
 Calls Tryz.prog 77 #[.string s, .string ⟨#[47]⟩] w fun e w' => e = .returned (.func (.func 105) #[] #[.pointer (some ⟨w.heap.size + 1, 0, none⟩), .pointer (some ⟨w.heap.size, 0, none⟩), .pointer (some ⟨w.heap.size + 2, 0, none⟩)]) ∧
  AP w' (w.heap.size + 1) w.heap.size (w.heap.size + 2) s ∧ w'.heap.size = w.heap.size + 3 ∧ Below w.heap.size w w' := by
 go_enter Tryz.func77, Tryz.ntmps77
 go_wp2_with (go_at_call 96; refine (Vz _ _).mono ?_; rintro e w' ⟨rfl, hs, hz, hb⟩)
 go_ret
 exact ⟨rfl, hs, hz, hb⟩
theorem Xh {W : World} {Bp Bs Bq : Nat} {s t : ByteArray} (h : AP W Bp Bs Bq s) (h1 : Bp ≠ Bs) (h2 : Bq ≠ Bs) : AP (W.setCell ⟨Bs, 0, none⟩ (.string t)) Bp Bs Bq t :=
 ⟨PV h.1 h1 _, lH h.2.1 0 _ rfl, PV h.2.2 h2 _⟩
theorem Vy {W W' : World} {Bp Bs Bq : Nat} {s : ByteArray} {n : Nat} (h : AP W Bp Bs Bq s) (hb : Below n W W') (h1 : Bp < n) (h2 : Bs < n) (h3 : Bq < n) : AP W' Bp Bs Bq s :=
 ⟨(hb.block _ h1).trans h.1, (hb.block _ h2).trans h.2.1, (hb.block _ h3).trans h.2.2⟩
def ll (W : World) (Bs : Nat) : Nat := match W.cell? ⟨Bs, 0, none⟩ with
 | some (Value.string s) => s.size
 | _ => 0
theorem Er {W : World} {Bp Bs Bq : Nat} {s : ByteArray} (h : AP W Bp Bs Bq s) : ll W Bs = s.size := by
 unfold ll; rw [aM h.2.1 0]; rfl
theorem Kn (s : ByteArray) (i : Int) (h : lI s = i) (w : World) :
 Calls Tryz.prog 107 #[.string s, .string ⟨#[47]⟩] w fun e w' => e = .returned (.int .i64 i) ∧ w = w' := by
 rw [← h]; exact aDb s w
attribute [local go_sem] Oper.semAt_some
theorem Zr (l n Bp Bs Bq : Nat) (hn : 1 ≤ n) (yR : ByteArray → Bool) (J Jx : World → Prop) (hps : Bp ≠ Bs) (hqs : Bq ≠ Bs)
 (hJ : ∀ W v, J W → J (W.setCell ⟨Bs, 0, none⟩ v))
 (hY : ∀ x : ByteArray, x.size ≤ 140737488351232 → ∀ W, J W → YieldAt Fence.wide (n - 1) Tryz.prog l #[.string x] W fun e W' => (yR x = true ∧ e = .returned (.bool true) ∧ J W' ∧ ∀ s, AP W Bp Bs Bq s → AP W' Bp Bs Bq s) ∨ (yR x = false ∧ e = .returned (.bool false) ∧ Jx W'))
 (s : ByteArray) (hsz : s.size ≤ 140737488351232) (W : World) (h0 : J W) (hs : AP W Bp Bs Bq s) :
 CallsIn Fence.wide n Tryz.prog 105 #[.func (.yield l) #[] #[], .pointer (some ⟨Bp, 0, none⟩), .pointer (some ⟨Bs, 0, none⟩), .pointer (some ⟨Bq, 0, none⟩)] W fun e W' =>
  (∃ v, e = .returned v) ∧ (((pieces s).all yR = true ∧ J W') ∨ ((pieces s).all yR = false ∧ Jx W')) := by
 refine callsIn_of_wp Tryz.func105 rfl trivial ?_ rfl
 simp only [Tryz.ntmps105, List.size_toArray, List.length_cons, List.length_nil, Nat.reduceAdd, Nat.reduceSub, Array.replicate_succ, Array.replicate_zero, List.push_toArray, List.append_toArray, List.nil_append, List.cons_append]
 have hc1 : W.cell? ⟨Bp, 0, none⟩ = some (.string ⟨#[47]⟩) := aM hs.1 0
 gi_wp2
 clear hc1
 gi_loopw [7] (fun _ wr => ∃ cur : ByteArray, J wr ∧ AP wr Bp Bs Bq cur ∧ cur.size ≤ 140737488351232 ∧ aC ((pieces s).all yR = (pieces cur).all yR)) (fun _ wr => ll wr Bs)
 case atStart => exact ⟨s, h0, hs, hsz, ⟨rfl⟩⟩
 case round =>
  obtain ⟨cur, Rc, hS, hsz', HA⟩ := hrel
  have HL := aC.mk (Er hS)
  have hc1 : wr.cell? ⟨Bp, 0, none⟩ = some (.string ⟨#[47]⟩) := aM hS.1 0
  have hc2 : wr.cell? ⟨Bs, 0, none⟩ = some (.string cur) := aM hS.2.1 0
  have hc3 : wr.cell? ⟨Bq, 0, none⟩ = some (.int .i64 0) := aM hS.2.2 0
  have HS := aC.mk hS
  have HJ := aC.mk Rc
  have Qk := aC.mk hY
  have HJj := aC.mk hJ
  clear hS Rc hY hJ
  by_cases hneg : lI cur < 0
  · obtain ⟨i, hi⟩ : ∃ i, lI cur = i := ⟨_, rfl⟩
    have hi0 : decide (i < 0) = true := by rw [← hi]; exact dT hneg
    have HP := aC.mk (_R hneg)
    have HI := aC.mk hi
    obtain ⟨fn, tmps, assign, body, hy, hR⟩ := Qk.out cur hsz' wr HJ.out
    clear hneg hi
    gi_wp2_with (refine ⟨trivial, ?_⟩; gi_at_call 107; refine (callsIn_wide.2 (Kn cur i HI.out _)).mono ?_; rintro e w' ⟨rfl, rfl⟩)
    refine hR.mono ?_
    have hp : (pieces s).all yR = yR cur := by rw [HA.out, HP.out]; simp
    rintro e W3 (⟨hx, rfl, hJ3, hk3⟩ | ⟨hx, rfl, hJx3⟩)
    · gi_wp2
      refine bodyPost_end (results_none rfl _ _ _) rfl ?_
      exact ⟨⟨_, rfl⟩, .inl ⟨hp.trans hx, hJ3⟩⟩
    · gi_wp2
      refine bodyPost_end (results_none rfl _ _ _) rfl ?_
      exact ⟨⟨_, rfl⟩, .inr ⟨hp.trans hx, hJx3⟩⟩
  · have hlt := LA cur
    obtain ⟨q, hq⟩ : ∃ q : Nat, lI cur = q := ⟨(lI cur).toNat, by omega⟩
    have aFi : q < cur.size := by omega
    have hq1 : q + 1 ≤ cur.size := aFi
    have hi0 : decide ((q : Int) < 0) = false := dF (by omega)
    have HP := aC.mk (_1 (s := cur) (by omega))
    have HI := aC.mk hq
    obtain ⟨fn, tmps, assign, body, hy, hR⟩ := Qk.out (cur.extract 0 q) (by rw [ByteArray.size_extract]; omega) wr HJ.out
    clear hneg hq hlt
    gi_wp2_with (refine ⟨trivial, ?_⟩; gi_at_call 107; refine (callsIn_wide.2 (Kn cur q HI.out _)).mono ?_; rintro e w' ⟨rfl, rfl⟩)
    refine hR.mono ?_
    have hp : (pieces s).all yR = (yR (cur.extract 0 q) && (pieces (cur.extract (q + 1) cur.size)).all yR) := by
     rw [HA.out, HP.out, HI.out]; rfl
    rintro e W3 (⟨hx, rfl, hJ3, hk3⟩ | ⟨hx, rfl, hJx3⟩)
    · have R5 := hk3 cur HS.out
      have hc1 : W3.cell? ⟨Bp, 0, none⟩ = some (.string ⟨#[47]⟩) := aM R5.1 0
      have hc2 : W3.cell? ⟨Bs, 0, none⟩ = some (.string cur) := aM R5.2.1 0
      have hf2 : W3.frozen? ⟨Bs, 0, none⟩ = false := eZ R5.2.1 0
      have HS3 := aC.mk R5
      have KI := aC.mk hJ3
      have VS := aC.mk hp
      have HX := aC.mk hx
      have HN := aC.mk (Xh (t := cur.extract (q + 1) cur.size) R5 hps hqs)
      clear R5 hJ3 hp hx hk3
      gi_wp2
      go_roundw
      case rel => exact ⟨cur.extract (q + 1) cur.size, HJj.out _ _ KI.out, HN.out, by rw [ByteArray.size_extract]; omega, ⟨by rw [VS.out, HX.out]; rfl⟩⟩
      case measure => rw [Er HN.out, HL.out, ByteArray.size_extract]; omega
    · gi_wp2
      refine bodyPost_ret (results_none rfl _ _ _) rfl ?_
      exact ⟨⟨_, rfl⟩, .inr ⟨by rw [hp, hx]; rfl, hJx3⟩⟩
end
end Go.Proofs.YtgmggompdidcoaaGreatDoor.X
