import Derived.Test.YtdemgfbolcmcdaaProg
import Derived.Below
import Derived.Deep.Draws
import Derived.Deep.AppendLies
import Derived.Maps.AppendAt
import Derived.OwnWalk
import Derived.Laws.BytesArg
import Derived.Laws.MakeOwn
import Derived.Laws.OwnMore
import Derived.Deep.OwnRows
import Derived.Tactics
import Derived.Lib.ConvBytes
import Derived.Laws.Slices
import Derived.WalkKit
import Derived.KernelRfl
import Derived.RowKit3
import Derived.Deep.LoopGhost
import Derived.Deep.QuietTactic
import Derived.BigQuiet
import Derived.WideLaws
import Derived.Deep.DeepCutAuto
import Derived.Deep.CutBlock
import Derived.Deep.RegionHeld3
import Derived.Laws.Rows
import Derived.Lib.AppendStr
import Derived.ArgAppend
import Derived.Laws.IdiomCopy
import Derived.OrdersHeld
import Derived.Laws.BitsLemmas
import Derived.RowKit
import Derived.Test.YtdemgfbolcmcdaaMOpsAll0
import Derived.Test.YtdemgfbolcmcdaaMOpsAll1
import Derived.Test.YtdemgfbolcmcdaaMOpsAll2
import Derived.WalkLawsBesides
import Derived.MapKept
import Derived.Laws.FloatBits
namespace Go.Proofs.Ytdemgfbolcmcdaa.X
open Go.RowKit Go.Proofs.YtdemgfbolcmcdaaW.PrintWords Go.Proofs.YtdemgfbolcmcdaaW.PrintLast Go.Proofs.YtdemgfbolcmcdaaW.PrintMore
attribute [local go_sem] max2_int min2_int max_two min_two max_three min_three max_four min_four
set_option linter.unusedVariables false
set_option linter.unusedSimpArgs false
def errW : Option Int → Value
  | none => .nilIface
  | some c => .iface 0 (.int .i64 c)
theorem errW_none : errW none = .nilIface := rfl
theorem errW_some (c : Int) : errW (some c) = .iface 0 (.int .i64 c) := rfl
theorem info2 : (Try.prog.info? 2).map (fun i => (i.zero, i.size, i.bytes)) = some (some (.int .i64 0), 1, 8) := by kernel_rfl
theorem info90 : (Try.prog.info? 90).map (fun i => (i.zero, i.size, i.bytes)) = some (some (.agg #[(.string ⟨#[]⟩), (.bool false), (.bool false)]), 3, 24) := by kernel_rfl
def rd_L2 (xs : List (List Int)) (i : Int) : (List Int) := xs.getD i.toNat ([] : List Int)
theorem at_L2 {w : World} {A : Option Addr} {n : Nat} {xs : List (List Int)} (h : Kd.C (Kd.slice 2 (Kd.int .i64)) w A n xs) (i : Int) (h0 : 0 ≤ i) (h1 : i < n) : ∃ ad A0 c0, A = some ad ∧ w.cell? (ad.add i.toNat) = some (.slice A0 (rd_L2 xs i).length c0) ∧ (rd_L2 xs i).length ≤ c0 ∧ (Kd.int .i64).C w A0 (rd_L2 xs i).length (rd_L2 xs i) := by
  obtain ⟨ad, c, e, _, hK, hc0⟩ := Kd.C_get h ([] : List Int) i h0 h1
  have hc : ∀ j u, c[j]? = some u → w.cell? (ad.add (i.toNat * 1 + j)) = some u := hc0
  obtain ⟨A0, c0, rfl, l0, g0⟩ := hK
  exact ⟨ad, A0, c0, e, by have hq := hc 0 _ rfl; rwa [Nat.mul_one, Nat.add_zero] at hq, l0, g0⟩
structure S79 where
  f0 : ByteArray
  f1 : Int
  f2 : (List Int)
structure S51 where
  f0 : ByteArray
  f1 : Int
  f2 : (List Int)
  f3 : ByteArray
structure S35 where
  f0 : ByteArray
  f1 : Bool
  f2 : Int
  f3 : (List Int)
def z35 : S35 := ⟨(⟨#[]⟩ : ByteArray), false, (0 : Int), ([] : List Int)⟩
def k35 : Kd S35 := Kd.iso (Kd.pair Kd.string (Kd.pair Kd.bool (Kd.pair (Kd.int .i64) (Kd.slice 2 (Kd.int .i64))))) (fun x : S35 => (x.f0, x.f1, x.f2, x.f3))
theorem k35_open {w : World} {x : S35} {cs : List Value} (h : k35.K w x cs) : ∃ A3 c3, cs = [.string x.f0, .bool x.f1, .int .i64 x.f2, .slice A3 x.f3.length c3] ∧ x.f3.length ≤ c3 ∧ (Kd.int .i64).C w A3 x.f3.length x.f3 := by
  obtain ⟨_, _, rfl, rfl, ⟨_, _, rfl, rfl, ⟨_, _, rfl, rfl, ⟨A3, c3, rfl, l3, g3⟩⟩⟩⟩ := h
  exact ⟨A3, c3, rfl, l3, g3⟩
theorem k35_mk (w : World) (x : S35) {A3 : Option Addr} {c3 : Nat} (l3 : x.f3.length ≤ c3) (g3 : (Kd.int .i64).C w A3 x.f3.length x.f3) : k35.K w x [.string x.f0, .bool x.f1, .int .i64 x.f2, .slice A3 x.f3.length c3] := ⟨[.string x.f0], [.bool x.f1, .int .i64 x.f2, .slice A3 x.f3.length c3], rfl, rfl, ⟨[.bool x.f1], [.int .i64 x.f2, .slice A3 x.f3.length c3], rfl, rfl, ⟨[.int .i64 x.f2], [.slice A3 x.f3.length c3], rfl, rfl, ⟨A3, c3, rfl, l3, g3⟩⟩⟩⟩
theorem k35_mkF (W : World) (ok : Nat → Prop) (x : S35) {A3 : Option Addr} {c3 : Nat} (l3 : x.f3.length ≤ c3) (g3 : Kd.F (Kd.int .i64) W ok A3 x.f3.length x.f3) : Kd.FK k35 W ok x [.string x.f0, .bool x.f1, .int .i64 x.f2, .slice A3 x.f3.length c3] := fun W2 hW => k35_mk W2 x l3 (g3 W2 hW)
def rd_T35 (xs : List S35) (i : Int) : S35 := xs.getD i.toNat z35
theorem at_T35 {w : World} {A : Option Addr} {n : Nat} {xs : List S35} (h : Kd.C k35 w A n xs) (i : Int) (h0 : 0 ≤ i) (h1 : i < n) : ∃ ad A3 c3, A = some ad ∧ w.cell? (ad.add (i.toNat * 4)) = some (.string (rd_T35 xs i).f0) ∧ w.cell? ⟨(ad.add (i.toNat * 4)).block, (ad.add (i.toNat * 4)).off + 1, none⟩ = some (.bool (rd_T35 xs i).f1) ∧ w.cell? ⟨(ad.add (i.toNat * 4)).block, (ad.add (i.toNat * 4)).off + 2, none⟩ = some (.int .i64 (rd_T35 xs i).f2) ∧ w.cell? ⟨(ad.add (i.toNat * 4)).block, (ad.add (i.toNat * 4)).off + 3, none⟩ = some (.slice A3 (rd_T35 xs i).f3.length c3) ∧ (rd_T35 xs i).f3.length ≤ c3 ∧ (Kd.int .i64).C w A3 (rd_T35 xs i).f3.length (rd_T35 xs i).f3 := by
  obtain ⟨ad, c, e, _, hK, hc0⟩ := Kd.C_get h z35 i h0 h1
  have hc : ∀ j u, c[j]? = some u → w.cell? (ad.add (i.toNat * 4 + j)) = some u := hc0
  obtain ⟨A3, c3, rfl, l3, g3⟩ := k35_open hK
  exact ⟨ad, A3, c3, e, hc 0 _ rfl, by rw [← add_field _ _ 1 (by omega)]; exact hc 1 _ rfl, by rw [← add_field _ _ 2 (by omega)]; exact hc 2 _ rfl, by rw [← add_field _ _ 3 (by omega)]; exact hc 3 _ rfl, l3, g3⟩
structure S33 where
  f0 : ByteArray
  f1 : (List ByteArray)
  f2 : ByteArray
  f3 : (List S35)
structure S47 where
  f0 : ByteArray
  f1 : Bool
  f2 : Int
  f3 : (List Int)
structure S130 where
  f0 : ByteArray
  f1 : Int
  f2 : (List Int)
structure S63 where
  f0 : ByteArray
  f1 : Int
  f2 : (List Int)
  f3 : ByteArray
structure S91 where
  f0 : ByteArray
  f1 : Bool
  f2 : Bool
def k91 : Kd S91 := Kd.iso (Kd.pair Kd.string (Kd.pair Kd.bool Kd.bool)) (fun x : S91 => (x.f0, x.f1, x.f2))
theorem k91_mkM (w : World) (base : Nat) (ok : Nat → Prop) (x : S91)  : k91.M w base ok x [.string x.f0, .bool x.f1, .bool x.f2] := ⟨[.string x.f0], [.bool x.f1, .bool x.f2], rfl, rfl, ⟨[.bool x.f1], [.bool x.f2], rfl, rfl, rfl⟩⟩
structure S72 where
  f0 : ByteArray
  f1 : Int
  f2 : Int
  f3 : Int
  f4 : Int
  f5 : (List S91)
def z72 : S72 := ⟨(⟨#[]⟩ : ByteArray), (0 : Int), (0 : Int), (0 : Int), (0 : Int), ([] : List S91)⟩
def k72 : Kd S72 := Kd.iso (Kd.pair Kd.string (Kd.pair (Kd.int .i64) (Kd.pair (Kd.int .i64) (Kd.pair (Kd.int .i64) (Kd.pair (Kd.int .i64) (Kd.slice 91 k91)))))) (fun x : S72 => (x.f0, x.f1, x.f2, x.f3, x.f4, x.f5))
theorem k72_open {w : World} {x : S72} {cs : List Value} (h : k72.K w x cs) : ∃ A5 c5, cs = [.string x.f0, .int .i64 x.f1, .int .i64 x.f2, .int .i64 x.f3, .int .i64 x.f4, .slice A5 x.f5.length c5] ∧ x.f5.length ≤ c5 ∧ k91.C w A5 x.f5.length x.f5 := by
  obtain ⟨_, _, rfl, rfl, ⟨_, _, rfl, rfl, ⟨_, _, rfl, rfl, ⟨_, _, rfl, rfl, ⟨_, _, rfl, rfl, ⟨A5, c5, rfl, l5, g5⟩⟩⟩⟩⟩⟩ := h
  exact ⟨A5, c5, rfl, l5, g5⟩
theorem k72_mk (w : World) (x : S72) {A5 : Option Addr} {c5 : Nat} (l5 : x.f5.length ≤ c5) (g5 : k91.C w A5 x.f5.length x.f5) : k72.K w x [.string x.f0, .int .i64 x.f1, .int .i64 x.f2, .int .i64 x.f3, .int .i64 x.f4, .slice A5 x.f5.length c5] := ⟨[.string x.f0], [.int .i64 x.f1, .int .i64 x.f2, .int .i64 x.f3, .int .i64 x.f4, .slice A5 x.f5.length c5], rfl, rfl, ⟨[.int .i64 x.f1], [.int .i64 x.f2, .int .i64 x.f3, .int .i64 x.f4, .slice A5 x.f5.length c5], rfl, rfl, ⟨[.int .i64 x.f2], [.int .i64 x.f3, .int .i64 x.f4, .slice A5 x.f5.length c5], rfl, rfl, ⟨[.int .i64 x.f3], [.int .i64 x.f4, .slice A5 x.f5.length c5], rfl, rfl, ⟨[.int .i64 x.f4], [.slice A5 x.f5.length c5], rfl, rfl, ⟨A5, c5, rfl, l5, g5⟩⟩⟩⟩⟩⟩
theorem k72_openF {W : World} {ok : Nat → Prop} {x : S72} {cs : List Value} (h : Kd.FK k72 W ok x cs) : ∃ A5 c5, cs = [.string x.f0, .int .i64 x.f1, .int .i64 x.f2, .int .i64 x.f3, .int .i64 x.f4, .slice A5 x.f5.length c5] ∧ x.f5.length ≤ c5 ∧ Kd.F k91 W ok A5 x.f5.length x.f5 := by
  obtain ⟨A5, c5, rfl, l5, _⟩ := k72_open (Kd.FK_now h)
  exact ⟨A5, c5, rfl, l5, (fun W' hW => by obtain ⟨A5_, c5_, he, l5_, g5_⟩ := k72_open (h W' hW); injection (Option.some.inj (show some (Value.slice A5 x.f5.length c5) = some (Value.slice A5_ x.f5.length c5_) from congrArg (fun l => l[5]?) he)) with ha_ _ _; rw [ha_]; exact g5_)⟩
theorem k72_mkF (W : World) (ok : Nat → Prop) (x : S72) {A5 : Option Addr} {c5 : Nat} (l5 : x.f5.length ≤ c5) (g5 : Kd.F k91 W ok A5 x.f5.length x.f5) : Kd.FK k72 W ok x [.string x.f0, .int .i64 x.f1, .int .i64 x.f2, .int .i64 x.f3, .int .i64 x.f4, .slice A5 x.f5.length c5] := fun W2 hW => k72_mk W2 x l5 (g5 W2 hW)
def rd_T72 (xs : List S72) (i : Int) : S72 := xs.getD i.toNat z72
theorem at_T72 {w : World} {A : Option Addr} {n : Nat} {xs : List S72} (h : Kd.C k72 w A n xs) (i : Int) (h0 : 0 ≤ i) (h1 : i < n) : ∃ ad A5 c5, A = some ad ∧ w.cell? (ad.add (i.toNat * 6)) = some (.string (rd_T72 xs i).f0) ∧ w.cell? ⟨(ad.add (i.toNat * 6)).block, (ad.add (i.toNat * 6)).off + 1, none⟩ = some (.int .i64 (rd_T72 xs i).f1) ∧ w.cell? ⟨(ad.add (i.toNat * 6)).block, (ad.add (i.toNat * 6)).off + 2, none⟩ = some (.int .i64 (rd_T72 xs i).f2) ∧ w.cell? ⟨(ad.add (i.toNat * 6)).block, (ad.add (i.toNat * 6)).off + 3, none⟩ = some (.int .i64 (rd_T72 xs i).f3) ∧ w.cell? ⟨(ad.add (i.toNat * 6)).block, (ad.add (i.toNat * 6)).off + 4, none⟩ = some (.int .i64 (rd_T72 xs i).f4) ∧ w.cell? ⟨(ad.add (i.toNat * 6)).block, (ad.add (i.toNat * 6)).off + 5, none⟩ = some (.slice A5 (rd_T72 xs i).f5.length c5) ∧ (rd_T72 xs i).f5.length ≤ c5 ∧ k91.C w A5 (rd_T72 xs i).f5.length (rd_T72 xs i).f5 := by
  obtain ⟨ad, c, e, _, hK, hc0⟩ := Kd.C_get h z72 i h0 h1
  have hc : ∀ j u, c[j]? = some u → w.cell? (ad.add (i.toNat * 6 + j)) = some u := hc0
  obtain ⟨A5, c5, rfl, l5, g5⟩ := k72_open hK
  exact ⟨ad, A5, c5, e, hc 0 _ rfl, by rw [← add_field _ _ 1 (by omega)]; exact hc 1 _ rfl, by rw [← add_field _ _ 2 (by omega)]; exact hc 2 _ rfl, by rw [← add_field _ _ 3 (by omega)]; exact hc 3 _ rfl, by rw [← add_field _ _ 4 (by omega)]; exact hc 4 _ rfl, by rw [← add_field _ _ 5 (by omega)]; exact hc 5 _ rfl, l5, g5⟩
structure S90 where
  f0 : ByteArray
  f1 : Bool
  f2 : Bool
def z90 : S90 := ⟨(⟨#[]⟩ : ByteArray), false, false⟩
def k90 : Kd S90 := Kd.iso (Kd.pair Kd.string (Kd.pair Kd.bool Kd.bool)) (fun x : S90 => (x.f0, x.f1, x.f2))
theorem k90_open {w : World} {x : S90} {cs : List Value} (h : k90.K w x cs) : cs = [.string x.f0, .bool x.f1, .bool x.f2] := by
  obtain ⟨_, _, rfl, rfl, ⟨_, _, rfl, rfl, rfl⟩⟩ := h
  exact rfl
theorem k90_mkM (w : World) (base : Nat) (ok : Nat → Prop) (x : S90)  : k90.M w base ok x [.string x.f0, .bool x.f1, .bool x.f2] := ⟨[.string x.f0], [.bool x.f1, .bool x.f2], rfl, rfl, ⟨[.bool x.f1], [.bool x.f2], rfl, rfl, rfl⟩⟩
def rd_T90 (xs : List S90) (i : Int) : S90 := xs.getD i.toNat z90
theorem at_T90 {w : World} {A : Option Addr} {n : Nat} {xs : List S90} (h : Kd.C k90 w A n xs) (i : Int) (h0 : 0 ≤ i) (h1 : i < n) : ∃ ad , A = some ad ∧ w.cell? (ad.add (i.toNat * 3)) = some (.string (rd_T90 xs i).f0) ∧ w.cell? ⟨(ad.add (i.toNat * 3)).block, (ad.add (i.toNat * 3)).off + 1, none⟩ = some (.bool (rd_T90 xs i).f1) ∧ w.cell? ⟨(ad.add (i.toNat * 3)).block, (ad.add (i.toNat * 3)).off + 2, none⟩ = some (.bool (rd_T90 xs i).f2) := by
  obtain ⟨ad, c, e, _, hK, hc0⟩ := Kd.C_get h z90 i h0 h1
  have hc : ∀ j u, c[j]? = some u → w.cell? (ad.add (i.toNat * 3 + j)) = some u := hc0
  obtain rfl := k90_open hK
  exact ⟨ad, e, hc 0 _ rfl, by rw [← add_field _ _ 1 (by omega)]; exact hc 1 _ rfl, by rw [← add_field _ _ 2 (by omega)]; exact hc 2 _ rfl⟩
structure S41 where
  f0 : ByteArray
  f1 : (List ByteArray)
  f2 : ByteArray
  f3 : (List S47)
structure S7 where
  f0 : Int
  f1 : Int
  f2 : Bool
  f3 : Int
structure S8 where
  f0 : Int
  f1 : Int
  f2 : Bool
  f3 : Int
structure S13 where
  f0 : ByteArray
  f1 : Int
structure S14 where
  f0 : ByteArray
  f1 : Int
structure S25 where
  f0 : Int
  f1 : (List S79)
  f2 : (List S79)
  f3 : (List S51)
  f4 : (List S33)
structure S26 where
  f0 : Int
  f1 : (List S79)
  f2 : (List S79)
  f3 : (List S51)
  f4 : (List S33)
structure S32 where
  f0 : ByteArray
  f1 : (List ByteArray)
  f2 : ByteArray
  f3 : (List S35)
structure S34 where
  f0 : ByteArray
  f1 : Bool
  f2 : Int
  f3 : (List Int)
structure S40 where
  f0 : ByteArray
  f1 : (List ByteArray)
  f2 : ByteArray
  f3 : (List S47)
structure S50 where
  f0 : ByteArray
  f1 : Int
  f2 : (List Int)
  f3 : ByteArray
structure S57 where
  f0 : Int
  f1 : (List S130)
  f2 : (List S130)
  f3 : (List S63)
  f4 : (List S41)
structure S58 where
  f0 : Int
  f1 : (List S130)
  f2 : (List S130)
  f3 : (List S63)
  f4 : (List S41)
structure S62 where
  f0 : ByteArray
  f1 : Int
  f2 : (List Int)
  f3 : ByteArray
structure S71 where
  f0 : ByteArray
  f1 : Int
  f2 : Int
  f3 : Int
  f4 : Int
  f5 : (List S91)
structure S78 where
  f0 : ByteArray
  f1 : Int
  f2 : (List Int)
structure S85 where
  f0 : Int
  f1 : Int
  f2 : (List S90)
structure S86 where
  f0 : Int
  f1 : Int
  f2 : (List S90)
structure S89 where
  f0 : ByteArray
  f1 : Bool
  f2 : Bool
structure S129 where
  f0 : ByteArray
  f1 : Int
  f2 : (List Int)
structure S158 where
  f0 : Int
  f1 : ByteArray
structure S159 where
  f0 : Int
  f1 : ByteArray
end Go.Proofs.Ytdemgfbolcmcdaa.X
namespace Go.Proofs.Ytdemgfbolcmcdaa.X
open Go.RowKit Go.Proofs.YtdemgfbolcmcdaaW.PrintWords Go.Proofs.YtdemgfbolcmcdaaW.PrintLast Go.Proofs.YtdemgfbolcmcdaaW.PrintMore
attribute [local go_sem] max2_int min2_int max_two min_two max_three min_three max_four min_four
set_option linter.unusedVariables false
set_option linter.unusedSimpArgs false
def kEntry (k sz : Int) (s : ByteArray) (n : Nat) : MapEntry := { key := .int .i64 k, val := .agg #[.int .i64 sz, .string s], born := n }
def known5 : Array MapEntry := #[kEntry 1 4 ⟨#[102, 108, 111, 97, 116]⟩ 0, kEntry 2 1 ⟨#[98, 121, 116, 101]⟩ 1, kEntry 7 8 ⟨#[105, 110, 116]⟩ 2, kEntry 9 1 ⟨#[102, 108, 97, 103]⟩ 3, kEntry 14 8 ⟨#[103, 97, 117, 115, 115]⟩ 4]
theorem below_setObj {w W : World} {r : Nat} {o : Obj} (h : Below w.heap.size w W) (hr : w.heap.size ≤ r) : Below w.heap.size w { W with heap := W.heap.setIfInBounds r o } :=
  ⟨h.os, h.tape, h.output, by show _ ≤ (W.heap.setIfInBounds r o).size; rw [Array.size_setIfInBounds]; exact h.size, fun i hi => by
    show (W.heap.setIfInBounds r o)[i]? = _
    rw [Array.getElem?_setIfInBounds_ne (by omega)]; exact h.block i hi⟩
theorem insert_run {w W : World} {r : Nat} {es : Array MapEntry} {clock : Nat} (k : Int) (v : Value) (hb : W.heap[r]? = some (.map es clock)) (hf : Instr.findNow (.int .i64) (.int .i64 k) es.toList 0 = some none) (hr : w.heap.size ≤ r) (hB : Below w.heap.size w W) :
    ∃ W2, (Instr.mapUpdate 160 (.map (some r)) (.int .i64 k) v).run Try.prog W = .ok () W2 ∧ W2.heap[r]? = some (.map (es.push { key := .int .i64 k, val := v, born := clock }) (clock + 1)) ∧ Below w.heap.size w W2 := by
  have hk : MapKept.IsKey (.int .i64) (.int .i64 k) := by simp [MapKept.IsKey]
  have hd : Try.prog.underlying 49 = some (.int .i64) := Try.underlying49
  refine ⟨_, ?_, (MapKept.heap_set hb).1, below_setObj hB hr⟩
  simp [Instr.mapUpdate, run_underlying Try.underlying160, MapKept.run_getObj_map hb, MapKept.run_checkKey hd hk, MapKept.run_findKey hd hf, MapKept.run_setObj_map _ hb, Result.andThen]
set_option maxHeartbeats 4000000 in
theorem kind_known.calls (w : World) :
    Calls Try.prog 87 #[] w fun e w' => ∃ r, e = .returned (.map (some r)) ∧ w'.heap[r]? = some (.map known5 5) ∧ Below w.heap.size w w' := by
  obtain ⟨r, hr0⟩ : ∃ r, r = w.heap.size := ⟨_, rfl⟩
  have hr : w.heap.size ≤ r := by omega
  have b0 : Below w.heap.size w (w.alloc (.map #[] 0)) := below_alloc (Below.refl _ _) _
  have h0 : (w.alloc (.map #[] 0)).heap[r]? = some (.map #[] 0) := by rw [hr0]; exact blk_new w _
  have f0 : (Instr.makeMap 160 none).run Try.prog w = .ok (.map (some r)) (w.alloc (.map #[] 0)) := by rw [hr0]; rfl
  generalize w.alloc (.map #[] 0) = W0 at b0 h0 f0
  obtain ⟨W1, f1, h1, b1⟩ := insert_run (w := w) 1 (.agg #[.int .i64 4, .string ⟨#[102, 108, 111, 97, 116]⟩]) h0 rfl hr b0
  obtain ⟨W2, f2, h2, b2⟩ := insert_run (w := w) 2 (.agg #[.int .i64 1, .string ⟨#[98, 121, 116, 101]⟩]) h1 rfl hr b1
  obtain ⟨W3, f3, h3, b3⟩ := insert_run (w := w) 7 (.agg #[.int .i64 8, .string ⟨#[105, 110, 116]⟩]) h2 rfl hr b2
  obtain ⟨W4, f4, h4, b4⟩ := insert_run (w := w) 9 (.agg #[.int .i64 1, .string ⟨#[102, 108, 97, 103]⟩]) h3 rfl hr b3
  obtain ⟨W5, f5, h5, b5⟩ := insert_run (w := w) 14 (.agg #[.int .i64 8, .string ⟨#[103, 97, 117, 115, 115]⟩]) h4 rfl hr b4
  have H5 := Aside0.mk (show W5.heap[r]? = some (.map known5 5) from h5)
  have B5 := Aside0.mk b5
  clear h0 h1 h2 h3 h4 h5 b0 b1 b2 b3 b4 b5 hr hr0
  go_enter Try.func87, Try.ntmps87
  go_wp2
  go_ret
  exact ⟨r, rfl, H5.out, B5.out⟩
def sizeK (k : Int) : Int := if k = 1 then 4 else if k = 2 then 1 else if k = 7 then 8 else if k = 9 then 1 else if k = 14 then 8 else 0
def wordK (k : Int) : ByteArray := if k = 1 then ⟨#[102, 108, 111, 97, 116]⟩ else if k = 2 then ⟨#[98, 121, 116, 101]⟩ else if k = 7 then ⟨#[105, 110, 116]⟩ else if k = 9 then ⟨#[102, 108, 97, 103]⟩ else if k = 14 then ⟨#[103, 97, 117, 115, 115]⟩ else ⟨#[]⟩
def isK (k : Int) : Bool := decide (k = 1) || (decide (k = 2) || (decide (k = 7) || (decide (k = 9) || decide (k = 14))))
theorem find_known (k : Int) : ∃ o, Instr.findNow (.int .i64) (.int .i64 k) known5.toList 0 = some o ∧ o.map (·.2) = (if isK k = true then some (.agg #[.int .i64 (sizeK k), .string (wordK k)]) else none) := by
  have hs : ∀ a : Int, Instr.sameNow (.int .i64) (.int .i64 k) (.int .i64 a) = some (k == a) := fun a => by simp [Instr.sameNow]
  have hl : known5.toList = [kEntry 1 4 ⟨#[102, 108, 111, 97, 116]⟩ 0, kEntry 2 1 ⟨#[98, 121, 116, 101]⟩ 1, kEntry 7 8 ⟨#[105, 110, 116]⟩ 2, kEntry 9 1 ⟨#[102, 108, 97, 103]⟩ 3, kEntry 14 8 ⟨#[103, 97, 117, 115, 115]⟩ 4] := rfl
  rw [hl]
  simp only [Instr.findNow, kEntry, hs]
  by_cases h1 : k = 1
  · subst h1; exact ⟨_, rfl, rfl⟩
  by_cases h2 : k = 2
  · subst h2; exact ⟨_, rfl, rfl⟩
  by_cases h3 : k = 7
  · subst h3; exact ⟨_, rfl, rfl⟩
  by_cases h4 : k = 9
  · subst h4; exact ⟨_, rfl, rfl⟩
  by_cases h5 : k = 14
  · subst h5; exact ⟨_, rfl, rfl⟩
  rw [beq_eq_false_iff_ne.2 h1, beq_eq_false_iff_ne.2 h2, beq_eq_false_iff_ne.2 h3, beq_eq_false_iff_ne.2 h4, beq_eq_false_iff_ne.2 h5]
  refine ⟨none, rfl, ?_⟩
  unfold isK
  rw [decide_eq_false h1, decide_eq_false h2, decide_eq_false h3, decide_eq_false h4, decide_eq_false h5]
  rfl
theorem sizeK_no (k : Int) (h : isK k = false) : sizeK k = 0 ∧ wordK k = ⟨#[]⟩ := by
  unfold isK at h
  simp only [Bool.or_eq_false_iff, decide_eq_false_iff_not] at h
  unfold sizeK wordK
  rw [if_neg h.1, if_neg h.2.1, if_neg h.2.2.1, if_neg h.2.2.2.1, if_neg h.2.2.2.2, if_neg h.1, if_neg h.2.1, if_neg h.2.2.1, if_neg h.2.2.2.1, if_neg h.2.2.2.2]
  exact ⟨rfl, rfl⟩
theorem lookup_run {W : World} {r : Nat} (hb : W.heap[r]? = some (.map known5 5)) (k : Int) (c : Bool) : (Instr.lookup 160 (.map (some r)) (.int .i64 k) c).run Try.prog W = .ok (if c then .tuple #[.agg #[.int .i64 (sizeK k), .string (wordK k)], .bool (isK k)] else .agg #[.int .i64 (sizeK k), .string (wordK k)]) W := by
  have hk : MapKept.IsKey (.int .i64) (.int .i64 k) := by simp [MapKept.IsKey]
  have hd : Try.prog.underlying 49 = some (.int .i64) := Try.underlying49
  obtain ⟨o, ho, hm⟩ := find_known k
  cases hi : isK k with
  | true =>
    rw [if_pos hi] at hm
    obtain ⟨⟨i, v⟩, rfl, hv⟩ := Option.map_eq_some_iff.1 hm
    dsimp only at hv
    subst hv
    simp [Instr.lookup, run_underlying Try.underlying160, MapKept.run_getObj_map hb, MapKept.run_checkKey hd hk, MapKept.run_findKey hd ho, Result.andThen]
  | false =>
    rw [if_neg (by rw [hi]; simp)] at hm
    obtain rfl : o = none := by cases o with | none => rfl | some x => cases hm
    obtain ⟨s1, s2⟩ := sizeK_no k hi
    rw [s1, s2]
    simp [Instr.lookup, run_underlying Try.underlying160, MapKept.run_getObj_map hb, MapKept.run_checkKey hd hk, MapKept.run_findKey hd ho, Result.andThen, Try.zeroValue159]
set_option maxRecDepth 100000 in
theorem kind_Size.calls (k : Int) (w : World) :
    Calls Try.prog 76 #[.int .i64 k] w fun e w' => e = .returned (.int .i64 (sizeK k)) ∧ Below w.heap.size w w' := by
  have hf : ∀ w, (Instr.field 159 (.agg #[.int .i64 (sizeK k), .string (wordK k)]) 0).run Try.prog w = .ok (.int .i64 (sizeK k)) w := fun w => by
    simp [Instr.field, run_underlying Try.underlying159, asAgg, part, Try.isAgg3, Result.andThen]
  go_enter Try.func76, Try.ntmps76
  go_wp2_with (first | (fail))
  refine (kind_known.calls _).mono ?_
  rintro e w1 ⟨r, rfl, h, hb⟩
  have HB := Aside0.mk hb
  have hl : (Instr.lookup 160 (.map (some r)) (.int .i64 k) false).run Try.prog w1 = .ok (.agg #[.int .i64 (sizeK k), .string (wordK k)]) w1 := lookup_run h k false
  clear hb h
  go_wp2_with (first | (fail))
  go_ret
  exact ⟨rfl, HB.out⟩
set_option maxRecDepth 100000 in
theorem kind_String.calls (k : Int) (hk : isK k = true) (w : World) :
    Calls Try.prog 77 #[.int .i64 k] w fun e w' => e = .returned (.string (wordK k)) ∧ Below w.heap.size w w' := by
  go_enter Try.func77, Try.ntmps77
  go_wp2_with (first | (fail))
  refine (kind_known.calls _).mono ?_
  rintro e w1 ⟨r, rfl, h, hb⟩
  have HB := Aside0.mk hb
  have hl : (Instr.lookup 160 (.map (some r)) (.int .i64 k) true).run Try.prog w1 = .ok (.tuple #[.agg #[.int .i64 (sizeK k), .string (wordK k)], .bool (isK k)]) w1 := lookup_run h k true
  rw [hk] at hl
  clear hb h
  go_wp2_with (first | (fail))
  go_ret
  exact ⟨rfl, below_alloc HB.out _⟩
end Go.Proofs.Ytdemgfbolcmcdaa.X
namespace Go.Proofs.Ytdemgfbolcmcdaa.X
open Go.RowKit Go.Proofs.YtdemgfbolcmcdaaW.PrintWords Go.Proofs.YtdemgfbolcmcdaaW.PrintLast Go.Proofs.YtdemgfbolcmcdaaW.PrintMore
attribute [local go_sem] max2_int min2_int max_two min_two max_three min_three max_four min_four
set_option linter.unusedVariables false
set_option linter.unusedSimpArgs false
def agatelaw04_Awake.f : Option Bool := some true
theorem awake04_size : sizeK 14 = 8 := by decide
theorem awake04_word : wordK 7 = ⟨#[105, 110, 116]⟩ := by rfl
theorem agatelaw04_Awake.calls (r : Bool) (w : World) (h : agatelaw04_Awake.f = some r) :
    Calls Try.prog 68 #[] w fun e w' => e = .returned (.bool r) ∧ Below w.heap.size w w' := by
  obtain rfl := Option.some.inj h
  go_enter Try.func68, Try.ntmps68
  go_wp2_with (first | (fail))
  refine (kind_Size.calls 14 _).mono ?_
  rintro e w1 ⟨rfl, hb⟩
  rw [awake04_size]
  have HB := Aside0.mk hb
  clear hb
  go_wp2_with (first | (fail))
  refine (kind_String.calls 7 rfl _).mono ?_
  rintro e w2 ⟨rfl, hb⟩
  rw [awake04_word]
  have n0_ := Aside0.mk (below_step HB.out hb)
  clear HB hb
  have HB := n0_
  go_wp2_with (first | (fail))
  go_ret
  exact ⟨rfl, HB.out⟩
end Go.Proofs.Ytdemgfbolcmcdaa.X
namespace Go.Proofs.Ytdemgfbolcmcdaa.X
open Go.RowKit Go.Proofs.YtdemgfbolcmcdaaW.PrintWords Go.Proofs.YtdemgfbolcmcdaaW.PrintLast Go.Proofs.YtdemgfbolcmcdaaW.PrintMore
attribute [local go_sem] max2_int min2_int max_two min_two max_three min_three max_four min_four
set_option linter.unusedVariables false
set_option linter.unusedSimpArgs false
theorem log2_mul_pow (m j : Nat) (h : m ≠ 0) : (m * 2 ^ j).log2 = m.log2 + j := by
  have h1 : m * 2 ^ j ≠ 0 := Nat.mul_ne_zero h (Nat.pos_iff_ne_zero.1 (Nat.two_pow_pos j))
  rw [Nat.log2_eq_iff h1, Nat.pow_add, show m.log2 + j + 1 = (m.log2 + 1) + j by omega, Nat.pow_add]
  have := (Nat.log2_eq_iff h).1 rfl
  exact ⟨Nat.mul_le_mul_right _ this.1, (Nat.mul_lt_mul_right (Nat.two_pow_pos j)).2 this.2⟩
theorem cut_nought (way : Ieee.Toward) (s : Bool) (n : Nat) : way.cut s n 0 = n := by
  unfold Ieee.Toward.cut
  have e : 1 <<< min 0 (n.log2 + 2) = 1 := by rw [Nat.zero_min]; rfl
  simp only [e, Nat.div_one, Nat.mod_one]
  cases way <;> simp
theorem cut_even (s : Bool) (n j d : Nat) (hn : n ≠ 0) : Ieee.Toward.even.cut s (n * 2 ^ j) (d + j) = Ieee.Toward.even.cut s n d := by
  have hj : 0 < 2 ^ j := Nat.two_pow_pos j
  unfold Ieee.Toward.cut
  rw [log2_mul_pow n j hn, show min (d + j) (n.log2 + j + 2) = min d (n.log2 + 2) + j by omega, Nat.one_shiftLeft, Nat.one_shiftLeft, Nat.pow_add]
  generalize 2 ^ min d (n.log2 + 2) = g
  simp only [Nat.mul_div_mul_right _ _ hj, Nat.mul_mod_mul_right]
  congr 2
  have e1 : (g * 2 ^ j < 2 * (n % g * 2 ^ j)) ↔ (g < 2 * (n % g)) := by
    rw [← Nat.mul_assoc]; exact Nat.mul_lt_mul_right hj
  have e2 : (g * 2 ^ j = 2 * (n % g * 2 ^ j)) ↔ (g = 2 * (n % g)) := by
    rw [← Nat.mul_assoc]; exact ⟨fun h => Nat.eq_of_mul_eq_mul_right hj h, fun h => by rw [← h]⟩
  rw [decide_eq_decide.2 e1]
  congr 2
  rw [Bool.eq_iff_iff, beq_iff_eq, beq_iff_eq]; exact e2
theorem cut_back (s : Bool) (n j : Nat) (hn : n ≠ 0) : Ieee.Toward.even.cut s (n * 2 ^ j) j = n := by
  have := cut_even s n j 0 hn
  rw [Nat.zero_add, cut_nought] at this; exact this
theorem nearest_scale (f : Ieee.Format) (s : Bool) (m j : Nat) (p : Int) : f.nearest s (m * 2 ^ j) p = f.nearest s m (p + j) := by
  by_cases hm : m = 0
  · subst hm; rw [Nat.zero_mul]; unfold Ieee.Format.nearest; rw [if_pos rfl, if_pos rfl]
  have hm' : m * 2 ^ j ≠ 0 := Nat.mul_ne_zero hm (Nat.pos_iff_ne_zero.1 (Nat.two_pow_pos j))
  unfold Ieee.Format.nearest
  rw [if_neg hm, if_neg hm', log2_mul_pow m j hm, show p + ((m.log2 + j : Nat) : Int) = p + j + (m.log2 : Int) by omega]
  generalize max (p + j + (m.log2 : Int) - f.fractionBits) f.leastPlace = last
  have key : Ieee.Toward.even.cut s ((m * 2 ^ j) <<< (p - last).toNat) (last - p).toNat = Ieee.Toward.even.cut s (m <<< (p + j - last).toNat) (last - (p + j)).toNat := by
    rw [Nat.shiftLeft_eq, Nat.shiftLeft_eq]
    by_cases h1 : last ≤ p
    · rw [show (last - p).toNat = 0 by omega, show (last - (p + j)).toNat = 0 by omega, cut_nought, cut_nought, Nat.mul_assoc, ← Nat.pow_add]
      congr 2; omega
    · by_cases h2 : p + j ≤ last
      · rw [show (p - last).toNat = 0 by omega, show (p + j - last).toNat = 0 by omega, Nat.pow_zero, Nat.mul_one, Nat.mul_one, show (last - p).toNat = (last - (p + j)).toNat + j by omega, cut_even s m j _ hm]
      · rw [show (p - last).toNat = 0 by omega, show (last - (p + j)).toNat = 0 by omega, Nat.pow_zero, Nat.mul_one, cut_nought]
        have e : m * 2 ^ j = (m * 2 ^ (p + j - last).toNat) * 2 ^ (last - p).toNat := by
          rw [Nat.mul_assoc, ← Nat.pow_add]; congr 2; omega
        rw [e, cut_back]
        exact Nat.mul_ne_zero hm (Nat.pos_iff_ne_zero.1 (Nat.two_pow_pos _))
  simp only [key]
def Num (f : Ieee.Format) (b : Nat) (s : Bool) (V : Nat) : Prop := ∃ m p, f.read b = .number s m p ∧ f.leastPlace ≤ p ∧ m * 2 ^ (p - f.leastPlace).toNat = V
theorem nearest_value (f : Ieee.Format) (s : Bool) (m k : Nat) (p q : Int) (hp : f.leastPlace ≤ p) (hq : f.leastPlace ≤ q) (h : m * 2 ^ (p - f.leastPlace).toNat = k * 2 ^ (q - f.leastPlace).toNat) : f.nearest s m p = f.nearest s k q := by
  by_cases hpq : p ≤ q
  · have e : m = k * 2 ^ (q - p).toNat := by
      refine Nat.eq_of_mul_eq_mul_right (Nat.two_pow_pos (p - f.leastPlace).toNat) ?_
      rw [h, Nat.mul_assoc, ← Nat.pow_add]; congr 2; omega
    rw [e, nearest_scale]; congr 1; omega
  · have e : k = m * 2 ^ (p - q).toNat := by
      refine Nat.eq_of_mul_eq_mul_right (Nat.two_pow_pos (q - f.leastPlace).toNat) ?_
      rw [← h, Nat.mul_assoc, ← Nat.pow_add]; congr 2; omega
    rw [e, nearest_scale]; congr 1; omega
theorem read_word (f : Ieee.Format) (s : Bool) (r : Nat) (h : r < f.signWeight) : (f.word s r / f.signWeight % 2 == 1) = s ∧ f.word s r % f.signWeight = r := by
  have hw : 0 < f.signWeight := Nat.two_pow_pos _
  unfold Ieee.Format.word
  cases s
  · rw [if_neg (by simp), Nat.div_eq_of_lt h, Nat.mod_eq_of_lt h]; exact ⟨rfl, rfl⟩
  · rw [if_pos rfl, Nat.add_div_left _ hw, Nat.div_eq_of_lt h, Nat.add_mod_left, Nat.mod_eq_of_lt h]; exact ⟨rfl, rfl⟩
theorem word_zero (f : Ieee.Format) (s : Bool) (p : Int) : f.nearest s 0 p = f.word s 0 := by unfold Ieee.Format.nearest; rw [if_pos rfl]
theorem num_zero (f : Ieee.Format) (s : Bool) : Num f (f.word s 0) s 0 := by
  obtain ⟨h1, h2⟩ := read_word f s 0 (Nat.two_pow_pos _)
  refine ⟨0, f.leastPlace, ?_, Int.le_refl _, Nat.zero_mul _⟩
  unfold Ieee.Format.read
  rw [h1, h2]
  exact if_pos (Nat.two_pow_pos _)
theorem num_nearest (f : Ieee.Format) (s : Bool) (m : Nat) (p : Int) (hp : f.leastPlace ≤ p) (hm : m < 2 ^ (f.fractionBits + 1)) (ht : (p + m.log2 - f.fractionBits - f.leastPlace).toNat + 3 ≤ 2 ^ f.exponentBits) :
    Num f (f.nearest s m p) s (m * 2 ^ (p - f.leastPlace).toNat) := by
  by_cases h0 : m = 0
  · subst h0; rw [word_zero, Nat.zero_mul]; exact num_zero f s
  have hl := (Nat.log2_eq_iff h0).1 rfl
  have hlf : m.log2 ≤ f.fractionBits := by
    have : 2 ^ m.log2 < 2 ^ (f.fractionBits + 1) := Nat.lt_of_le_of_lt hl.1 hm
    have := (Nat.pow_lt_pow_iff_right (by decide : 1 < 2)).1 this
    omega
  unfold Ieee.Format.nearest
  rw [if_neg h0]
  have hlast : max (p + (m.log2 : Int) - f.fractionBits) f.leastPlace ≤ p := by omega
  generalize hL : max (p + (m.log2 : Int) - f.fractionBits) f.leastPlace = last at hlast ⊢
  have hll : f.leastPlace ≤ last := by omega
  simp only [show (last - p).toNat = 0 by omega, cut_nought, Nat.shiftLeft_eq]
  have hB : f.binade = 2 ^ f.fractionBits := rfl
  have hK2 : m * 2 ^ (p - last).toNat < 2 * f.binade := by
    have h1 : m * 2 ^ (p - last).toNat < 2 ^ (m.log2 + 1) * 2 ^ (p - last).toNat := (Nat.mul_lt_mul_right (Nat.two_pow_pos _)).2 hl.2
    rw [← Nat.pow_add] at h1
    have h2 : 2 ^ (m.log2 + 1 + (p - last).toNat) ≤ 2 ^ (f.fractionBits + 1) := Nat.pow_le_pow_right (by decide) (by omega)
    rw [Nat.pow_succ] at h2
    rw [hB]; omega
  have hK1 : f.leastPlace < last → f.binade ≤ m * 2 ^ (p - last).toNat := by
    intro h
    have h1 : 2 ^ m.log2 * 2 ^ (p - last).toNat ≤ m * 2 ^ (p - last).toNat := Nat.mul_le_mul_right _ hl.1
    rw [← Nat.pow_add, show m.log2 + (p - last).toNat = f.fractionBits by omega] at h1
    exact h1
  have hV : m * 2 ^ (p - f.leastPlace).toNat = (m * 2 ^ (p - last).toNat) * 2 ^ (last - f.leastPlace).toNat := by
    rw [Nat.mul_assoc, ← Nat.pow_add]; congr 2; omega
  rw [hV]
  have hq : (last - f.leastPlace).toNat + 3 ≤ 2 ^ f.exponentBits := by omega
  generalize hKe : m * 2 ^ (p - last).toNat = K at *
  generalize hqe : (last - f.leastPlace).toNat = q at *
  have hBp : 0 < f.binade := Nat.two_pow_pos _
  have hr : q * f.binade + K < f.infRung := by
    unfold Ieee.Format.infRung
    have h1 : (q + 2) * f.binade ≤ (2 ^ f.exponentBits - 1) * f.binade := Nat.mul_le_mul_right _ (by omega)
    rw [Nat.add_mul] at h1; omega
  rw [Nat.min_eq_left (Nat.le_of_lt hr)]
  have hsw := f.infRung_lt
  obtain ⟨r1, r2⟩ := read_word f s (q * f.binade + K) (by omega)
  unfold Num Ieee.Format.read
  rw [r1, r2]
  by_cases hqz : q = 0
  · subst hqz
    rw [Nat.zero_mul, Nat.zero_add] at hr ⊢
    by_cases hs : K < f.binade
    · exact ⟨K, f.leastPlace, if_pos hs, Int.le_refl _, by rw [Int.sub_self]; rfl⟩
    · refine ⟨f.binade + K % f.binade, f.leastPlace + (K / f.binade - 1 : Nat), ?_, by omega, ?_⟩
      · show (if K < f.binade then _ else if K < f.infRung then _ else _) = _
        rw [if_neg hs, if_pos hr]
      · have hd : K / f.binade = 1 := by
          rw [Nat.div_eq_iff hBp]; omega
        have := Nat.div_add_mod K f.binade
        rw [hd, Nat.mul_one] at this
        rw [hd, this, show (f.leastPlace + ((1 - 1 : Nat) : Int) - f.leastPlace).toNat = 0 by omega]
  · have hK := hK1 (by omega)
    have hd : (q * f.binade + K) / f.binade = q + 1 := by
      rw [Nat.mul_comm, Nat.mul_add_div hBp]
      have : K / f.binade = 1 := by rw [Nat.div_eq_iff hBp]; omega
      omega
    have hm' : f.binade + (q * f.binade + K) % f.binade = K := by
      rw [Nat.mul_comm, Nat.mul_add_mod]
      have h1 : K / f.binade = 1 := by rw [Nat.div_eq_iff hBp]; omega
      have := Nat.div_add_mod K f.binade
      rw [h1, Nat.mul_one] at this; exact this
    refine ⟨f.binade + (q * f.binade + K) % f.binade, f.leastPlace + ((q * f.binade + K) / f.binade - 1 : Nat), ?_, by omega, ?_⟩
    · show (if q * f.binade + K < f.binade then _ else if q * f.binade + K < f.infRung then _ else _) = _
      have : f.binade ≤ q * f.binade := Nat.le_mul_of_pos_left _ (by omega)
      rw [if_neg (by omega), if_pos hr]
    · rw [hm', hd, show (f.leastPlace + ((q + 1 - 1 : Nat) : Int) - f.leastPlace).toNat = q by omega]
def sgn (s : Bool) (V : Nat) : Int := if s then -(V : Int) else (V : Int)
theorem sgn_mul (s : Bool) (a k : Nat) : sgn s (a * k) = sgn s a * (k : Int) := by
  unfold sgn; cases s <;> simp [Int.neg_mul]
theorem signed_sgn (s : Bool) (m a : Nat) : Ieee.signed s m a = sgn s (m * 2 ^ a) := by
  unfold Ieee.signed sgn; rw [Nat.shiftLeft_eq]
theorem sgn_abs (s : Bool) (V : Nat) : (sgn s V).natAbs = V := by unfold sgn; cases s <;> simp
theorem compare_scale (a b : Int) (k : Nat) (hk : 0 < k) : compare (a * (k : Int)) (b * (k : Int)) = compare a b := by
  have hk' : (0 : Int) < (k : Int) := by omega
  show compareOfLessAndEq _ _ = compareOfLessAndEq _ _
  unfold compareOfLessAndEq
  by_cases h1 : a < b
  · rw [if_pos h1, if_pos (Int.mul_lt_mul_of_pos_right h1 hk')]
  · rw [if_neg h1, if_neg (fun g => h1 (Int.lt_of_mul_lt_mul_right g (Int.le_of_lt hk')))]
    by_cases h2 : a = b
    · rw [if_pos h2, if_pos (by rw [h2])]
    · rw [if_neg h2, if_neg (fun g => h2 (Int.eq_of_mul_eq_mul_right (by omega) g))]
theorem num_order {f : Ieee.Format} {x y : Nat} {s t : Bool} {V W : Nat} (hx : Num f x s V) (hy : Num f y t W) : f.order x y = some (compare (sgn s V) (sgn t W)) := by
  obtain ⟨m, i, e1, hi, rfl⟩ := hx
  obtain ⟨n, j, e2, hj, rfl⟩ := hy
  unfold Ieee.Format.order
  rw [e1, e2]
  show some (compare (Ieee.signed s m (i - min i j).toNat) (Ieee.signed t n (j - min i j).toNat)) = _
  rw [signed_sgn, signed_sgn, ← compare_scale _ _ (2 ^ (min i j - f.leastPlace).toNat) (Nat.two_pow_pos _), ← sgn_mul, ← sgn_mul, Nat.mul_assoc, Nat.mul_assoc, ← Nat.pow_add, ← Nat.pow_add]
  rw [show (i - min i j).toNat + (min i j - f.leastPlace).toNat = (i - f.leastPlace).toNat by omega, show (j - min i j).toNat + (min i j - f.leastPlace).toNat = (j - f.leastPlace).toNat by omega]
theorem read_small {f : Ieee.Format} {b : Nat} {s : Bool} {m : Nat} {p : Int} (h : f.read b = .number s m p) : m < 2 * f.binade ∧ f.leastPlace ≤ p := by
  have hB : 0 < f.binade := Nat.two_pow_pos _
  unfold Ieee.Format.read at h
  dsimp only at h
  split at h
  · cases h; rename_i hr; exact ⟨by omega, Int.le_refl _⟩
  · split at h
    · cases h
      have := Nat.mod_lt (b % f.signWeight) hB
      exact ⟨by omega, by omega⟩
    · split at h <;> cases h
theorem dl : Ieee.double.leastPlace = -1074 := by decide
theorem sl : Ieee.single.leastPlace = -149 := by decide
def Ubig : Nat := 2 ^ 1074
theorem Ubig_eq : Ubig = 2 ^ 1074 := by unfold Ubig; rfl
def dI (s : Bool) (k : Nat) : Nat := Ieee.double.nearest s k 0
def IntF (x : Nat) (s : Bool) (k : Nat) : Prop := Num Ieee.double x s (k * Ubig)
theorem dI_int (s : Bool) (k : Nat) (hk : k < 9007199254740992) : IntF (dI s k) s k := by
  have := num_nearest Ieee.double s k 0 (by rw [dl]; decide) (by show k < 2 ^ 53; exact hk) (by
    rw [dl]
    have hl : k.log2 ≤ 52 := by
      by_cases h0 : k = 0
      · subst h0; decide
      · have := (Nat.log2_lt h0).2 (show k < 2 ^ 53 from hk); omega
    show ((0 : Int) + (k.log2 : Int) - ((52 : Nat) : Int) - (-1074)).toNat + 3 ≤ 2 ^ 11
    omega)
  rw [dl] at this
  rw [show ((0 : Int) - (-1074)).toNat = 1074 from rfl, ← Ubig_eq] at this
  exact this
theorem dI_of {s : Bool} {m k : Nat} {p : Int} (hp : -1074 ≤ p) (h : m * 2 ^ (p + 1074).toNat = k * Ubig) : Ieee.double.nearest s m p = dI s k :=
  nearest_value Ieee.double s m k p 0 (by rw [dl]; exact hp) (by rw [dl]; decide) (by rw [dl, Int.sub_neg, h, show ((0 : Int) - (-1074)).toNat = 1074 from rfl, ← Ubig_eq])
theorem Ubig_pos : 0 < Ubig := by rw [Ubig_eq]; exact Nat.two_pow_pos 1074
theorem cut_zero (s : Bool) (n d : Nat) : Ieee.Toward.zero.cut s n d = n / 2 ^ d := by
  unfold Ieee.Toward.cut
  show n / 1 <<< min d (n.log2 + 2) + 0 = _
  rw [Nat.add_zero, Nat.one_shiftLeft]
  by_cases h : d ≤ n.log2 + 2
  · rw [Nat.min_eq_left h]
  · rw [Nat.min_eq_right (by omega)]
    have h1 : n < 2 ^ (n.log2 + 2) := by
      by_cases h0 : n = 0
      · subst h0; exact Nat.two_pow_pos _
      · have := ((Nat.log2_eq_iff h0).1 rfl).2
        exact Nat.lt_of_lt_of_le this (Nat.pow_le_pow_right (by decide) (by omega))
    have h2 : n < 2 ^ d := Nat.lt_of_lt_of_le h1 (Nat.pow_le_pow_right (by decide) (by omega))
    rw [Nat.div_eq_of_lt h1, Nat.div_eq_of_lt h2]
def truncB (x : Nat) : Nat := Ieee.double.write ((Ieee.double.read x).integral .zero)
def signB (x : Nat) : Bool := decide (x % 18446744073709551616 ≥ 9223372036854775808)
def partE (x : Nat) : Bool :=
  (Ieee.double.order x 13920626448202203136 == some .gt || Ieee.double.order x 13920626448202203136 == some .eq) &&
  ((Ieee.double.order x 4697254411347427328 == some .lt || Ieee.double.order x 4697254411347427328 == some .eq) &&
  (Ieee.double.order x (truncB x) == some .eq && !(Ieee.double.order x 0 == some .eq && signB x)))
theorem cN : IntF 13920626448202203136 true 1048576 := by
  have h := dI_int true 1048576 (by decide)
  rwa [show dI true 1048576 = 13920626448202203136 by decide +kernel] at h
theorem cP : IntF 4697254411347427328 false 1048576 := by
  have h := dI_int false 1048576 (by decide)
  rwa [show dI false 1048576 = 4697254411347427328 by decide +kernel] at h
theorem cZ : IntF 0 false 0 := by
  have h := dI_int false 0 (by decide)
  rwa [show dI false 0 = 0 by decide +kernel] at h
theorem trunc_num {x : Nat} {s : Bool} {V : Nat} (h : Num Ieee.double x s V) : truncB x = dI s (V / Ubig) := by
  obtain ⟨m, p, h1, h2, rfl⟩ := h
  unfold truncB
  rw [h1]
  show Ieee.double.nearest s (Ieee.Toward.zero.cut s (m <<< p.toNat) (-p).toNat) 0 = _
  rw [cut_zero, Nat.shiftLeft_eq, dl, Int.sub_neg]
  rw [dl] at h2
  unfold dI
  congr 1
  by_cases hp : 0 ≤ p
  · rw [show (-p).toNat = 0 by omega, Nat.pow_zero, Nat.div_one, show (p + 1074).toNat = p.toNat + 1074 by omega, Nat.pow_add, ← Ubig_eq, ← Nat.mul_assoc, Nat.mul_div_cancel _ Ubig_pos]
  · have e : Ubig = 2 ^ (-p).toNat * 2 ^ (p + 1074).toNat := by
      rw [← Nat.pow_add, Ubig_eq, show (-p).toNat + (p + 1074).toNat = 1074 by omega]
    rw [e, Nat.mul_div_mul_right _ _ (Nat.two_pow_pos _), show p.toNat = 0 by omega, Nat.pow_zero, Nat.mul_one]
theorem sign_num {x : Nat} {s : Bool} {V : Nat} (hx : x < 18446744073709551616) (h : Num Ieee.double x s V) : signB x = s := by
  obtain ⟨m, p, h1, _, _⟩ := h
  have h2 : (x / Ieee.double.signWeight % 2 == 1) = s := by
    unfold Ieee.Format.read at h1
    dsimp only at h1
    split at h1
    · cases h1; rfl
    · split at h1
      · cases h1; rfl
      · split at h1 <;> cases h1
  have hw : Ieee.double.signWeight = 9223372036854775808 := by decide
  rw [hw] at h2
  unfold signB
  rw [← h2, Nat.mod_eq_of_lt hx, Bool.eq_iff_iff, decide_eq_true_iff, beq_iff_eq]
  omega
theorem cmp_gt (a b : Int) : (some (compare a b) == some Ordering.gt || some (compare a b) == some Ordering.eq) = decide (b ≤ a) := by
  show (some (compareOfLessAndEq a b) == some Ordering.gt || some (compareOfLessAndEq a b) == some Ordering.eq) = _
  unfold compareOfLessAndEq
  by_cases h : a < b
  · rw [if_pos h, decide_eq_false (by omega)]; rfl
  · rw [if_neg h, decide_eq_true (by omega)]
    split <;> rfl
theorem cmp_lt (a b : Int) : (some (compare a b) == some Ordering.lt || some (compare a b) == some Ordering.eq) = decide (a ≤ b) := by
  show (some (compareOfLessAndEq a b) == some Ordering.lt || some (compareOfLessAndEq a b) == some Ordering.eq) = _
  unfold compareOfLessAndEq
  by_cases h : a < b
  · rw [if_pos h, decide_eq_true (by omega)]; rfl
  · rw [if_neg h]
    by_cases h2 : a = b
    · rw [if_pos h2, decide_eq_true (by omega)]; rfl
    · rw [if_neg h2, decide_eq_false (by omega)]; rfl
theorem cmp_eq (a b : Int) : (some (compare a b) == some Ordering.eq) = decide (a = b) := by
  show (some (compareOfLessAndEq a b) == some Ordering.eq) = _
  unfold compareOfLessAndEq
  by_cases h : a < b
  · rw [if_pos h, decide_eq_false (by omega)]; rfl
  · rw [if_neg h]
    by_cases h2 : a = b
    · rw [if_pos h2, decide_eq_true h2]; rfl
    · rw [if_neg h2, decide_eq_false h2]; rfl
theorem order_inf {x y : Nat} {s t : Bool} {W : Nat} (hx : Ieee.double.read x = .infinity s) (hy : Num Ieee.double y t W) : Ieee.double.order x y = some (if s then .lt else .gt) := by
  obtain ⟨m, p, h1, _, _⟩ := hy
  unfold Ieee.Format.order
  rw [hx, h1]; rfl
theorem order_nan {x y : Nat} {s : Bool} {n : Nat} (hx : Ieee.double.read x = .nan s n) : Ieee.double.order x y = none := by
  unfold Ieee.Format.order
  rw [hx]; rfl
theorem sgn_inj (s : Bool) (V W : Nat) : sgn s V = sgn s W ↔ V = W := by unfold sgn; cases s <;> simp <;> omega
theorem sgn_le (s : Bool) (V K : Nat) : (sgn true K ≤ sgn s V ∧ sgn s V ≤ sgn false K) ↔ V ≤ K := by
  unfold sgn; cases s <;> simp <;> omega
theorem part_num {x : Nat} {s : Bool} {V : Nat} (hx : x < 18446744073709551616) (h : Num Ieee.double x s V) : partE x = (decide (V ≤ 1048576 * Ubig) && (decide (V / Ubig * Ubig = V) && (decide (V ≠ 0) || !s))) := by
  unfold partE
  rw [num_order h cN, num_order h cP, num_order h cZ, cmp_gt, cmp_lt, sign_num hx h]
  have hU := Ubig_pos
  by_cases hV : V ≤ 1048576 * Ubig
  · have hle := (sgn_le s V (1048576 * Ubig)).2 hV
    have ht : IntF (truncB x) s (V / Ubig) := by
      rw [trunc_num h]
      refine dI_int s _ ?_
      have : V / Ubig ≤ 1048576 := by rw [Nat.mul_comm] at hV; exact Nat.div_le_of_le_mul hV
      omega
    rw [num_order h ht, cmp_eq, cmp_eq, decide_eq_true hle.1, decide_eq_true hle.2, decide_eq_true hV, Bool.true_and, Bool.true_and, Bool.true_and]
    have e1 : (sgn s V = sgn s (V / Ubig * Ubig)) ↔ V / Ubig * Ubig = V := (sgn_inj s _ _).trans eq_comm
    have e2 : (sgn s V = sgn false (0 * Ubig)) ↔ V = 0 := by unfold sgn; cases s <;> simp <;> omega
    rw [decide_eq_decide.2 e1, decide_eq_decide.2 e2]
    by_cases h0 : V = 0
    · rw [decide_eq_true h0, decide_eq_false (fun g : V ≠ 0 => g h0), Bool.true_and, Bool.false_or]
    · rw [decide_eq_false h0, decide_eq_true (show V ≠ 0 from h0), Bool.false_and, Bool.true_or]; rfl
  · have hle : ¬ (sgn true (1048576 * Ubig) ≤ sgn s V ∧ sgn s V ≤ sgn false (1048576 * Ubig)) := fun g => hV ((sgn_le s V (1048576 * Ubig)).1 g)
    rw [decide_eq_false hV, Bool.false_and]
    by_cases g : sgn true (1048576 * Ubig) ≤ sgn s V
    · rw [decide_eq_true g, decide_eq_false (fun g2 => hle ⟨g, g2⟩)]; rfl
    · rw [decide_eq_false g]; rfl
theorem part_int {x : Nat} {s : Bool} {k : Nat} (hx : x < 18446744073709551616) (h : IntF x s k) : partE x = (decide (k ≤ 1048576) && (decide (k ≠ 0) || !s)) := by
  have hU := Ubig_pos
  rw [part_num hx h, Nat.mul_div_cancel _ hU]
  have e1 : k * Ubig ≤ 1048576 * Ubig ↔ k ≤ 1048576 := Nat.mul_le_mul_right_iff hU
  have e2 : k * Ubig ≠ 0 ↔ k ≠ 0 := ⟨fun g e => g (by rw [e, Nat.zero_mul]), fun g => Nat.mul_ne_zero g (by omega)⟩
  rw [decide_eq_decide.2 e1, decide_eq_decide.2 e2, decide_eq_true rfl, Bool.true_and]
end Go.Proofs.Ytdemgfbolcmcdaa.X
