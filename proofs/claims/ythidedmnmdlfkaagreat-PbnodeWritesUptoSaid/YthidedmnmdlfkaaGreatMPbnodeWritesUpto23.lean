import Derived.Test.YthidedmnmdlfkaaGreatMPbnodeWritesUpto2
import Derived.Test.YthidedmnmdlfkaaGreatMPbnodeWritesUpto14
import Derived.Test.YthidedmnmdlfkaaGreatMPbnodeWritesUpto15
import Derived.Test.YthidedmnmdlfkaaGreatMPbnodeWritesUpto16
import Derived.Test.YthidedmnmdlfkaaGreatMPbnodeWritesUpto20
import Derived.Test.YthidedmnmdlfkaaGreatMPbnodeWritesUpto22
import Derived.Test.YthidedmnmdlfkaaGreatMPbnodeWritesUpto17
import Derived.Test.YthidedmnmdlfkaaGreatMPbnodeWritesUpto9
import Derived.Test.YthidedmnmdlfkaaGreatMPbnodeWritesUpto5
import Derived.Test.YthidedmnmdlfkaaGreatMPbnodeWritesUpto7
import Derived.Test.YthidedmnmdlfkaaGreatMPbnodeWritesUpto4
import Derived.Test.YthidedmnmdlfkaaGreatMPbnodeWritesUpto21
import Derived.Test.YthidedmnmdlfkaaGreatMPbnodeWritesUpto11
import Derived.Test.YthidedmnmdlfkaaGreatMPbnodeWritesUpto19
import Derived.Test.YthidedmnmdlfkaaGreatMPbnodeWritesUpto18
import Derived.Test.YthidedmnmdlfkaaGreatMPbnodeWritesUpto3
import Derived.Test.YthidedmnmdlfkaaGreatMPbnodeWritesUpto6
namespace Go.Proofs.YthidedmnmdlfkaaGreat.X
open Go.RowKit Go.Proofs.YthidedmnmdlfkaaGreatW.PrintWords Go.Proofs.YthidedmnmdlfkaaGreatW.PrintLast Go.Proofs.YthidedmnmdlfkaaGreatW.PrintMore
attribute [local go_sem] max2_int min2_int max_two min_two max_three min_three max_four min_four
set_option linter.unusedVariables false
set_option linter.unusedSimpArgs false
section
variable {w W : World} {op : ByteArray} {A1 : Option Addr} {c1 : Nat} {ins : List ByteArray} {out : ByteArray} {A3 : Option Addr} {c3 : Nat} {al : List S65} {nm : ByteArray} {kd : Int} {A5 : Option Addr} {c5 : Nat} {dims : List Int} {bN bI : ByteArray} {p1 : Option Addr} {q1 : Nat} {p3 : Option Addr} {q3 : Nat} {p5 : Option Addr} {q5 g7 g8 : Nat}
theorem pbRefN (h : PbQ w W op A1 c1 ins out A3 c3 al nm kd A5 c5 dims p1 q1 p3 q3 p5 q5 g7 g8) (hk : ∃ k, agateref11_PutNode.f k op ins out (al.map toA) = some bN) :
    Calls Tryz.prog 10 #[.agg #[.string op, .slice p1 ins.length q1, .string out, .slice p3 al.length q3]] W fun e w' => e = .returned (.string bN) ∧ PbQ w w' op A1 c1 ins out A3 c3 al nm kd A5 c5 dims p1 q1 p3 q3 p5 q5 g7 g8 := by
  obtain ⟨k, hk⟩ := hk
  have hl : (al.map toA).length = al.length := List.length_map ..
  have h3 := Kd.F_now h.f3
  have k3 := h.k3
  rw [← hl] at h3 k3 ⊢
  refine (agateref11_PutNode.calls k op p1 q1 ins out p3 q3 (al.map toA) bN W (Kd.F_now h.f1) h.k1 h3 k3 hk).mono ?_
  rintro e w' ⟨he, hB⟩
  exact ⟨he, h.step hB⟩
theorem pbRefI (h : PbQ w W op A1 c1 ins out A3 c3 al nm kd A5 c5 dims p1 q1 p3 q3 p5 q5 g7 g8) (hk : ∃ k, agateref11_PutInfo.f k nm kd dims = some bI) :
    Calls Tryz.prog 11 #[.agg #[.string nm, .int .i64 kd, .slice p5 dims.length q5]] W fun e w' => e = .returned (.string bI) ∧ PbQ w w' op A1 c1 ins out A3 c3 al nm kd A5 c5 dims p1 q1 p3 q3 p5 q5 g7 g8 := by
  obtain ⟨k, hk⟩ := hk
  refine (agateref11_PutInfo.calls k nm kd p5 q5 dims bI W (Kd.F_now h.f5) h.k5 hk).mono ?_
  rintro e w' ⟨he, hB⟩
  exact ⟨he, h.step hB⟩
theorem pbName (h : PbQ w W op A1 c1 ins out A3 c3 al nm kd A5 c5 dims p1 q1 p3 q3 p5 q5 g7 g8) (x : ByteArray) (hx : agateref07_Name_s.f x = some (nameR x)) :
    Calls Tryz.prog 12 #[.string x] W fun e w' => e = .returned (.bool (nameR x)) ∧ PbQ w w' op A1 c1 ins out A3 c3 al nm kd A5 c5 dims p1 q1 p3 q3 p5 q5 g7 g8 := by
  refine (agateref07_Name_s.calls x _ W hx).mono ?_
  rintro e w' ⟨he, n, rfl⟩
  exact ⟨he, h.step (pw_below_drewN (Below.refl _ _) n)⟩
theorem pbFind (h : PbQ w W op A1 c1 ins out A3 c3 al nm kd A5 c5 dims p1 q1 p3 q3 p5 q5 g7 g8) (x : ByteArray) (hk : ∃ k, agateref10_Find.f k (al.map toA) x = some (idxS ((al.map toA).map (fun x => x.f0)) x 0)) :
    Calls Tryz.prog 13 #[.slice p3 al.length q3, .string x] W fun e w' => e = .returned (.int .i64 (idxS ((al.map toA).map (fun x => x.f0)) x 0)) ∧ PbQ w w' op A1 c1 ins out A3 c3 al nm kd A5 c5 dims p1 q1 p3 q3 p5 q5 g7 g8 := by
  obtain ⟨k, hk⟩ := hk
  have hl : (al.map toA).length = al.length := List.length_map ..
  have h3 := Kd.F_now h.f3
  have k3 := h.k3
  rw [← hl] at h3 k3 ⊢
  refine (agateref10_Find.calls k p3 q3 (al.map toA) x _ W h3 k3 hk).mono ?_
  rintro e w' ⟨he, n, rfl⟩
  exact ⟨he, h.step (pw_below_drewN (Below.refl _ _) n)⟩
theorem pbAwake (h : PbQ w W op A1 c1 ins out A3 c3 al nm kd A5 c5 dims p1 q1 p3 q3 p5 q5 g7 g8) (hk : ∃ k, agatelaw11_Awake.f k = some true) :
    Calls Tryz.prog 5 #[] W fun e w' => e = .returned (.bool true) ∧ PbQ w w' op A1 c1 ins out A3 c3 al nm kd A5 c5 dims p1 q1 p3 q3 p5 q5 g7 g8 := by
  obtain ⟨k, hk⟩ := hk
  refine (agatelaw11_Awake.calls k true W hk).mono ?_
  rintro e w' ⟨he, hB⟩
  exact ⟨he, h.step hB⟩
theorem pbSize (h : PbQ w W op A1 c1 ins out A3 c3 al nm kd A5 c5 dims p1 q1 p3 q3 p5 q5 g7 g8) (hk : agateref04_Size_s.f kd = some (sizeK kd)) :
    Calls Tryz.prog 16 #[.int .i64 kd] W fun e w' => e = .returned (.int .i64 (sizeK kd)) ∧ PbQ w w' op A1 c1 ins out A3 c3 al nm kd A5 c5 dims p1 q1 p3 q3 p5 q5 g7 g8 := by
  refine (agateref04_Size_s.calls kd _ W hk).mono ?_
  rintro e w' ⟨he, n, rfl⟩
  exact ⟨he, h.step (pw_below_drewN (Below.refl _ _) n)⟩
end
structure PbO (W : World) (op : ByteArray) (ins : List ByteArray) (out : ByteArray) (r1 : Option Addr) (s1 : Nat) (r3 : Option Addr) (s3 : Nat) (al' : List S65) (g : Nat) : Prop where
  k1 : ins.length ≤ s1
  k3 : al'.length ≤ s3
  f1 : Kd.F Kd.string W (fun _ => True) r1 ins.length ins
  f3 : Kd.F k65 W (fun _ => True) r3 al'.length al'
  b : W.heap[g]? = some (.cells #[.string op, .slice r1 ins.length s1, .string out, .slice r3 al'.length s3] 25 (0, 0))
theorem PbO.step {W V : World} {op : ByteArray} {ins : List ByteArray} {out : ByteArray} {r1 : Option Addr} {s1 : Nat} {r3 : Option Addr} {s3 : Nat} {al' : List S65} {g : Nat} (h : PbO W op ins out r1 s1 r3 s3 al' g) (hB : Below W.heap.size W V) : PbO V op ins out r1 s1 r3 s3 al' g :=
  ⟨h.k1, h.k3, F_below h.f1 hB, F_below h.f3 hB, blk_below h.b hB⟩
structure PbT (W : World) (ins : List ByteArray) (t1 : Option Addr) (z1 : Nat) (t3 : Option Addr) (z3 : Nat) (al' : List S65) : Prop where
  k1 : ins.length ≤ z1
  k3 : al'.length ≤ z3
  f1 : Kd.F Kd.string W (fun _ => True) t1 ins.length ins
  f3 : Kd.F k50 W (fun _ => True) t3 al'.length (al'.map toA)
theorem PbT.step {W V : World} {ins : List ByteArray} {t1 : Option Addr} {z1 : Nat} {t3 : Option Addr} {z3 : Nat} {al' : List S65} (h : PbT W ins t1 z1 t3 z3 al') (hB : Below W.heap.size W V) : PbT V ins t1 z1 t3 z3 al' :=
  ⟨h.k1, h.k3, F_below h.f1 hB, F_below h.f3 hB⟩
theorem pbNode2 {W : World} {op : ByteArray} {ins : List ByteArray} {out : ByteArray} {r1 : Option Addr} {s1 : Nat} {r3 : Option Addr} {s3 : Nat} {al' : List S65} {g : Nat} (h : PbO W op ins out r1 s1 r3 s3 al' g) (hk : ∃ k, agatelaw10_Node.f k op ins out al' = some (op, ins, out, al'.map toA)) :
    Calls Tryz.prog 6 #[.agg #[.string op, .slice r1 ins.length s1, .string out, .slice r3 al'.length s3]] W fun e w' => ∃ t1 z1 t3 z3, e = .returned (.agg #[.string op, .slice t1 ins.length z1, .string out, .slice t3 al'.length z3]) ∧ PbT w' ins t1 z1 t3 z3 al' ∧ Below W.heap.size W w' := by
  obtain ⟨k, hk⟩ := hk
  refine (agatelaw10_Node.calls k op (fun _ => True) r1 s1 ins out (fun _ => True) r3 s3 al' op ins out (al'.map toA) W (Kd.V_mk h.k1 h.f1) (Kd.V_mk h.k3 h.f3) hk).mono ?_
  rintro e w1 ⟨v1, v3, rfl, hV1, hN3, hB⟩
  obtain ⟨t3, z3, rfl⟩ := Kd.N_slice hN3
  have k3 := (Kd.N_reads' hN3).2.1
  have f3 := Kd.N_F hN3
  obtain ⟨t1, z1, rfl, k1, f1⟩ := hV1
  rw [List.length_map] at k3 f3
  exact ⟨t1, z1, t3, z3, by rw [List.length_map], ⟨k1, k3, Kd.F_mono f1 (fun _ _ => trivial), Kd.F_mono f3 (fun _ _ => trivial)⟩, hB⟩
theorem pbNodes {w W : World} {op : ByteArray} {A1 : Option Addr} {c1 : Nat} {ins : List ByteArray} {out : ByteArray} {A3 : Option Addr} {c3 : Nat} {al : List S65} {nm : ByteArray} {kd : Int} {A5 : Option Addr} {c5 : Nat} {dims : List Int} {p1 : Option Addr} {q1 : Nat} {p3 : Option Addr} {q3 : Nat} {p5 : Option Addr} {q5 g7 g8 : Nat} {t1 : Option Addr} {z1 : Nat} {t3 : Option Addr} {z3 : Nat} {al' : List S65} (h : PbQ w W op A1 c1 ins out A3 c3 al nm kd A5 c5 dims p1 q1 p3 q3 p5 q5 g7 g8) (ht : PbT W ins t1 z1 t3 z3 al') (hk : ∃ k, agateref10_Nodes.f k op ins out (al'.map toA) op ins out (al.map toA) = some true) :
    Calls Tryz.prog 15 #[.agg #[.string op, .slice t1 ins.length z1, .string out, .slice t3 al'.length z3], .agg #[.string op, .slice p1 ins.length q1, .string out, .slice p3 al.length q3]] W fun e w' => e = .returned (.bool true) ∧ Below W.heap.size W w' := by
  obtain ⟨k, hk⟩ := hk
  have hl : (al.map toA).length = al.length := List.length_map ..
  have hl' : (al'.map toA).length = al'.length := List.length_map ..
  have h3 := Kd.F_now h.f3
  have k3 := h.k3
  have h3' := Kd.F_now ht.f3
  have k3' := ht.k3
  rw [← hl] at h3 k3 ⊢
  rw [← hl'] at h3' k3' ⊢
  exact agateref10_Nodes.calls k op t1 z1 ins out t3 z3 (al'.map toA) op p1 q1 ins out p3 q3 (al.map toA) true W (Kd.F_now ht.f1) ht.k1 h3' k3' (Kd.F_now h.f1) h.k1 h3 k3 hk
structure PbJ (W : World) (nm : ByteArray) (kd : Int) (dims : List Int) (r5 : Option Addr) (s5 g : Nat) : Prop where
  k : dims.length ≤ s5
  f : Kd.F (Kd.int .i64) W (fun _ => True) r5 dims.length dims
  b : W.heap[g]? = some (oI nm kd r5 dims.length s5)
theorem PbJ.step {W V : World} {nm : ByteArray} {kd : Int} {dims : List Int} {r5 : Option Addr} {s5 g : Nat} (h : PbJ W nm kd dims r5 s5 g) (hB : Below W.heap.size W V) : PbJ V nm kd dims r5 s5 g :=
  ⟨h.k, F_below h.f hB, blk_below h.b hB⟩
structure PbU (W : World) (nm : ByteArray) (kd : Int) (dims : List Int) (g : Nat) (x5 : Option Addr) (y5 : Nat) : Prop where
  k : dims.length ≤ y5
  c0 : W.cell? ⟨g, 0, none⟩ = some (.string nm)
  c1 : W.cell? ⟨g, 1, none⟩ = some (.int .i64 kd)
  c2 : W.cell? ⟨g, 2, none⟩ = some (.slice x5 dims.length y5)
  f : Kd.F (Kd.int .i64) W (fun _ => True) x5 dims.length dims
theorem PbU.step {W V : World} {nm : ByteArray} {kd : Int} {dims : List Int} {g : Nat} {x5 : Option Addr} {y5 : Nat} (h : PbU W nm kd dims g x5 y5) (hB : Below W.heap.size W V) : PbU V nm kd dims g x5 y5 :=
  have hv := hB.block g (cell_lt h.c0)
  ⟨h.k, cell_keep h.c0 hv, cell_keep h.c1 hv, cell_keep h.c2 hv, F_below h.f hB⟩
theorem pbInfos {W : World} {nm : ByteArray} {kd : Int} {dims : List Int} {r5 : Option Addr} {s5 g g3 : Nat} (h : PbJ W nm kd dims r5 s5 g) (h3 : W.heap[g3]? = some (oI nm kd r5 dims.length s5)) (hk : ∃ k, agatelaw10_Infos.f k [⟨nm, kd, dims⟩] = some [⟨nm, kd, dims⟩]) :
    Calls Tryz.prog 7 #[.slice (some ⟨g3, 0, none⟩) 1 1] W fun e w' => ∃ g4 t4 x5 y5, e = .returned (.slice (some ⟨g4, 0, none⟩) 1 t4) ∧ PbU w' nm kd dims g4 x5 y5 ∧ Below W.heap.size W w' := by
  obtain ⟨ki, hki⟩ := hk
  have FO := Kd.V_mk (d := k29) (e := 29) (base := W.heap.size) (Nat.le_refl 1) (F_one (ok := fun _ => True) (x := ⟨nm, kd, dims⟩) h3 trivial rfl (k29_mkF W _ ⟨nm, kd, dims⟩ h.k h.f))
  refine (agatelaw10_Infos.calls ki (fun _ => True) (some ⟨g3, 0, none⟩) 1 [⟨nm, kd, dims⟩] [⟨nm, kd, dims⟩] W FO hki).mono ?_
  rintro e w1 ⟨v0, rfl, hN, hB⟩
  obtain ⟨s4, t4, rfl, hg4, _, _⟩ := Kd.N_form hN Nat.zero_lt_one
  obtain ⟨cs, hcl, hFK, hcells, _⟩ := Kd.N_elem hN z42 0 (Int.le_refl 0) Int.zero_lt_one
  obtain ⟨x5, y5, rfl, k5, f5⟩ := k42_openF hFK
  exact ⟨s4, t4, x5, y5, rfl, ⟨k5, hcells 0 _ rfl, hcells 1 _ rfl, hcells 2 _ rfl, Kd.F_mono f5 (fun _ _ => trivial)⟩, hB⟩
theorem pbSame {w W : World} {op : ByteArray} {A1 : Option Addr} {c1 : Nat} {ins : List ByteArray} {out : ByteArray} {A3 : Option Addr} {c3 : Nat} {al : List S65} {nm : ByteArray} {kd : Int} {A5 : Option Addr} {c5 : Nat} {dims : List Int} {p1 : Option Addr} {q1 : Nat} {p3 : Option Addr} {q3 : Nat} {p5 : Option Addr} {q5 g7 g8 : Nat} {g : Nat} {x5 : Option Addr} {y5 : Nat} (h : PbQ w W op A1 c1 ins out A3 c3 al nm kd A5 c5 dims p1 q1 p3 q3 p5 q5 g7 g8) (hu : PbU W nm kd dims g x5 y5) (hk : ∃ k, agatelaw11_same.f k nm kd dims nm kd dims = some true) :
    Calls Tryz.prog 18 #[.agg #[.string nm, .int .i64 kd, .slice x5 dims.length y5], .agg #[.string nm, .int .i64 kd, .slice p5 dims.length q5]] W fun e w' => e = .returned (.bool true) ∧ Below W.heap.size W w' := by
  obtain ⟨k, hk⟩ := hk
  exact agatelaw11_same.calls k nm kd x5 y5 dims nm kd p5 q5 dims true W (Kd.F_now hu.f) hu.k (Kd.F_now h.f5) h.k5 hk
end Go.Proofs.YthidedmnmdlfkaaGreat.X
namespace Go.Proofs.YthidedmnmdlfkaaGreat.X
open Go.RowKit Go.Proofs.YthidedmnmdlfkaaGreatW.PrintWords Go.Proofs.YthidedmnmdlfkaaGreatW.PrintLast Go.Proofs.YthidedmnmdlfkaaGreatW.PrintMore
attribute [local go_sem] max2_int min2_int max_two min_two max_three min_three max_four min_four
set_option linter.unusedVariables false
set_option linter.unusedSimpArgs false
def pbLaw.T3 : Bool × List (List Nat × List Nat) := (true, [([], []), ([0], [0]), ([], []), ([2], [2]), ([3, 1], [3]), ([4], [4]), ([5], [5]), ([], []), ([], []), ([7, 1, 4, 0, 1, 7, 8], [1, 7]), ([8, 6, 9, 0, 1, 2, 3, 4, 5, 6, 7, 8, 9], [6, 8])])
def pbLaw.B3 : List Nat := [0, 1, 0, 4, 15, 31, 63, 0, 0, 415, 1023]
theorem pbLaw.tab3 : rtab .any (opsOf Tryz.f3 3) = pbLaw.T3 := by kernel_rfl
theorem pbLaw.bits3 : waitsOk pbLaw.T3.2 pbLaw.B3 = true := by kernel_rfl
def pbLaw.T4 : Bool × List (List Nat × List Nat) := (true, [([], []), ([0], [0]), ([], []), ([2, 1], [2]), ([1, 3, 0, 1], [1]), ([3, 4, 0, 1, 2, 3, 4], [3])])
def pbLaw.B4 : List Nat := [0, 1, 0, 7, 15, 31]
theorem pbLaw.tab4 : rtab .any (opsOf Tryz.f3 4) = pbLaw.T4 := by kernel_rfl
theorem pbLaw.bits4 : waitsOk pbLaw.T4.2 pbLaw.B4 = true := by kernel_rfl
def pbLaw.T15 : Bool × List (List Nat × List Nat) := (true, [([], []), ([0], [0]), ([1], [1]), ([2], [2]), ([3, 2, 2], [2, 3]), ([2], [2]), ([4, 5, 4, 2], [2, 4, 5]), ([6, 2], [2, 6]), ([2, 7], [2, 7])])
def pbLaw.B15 : List Nat := [0, 1, 3, 7, 15, 7, 63, 127, 255]
theorem pbLaw.tab15 : rtab .any (opsOf Tryz.f3 15) = pbLaw.T15 := by kernel_rfl
theorem pbLaw.bits15 : waitsOk pbLaw.T15.2 pbLaw.B15 = true := by kernel_rfl
def pbLaw.T19 : Bool × List (List Nat × List Nat) := (true, [([], []), ([0], [0]), ([1], [1]), ([2], [2]), ([3, 2], [2, 3]), ([4, 2, 2], [2, 4]), ([5, 2], [2, 5]), ([6, 2], [2, 6]), ([2], [2]), ([7, 8, 5, 2], [2, 7, 8]), ([9, 2], [2, 9]), ([2, 10], [2, 10])])
def pbLaw.B19 : List Nat := [0, 1, 3, 7, 15, 31, 63, 127, 7, 511, 1023, 2047]
theorem pbLaw.tab19 : rtab .any (opsOf Tryz.f3 19) = pbLaw.T19 := by kernel_rfl
theorem pbLaw.bits19 : waitsOk pbLaw.T19.2 pbLaw.B19 = true := by kernel_rfl
set_option maxHeartbeats 8000000 in
set_option maxRecDepth 100000 in
theorem pbLaw.small (op : ByteArray) (A1 : Option Addr) (c1 : Nat) (ins : List ByteArray) (out : ByteArray) (A3 : Option Addr) (c3 : Nat) (al : List S65) (nm : ByteArray) (kd : Int) (A5 : Option Addr) (c5 : Nat) (dims : List Int) (bN bI : ByteArray) (w : World)
    (h1 : ins.length ≤ c1) (f1 : Kd.F Kd.string w (fun k => k < w.heap.size) A1 ins.length ins) (h3 : al.length ≤ c3) (f3 : Kd.F k65 w (fun k => k < w.heap.size) A3 al.length al) (h5 : dims.length ≤ c5) (f5 : Kd.F (Kd.int .i64) w (fun k => k < w.heap.size) A5 dims.length dims)
    (hs : agatelaw10_Small.f 0 [⟨nm, kd, dims⟩] [] [] [⟨op, ins, out, al⟩] = some true) (hg : PbG op ins out al nm kd dims bN bI) :
    Calls Tryz.prog 3 #[.agg #[.string op, .slice A1 ins.length c1, .string out, .slice A3 al.length c3], .agg #[.string nm, .int .i64 kd, .slice A5 dims.length c5]] w fun en w' => en = .returned (.bool true) ∧ Below w.heap.size w w' := by
  have hu := Tryz.underlying25
  have hu2 := Tryz.underlying29
  have hu3 := Tryz.underlying35
  have hu4 := Tryz.underlying39
  have hu5 := Tryz.underlying42
  have HS := Aside0.mk hs
  have HG := Aside0.mk hg
  have HI0 := Aside0.mk (PbI.start (op := op) (c1 := c1) (out := out) (c3 := c3) (nm := nm) (kd := kd) (c5 := c5) f1 f3 f5)
  have hz : ((w.alloc (oN op A1 ins.length c1 out A3 al.length c3)).alloc (oI nm kd A5 dims.length c5)).heap.size = w.heap.size + 1 + 1 := by rw [alloc_size, alloc_size]
  have HZ := Aside0.mk hz
  have H1 := Aside0.mk h1
  have H3 := Aside0.mk h3
  have H5 := Aside0.mk h5
  clear hs hg hz f1 f3 f5 h1 h3 h5
  go_enter Tryz.func3, Tryz.ntmps3
  go_wp2_with (first | (fail))
  refine (pbSmall H1.out H3.out H5.out HI0.out HZ.out HS.out).mono ?_
  rintro en w1 ⟨rfl, hI⟩
  have HI := Aside0.mk (hI.step (below_drew1 (Below.refl _ _)))
  clear hI HI0 HZ HS
  go_wp2_with (first | (fail))
  refine start_ (n := 11) (S := fun w' => True) (ds := []) #[false, false, false, false, false, false, false, false, false, false, false] (by kernel_rfl) rfl rfl trivial (fun hHeld => ?_)
  refine with_tabW pbLaw.tab3 pbLaw.bits3 (fun HT_ HW_ => ?_)
  generalize w1.drew = wc at HI hHeld ⊢
  refine inv_at [0, 1, 2, 3, 4, 5, 6, 7, 8, 9, 10] (fun a0_ b a w' => ∃ (p1 : Option Addr) (q1 : Nat) (p3 : Option Addr) (q3 : Nat) (g3 : Nat) (g4 : Nat) (c4 : Nat) (p5 : Option Addr) (q5 : Nat) (g7 : Nat) (g8 : Nat) (m1_ : Value) (m3_ : Value) (m4_ : Value) (m5_ : Value) (m6_ : Value) (m7_ : Value) (m8_ : Value), a = putSel a0_ b [(0, 24, .agg #[.string op, .slice A1 ins.length c1, .string out, .slice A3 al.length c3]), (1, 25, m1_), (2, 26, .agg #[.string nm, .int .i64 kd, .slice A5 dims.length c5]), (3, 27, m3_), (4, 28, m4_), (5, 29, m5_), (6, 30, m6_), (7, 5, m7_), (8, 6, m8_)] ∧ (R3 b w w' op A1 c1 ins out A3 c3 al nm kd A5 c5 dims p1 q1 p3 q3 g3 g4 p5 q5 g7 g8) ∧ (b 1 = true → (m1_ : Value) = .agg #[.string op, .slice p1 ins.length q1, .string out, .slice p3 al.length q3]) ∧ (b 3 = true → (m3_ : Value) = .slice (some ⟨g3, 0, none⟩) 1 1) ∧ (b 4 = true → (m4_ : Value) = .slice (some ⟨g4, 0, none⟩) 1 c4) ∧ (b 5 = true → (m5_ : Value) = .pointer (some ⟨g4, 0, none⟩)) ∧ (b 6 = true → (m6_ : Value) = .agg #[.string nm, .int .i64 kd, .slice p5 dims.length q5]) ∧ (b 7 = true → (m7_ : Value) = .pointer (some ⟨g7, 0, none⟩)) ∧ (b 8 = true → (m8_ : Value) = .pointer (some ⟨g8, 0, none⟩))) HT_.out HW_.out (by kernel_rfl) (by kernel_rfl) ?_ ?_ ?_
  · exact ⟨none, 0, none, 0, 0, 0, 0, none, 0, 0, 0, .bool false, .bool false, .bool false, .bool false, .bool false, .bool false, .bool false, by simp only [putSel, Bool.false_eq_true, if_false], R3.start HI.out, fun h_ => absurd h_ (by decide), fun h_ => absurd h_ (by decide), fun h_ => absurd h_ (by decide), fun h_ => absurd h_ (by decide), fun h_ => absurd h_ (by decide), fun h_ => absurd h_ (by decide), fun h_ => absurd h_ (by decide)⟩
  · skip
    skip
    refine steps_cons ?_ ?_
    · rintro b a w' ⟨p1, q1, p3, q3, g3, g4, c4, p5, q5, g7, g8, m1_, m3_, m4_, m5_, m6_, m7_, m8_, ha, Q_R, Q_X1_, Q_X3_, Q_X4_, Q_X5_, Q_X6_, Q_X7_, Q_X8_⟩ hb_ hon hoff
      refine ⟨_, rfl, fun K hK => ?_⟩
      have e2 : a.tmps[2]? = some (.pointer (some ⟨w.heap.size, 0, none⟩)) := by rw [ha]; exact (putSel_off rfl).trans rfl
      replace ha := Aside0.mk ha
      have R := Aside0.mk Q_R
      have s0 : w'.cell? ⟨w.heap.size, 0, none⟩ = some (.string op) := blk_cell R.out.i.b0 0
      have s1 : w'.cell? ⟨w.heap.size, 1, none⟩ = some (.slice A1 ins.length c1) := blk_cell R.out.i.b0 1
      have s2 : w'.cell? ⟨w.heap.size, 2, none⟩ = some (.string out) := blk_cell R.out.i.b0 2
      have s3 : w'.cell? ⟨w.heap.size, 3, none⟩ = some (.slice A3 al.length c3) := blk_cell R.out.i.b0 3
      refine value_ (w1 := w') (v := .agg #[.string op, .slice A1 ins.length c1, .string out, .slice A3 al.length c3]) (by rfl) rfl ?_ ?_
      · go_simp
        (try simp only [i64_w])
        try rfl
      refine hK.out _ _ ⟨p1, q1, p3, q3, g3, g4, c4, p5, q5, g7, g8, m1_, m3_, m4_, m5_, m6_, m7_, m8_, (by rw [ha.out]; exact putSel_upk 0 hb_ rfl rfl rfl), R.out.skip (by decide), fun h0_ => absurd ((hoff 1 (by kernel_rfl)).symm.trans h0_) (by decide), Q_X3_, fun h0_ => absurd ((hoff 4 (by kernel_rfl)).symm.trans h0_) (by decide), fun h0_ => absurd ((hoff 5 (by kernel_rfl)).symm.trans h0_) (by decide), fun h0_ => absurd ((hoff 6 (by kernel_rfl)).symm.trans h0_) (by decide), Q_X7_, Q_X8_⟩
    refine steps_cons ?_ ?_
    · rintro b a w' ⟨p1, q1, p3, q3, g3, g4, c4, p5, q5, g7, g8, m1_, m3_, m4_, m5_, m6_, m7_, m8_, ha, Q_R, Q_X1_, Q_X3_, Q_X4_, Q_X5_, Q_X6_, Q_X7_, Q_X8_⟩ hb_ hon hoff
      refine ⟨_, rfl, fun K hK => ?_⟩
      have e24 : a.tmps[24]? = some (.agg #[.string op, .slice A1 ins.length c1, .string out, .slice A3 al.length c3]) := by rw [ha]; exact putSel_on (e := (0, 24, .agg #[.string op, .slice A1 ins.length c1, .string out, .slice A3 al.length c3])) 0 rfl rfl (hon 0 (by kernel_rfl)) rfl
      replace ha := Aside0.mk ha
      have R := Aside0.mk Q_R
      obtain ⟨kn, hkn⟩ := HG.out.node
      refine call_ 6 #[.agg #[.string op, .slice A1 ins.length c1, .string out, .slice A3 al.length c3]] (by rfl) rfl (by go_simp; try rfl) ?_
      refine (agatelaw10_Node.calls kn op (fun k => k < w.heap.size) A1 c1 ins out (fun k => k < w.heap.size) A3 c3 al op ins out (al.map toA) w' (Kd.V_mk H1.out R.out.i.f1) (Kd.V_mk H3.out R.out.i.f3) hkn).mono ?_
      rintro e w1 ⟨v1, v3, rfl, hV1, hN3, hB⟩
      obtain ⟨r3, s3, rfl⟩ := Kd.N_slice hN3
      have k3 := (Kd.N_reads' hN3).2.1
      have f3 := Kd.N_F hN3
      obtain ⟨r1, s1, rfl, k1, f1⟩ := hV1
      rw [List.length_map] at k3 f3
      refine ⟨_, rfl, ?_⟩
      rw [List.length_map]
      have f1' := Kd.F_mono f1 (ok' := fun k => k < w.heap.size ∨ w'.heap.size ≤ k) (fun k hk => hk.1.elim (fun h => .inl (h.elim id id)) .inr)
      have f3' := Kd.F_mono f3 (ok' := fun k => k < w.heap.size ∨ w'.heap.size ≤ k) (fun k hk => hk.elim (fun h => .inl (h.elim id id)) .inr)
      refine hK.out _ _ ⟨r1, s1, r3, s3, g3, g4, c4, p5, q5, g7, g8, (.agg #[.string op, .slice r1 ins.length s1, .string out, .slice r3 al.length s3]), m3_, m4_, m5_, m6_, m7_, m8_, (by rw [ha.out]; exact putSel_upk 1 hb_ rfl rfl rfl), R.out.call1 hB (hoff 9 (by kernel_rfl)) k1 k3 f1' f3', fun _ => rfl, Q_X3_, fun h0_ => absurd ((hoff 4 (by kernel_rfl)).symm.trans h0_) (by decide), fun h0_ => absurd ((hoff 5 (by kernel_rfl)).symm.trans h0_) (by decide), fun h0_ => absurd ((hoff 6 (by kernel_rfl)).symm.trans h0_) (by decide), Q_X7_, Q_X8_⟩
    refine steps_cons ?_ ?_
    · rintro b a w' ⟨p1, q1, p3, q3, g3, g4, c4, p5, q5, g7, g8, m1_, m3_, m4_, m5_, m6_, m7_, m8_, ha, Q_R, Q_X1_, Q_X3_, Q_X4_, Q_X5_, Q_X6_, Q_X7_, Q_X8_⟩ hb_ hon hoff
      refine ⟨_, rfl, fun K hK => ?_⟩
      have e3 : a.tmps[3]? = some (.pointer (some ⟨w.heap.size + 1, 0, none⟩)) := by rw [ha]; exact (putSel_off rfl).trans rfl
      replace ha := Aside0.mk ha
      have R := Aside0.mk Q_R
      have s0 : w'.cell? ⟨w.heap.size + 1, 0, none⟩ = some (.string nm) := blk_cell R.out.i.b1 0
      have s1 : w'.cell? ⟨w.heap.size + 1, 1, none⟩ = some (.int .i64 kd) := blk_cell R.out.i.b1 1
      have s2 : w'.cell? ⟨w.heap.size + 1, 2, none⟩ = some (.slice A5 dims.length c5) := blk_cell R.out.i.b1 2
      refine value_ (w1 := w') (v := .agg #[.string nm, .int .i64 kd, .slice A5 dims.length c5]) (by rfl) rfl ?_ ?_
      · go_simp
        (try simp only [i64_w])
        try rfl
      refine hK.out _ _ ⟨p1, q1, p3, q3, g3, g4, c4, p5, q5, g7, g8, m1_, m3_, m4_, m5_, m6_, m7_, m8_, (by rw [ha.out]; exact putSel_upk 2 hb_ rfl rfl rfl), R.out.skip (by decide), Q_X1_, fun h0_ => absurd ((hoff 3 (by kernel_rfl)).symm.trans h0_) (by decide), fun h0_ => absurd ((hoff 4 (by kernel_rfl)).symm.trans h0_) (by decide), fun h0_ => absurd ((hoff 5 (by kernel_rfl)).symm.trans h0_) (by decide), fun h0_ => absurd ((hoff 6 (by kernel_rfl)).symm.trans h0_) (by decide), Q_X7_, Q_X8_⟩
    refine steps_cons ?_ ?_
    · rintro b a w' ⟨p1, q1, p3, q3, g3, g4, c4, p5, q5, g7, g8, m1_, m3_, m4_, m5_, m6_, m7_, m8_, ha, Q_R, Q_X1_, Q_X3_, Q_X4_, Q_X5_, Q_X6_, Q_X7_, Q_X8_⟩ hb_ hon hoff
      refine ⟨_, rfl, fun K hK => ?_⟩
      have e26 : a.tmps[26]? = some (.agg #[.string nm, .int .i64 kd, .slice A5 dims.length c5]) := by rw [ha]; exact putSel_on (e := (2, 26, .agg #[.string nm, .int .i64 kd, .slice A5 dims.length c5])) 2 rfl rfl (hon 2 (by kernel_rfl)) rfl
      replace ha := Aside0.mk ha
      have R := Aside0.mk Q_R
      refine value_ (w1 := w'.alloc (oI nm kd A5 dims.length c5)) (v := .slice (some ⟨w'.heap.size, 0, none⟩) 1 1) (by rfl) rfl ?_ ?_
      · go_simp
        try rfl
      refine hK.out _ _ ⟨p1, q1, p3, q3, w'.heap.size, g4, c4, p5, q5, g7, g8, m1_, (.slice (some ⟨w'.heap.size, 0, none⟩) 1 1), m4_, m5_, m6_, m7_, m8_, (by rw [ha.out]; exact putSel_upk 3 hb_ rfl rfl rfl), R.out.made3, Q_X1_, fun _ => rfl, fun h0_ => absurd ((hoff 4 (by kernel_rfl)).symm.trans h0_) (by decide), fun h0_ => absurd ((hoff 5 (by kernel_rfl)).symm.trans h0_) (by decide), fun h0_ => absurd ((hoff 6 (by kernel_rfl)).symm.trans h0_) (by decide), Q_X7_, Q_X8_⟩
    refine steps_cons ?_ ?_
    · rintro b a w' ⟨p1, q1, p3, q3, g3, g4, c4, p5, q5, g7, g8, m1_, m3_, m4_, m5_, m6_, m7_, m8_, ha, Q_R, Q_X1_, Q_X3_, Q_X4_, Q_X5_, Q_X6_, Q_X7_, Q_X8_⟩ hb_ hon hoff
      refine ⟨_, rfl, fun K hK => ?_⟩
      have e27 : a.tmps[27]? = some (m3_) := by rw [ha]; exact putSel_on (e := (3, 27, m3_)) 3 rfl rfl (hon 3 (by kernel_rfl)) rfl
      rw [Q_X3_ (hon 3 (by kernel_rfl))] at e27
      replace ha := Aside0.mk ha
      have R := Aside0.mk Q_R
      have FO := Kd.V_mk (d := k29) (e := 29) (base := w'.heap.size) (Nat.le_refl 1) (F_one (ok := fun k => k < w.heap.size ∨ k = g3) (x := ⟨nm, kd, dims⟩) (R.out.r3 (hon 3 (by kernel_rfl)) hb_) (.inr rfl) rfl (k29_mkF w' _ ⟨nm, kd, dims⟩ H5.out (Kd.F_mono R.out.i.f5 (fun k hk => .inl hk))))
      obtain ⟨ki, hki⟩ := HG.out.info
      refine call_ 7 #[.slice (some ⟨g3, 0, none⟩) 1 1] (by rfl) rfl (by go_simp; try rfl) ?_
      refine (agatelaw10_Infos.calls ki (fun k => k < w.heap.size ∨ k = g3) (some ⟨g3, 0, none⟩) 1 [⟨nm, kd, dims⟩] [⟨nm, kd, dims⟩] w' FO hki).mono ?_
      rintro e w1 ⟨v0, rfl, hN, hB⟩
      obtain ⟨s4, t4, rfl, hg4, _, _⟩ := Kd.N_form hN Nat.zero_lt_one
      obtain ⟨cs, hcl, hFK, hcells, _⟩ := Kd.N_elem hN z42 0 (Int.le_refl 0) Int.zero_lt_one
      obtain ⟨r5, s5, rfl, k5, f5⟩ := k42_openF hFK
      have x0 : w1.cell? ⟨s4, 0, none⟩ = some (.string nm) := hcells 0 _ rfl
      have x1 : w1.cell? ⟨s4, 1, none⟩ = some (.int .i64 kd) := hcells 1 _ rfl
      have x2 : w1.cell? ⟨s4, 2, none⟩ = some (.slice r5 dims.length s5) := hcells 2 _ rfl
      have f5' : Kd.F (Kd.int .i64) w1 (fun k => (k < w.heap.size ∨ k = g3) ∨ w'.heap.size ≤ k) r5 dims.length dims := Kd.F_mono f5 (fun k hk => hk.1)
      refine ⟨_, rfl, ?_⟩
      refine hK.out _ _ ⟨p1, q1, p3, q3, g3, s4, t4, r5, s5, g7, g8, m1_, m3_, (.slice (some ⟨s4, 0, none⟩) 1 t4), m5_, m6_, m7_, m8_, (by rw [ha.out]; exact putSel_upk 4 hb_ rfl rfl rfl), R.out.call4 hB (hon 3 (by kernel_rfl)) hb_ (hoff 10 (by kernel_rfl)) k5 hg4 x0 x1 x2 f5', Q_X1_, Q_X3_, fun _ => rfl, fun h0_ => absurd ((hoff 5 (by kernel_rfl)).symm.trans h0_) (by decide), fun h0_ => absurd ((hoff 6 (by kernel_rfl)).symm.trans h0_) (by decide), Q_X7_, Q_X8_⟩
    refine steps_cons ?_ ?_
    · rintro b a w' ⟨p1, q1, p3, q3, g3, g4, c4, p5, q5, g7, g8, m1_, m3_, m4_, m5_, m6_, m7_, m8_, ha, Q_R, Q_X1_, Q_X3_, Q_X4_, Q_X5_, Q_X6_, Q_X7_, Q_X8_⟩ hb_ hon hoff
      refine ⟨_, rfl, fun K hK => ?_⟩
      have e28 : a.tmps[28]? = some (m4_) := by rw [ha]; exact putSel_on (e := (4, 28, m4_)) 4 rfl rfl (hon 4 (by kernel_rfl)) rfl
      rw [Q_X4_ (hon 4 (by kernel_rfl))] at e28
      replace ha := Aside0.mk ha
      have R := Aside0.mk Q_R
      refine value_ (w1 := w') (v := .pointer (some ⟨g4, 0, none⟩)) (by rfl) rfl ?_ ?_
      · go_simp
        (try simp only [i64_w])
        try rfl
      refine hK.out _ _ ⟨p1, q1, p3, q3, g3, g4, c4, p5, q5, g7, g8, m1_, m3_, m4_, (.pointer (some ⟨g4, 0, none⟩)), m6_, m7_, m8_, (by rw [ha.out]; exact putSel_upk 5 hb_ rfl rfl rfl), R.out.skip (by decide), Q_X1_, Q_X3_, Q_X4_, fun _ => rfl, fun h0_ => absurd ((hoff 6 (by kernel_rfl)).symm.trans h0_) (by decide), Q_X7_, Q_X8_⟩
    refine steps_cons ?_ ?_
    · rintro b a w' ⟨p1, q1, p3, q3, g3, g4, c4, p5, q5, g7, g8, m1_, m3_, m4_, m5_, m6_, m7_, m8_, ha, Q_R, Q_X1_, Q_X3_, Q_X4_, Q_X5_, Q_X6_, Q_X7_, Q_X8_⟩ hb_ hon hoff
      refine ⟨_, rfl, fun K hK => ?_⟩
      have e29 : a.tmps[29]? = some (m5_) := by rw [ha]; exact putSel_on (e := (5, 29, m5_)) 5 rfl rfl (hon 5 (by kernel_rfl)) rfl
      rw [Q_X5_ (hon 5 (by kernel_rfl))] at e29
      replace ha := Aside0.mk ha
      have R := Aside0.mk Q_R
      have h4 := R.out.r4 (hon 4 (by kernel_rfl))
      have s0 : w'.cell? ⟨g4, 0, none⟩ = some (.string nm) := h4.2.2.1
      have s1 : w'.cell? ⟨g4, 1, none⟩ = some (.int .i64 kd) := h4.2.2.2.1
      have s2 : w'.cell? ⟨g4, 2, none⟩ = some (.slice p5 dims.length q5) := h4.2.2.2.2.1
      refine value_ (w1 := w') (v := .agg #[.string nm, .int .i64 kd, .slice p5 dims.length q5]) (by rfl) rfl ?_ ?_
      · go_simp
        (try simp only [i64_w])
        try rfl
      refine hK.out _ _ ⟨p1, q1, p3, q3, g3, g4, c4, p5, q5, g7, g8, m1_, m3_, m4_, m5_, (.agg #[.string nm, .int .i64 kd, .slice p5 dims.length q5]), m7_, m8_, (by rw [ha.out]; exact putSel_upk 6 hb_ rfl rfl rfl), R.out.skip (by decide), Q_X1_, Q_X3_, Q_X4_, Q_X5_, fun _ => rfl, Q_X7_, Q_X8_⟩
    refine steps_cons ?_ ?_
    · rintro b a w' ⟨p1, q1, p3, q3, g3, g4, c4, p5, q5, g7, g8, m1_, m3_, m4_, m5_, m6_, m7_, m8_, ha, Q_R, Q_X1_, Q_X3_, Q_X4_, Q_X5_, Q_X6_, Q_X7_, Q_X8_⟩ hb_ hon hoff
      refine ⟨_, rfl, fun K hK => ?_⟩
      replace ha := Aside0.mk ha
      have R := Aside0.mk Q_R
      refine value_ (w1 := w'.alloc (Obj.cells #[.string ⟨#[]⟩, .slice none 0 0, .string ⟨#[]⟩, .slice none 0 0] 39)) (v := .pointer (some ⟨w'.heap.size, 0, none⟩)) (by rfl) rfl ?_ ?_
      · go_simp
        try rfl
      refine hK.out _ _ ⟨p1, q1, p3, q3, g3, g4, c4, p5, q5, w'.heap.size, g8, m1_, m3_, m4_, m5_, m6_, (.pointer (some ⟨w'.heap.size, 0, none⟩)), m8_, (by rw [ha.out]; exact putSel_upk 7 hb_ rfl rfl rfl), R.out.made7 hb_ (hoff 9 (by kernel_rfl)), Q_X1_, Q_X3_, Q_X4_, Q_X5_, Q_X6_, fun _ => rfl, Q_X8_⟩
    refine steps_cons ?_ ?_
    · rintro b a w' ⟨p1, q1, p3, q3, g3, g4, c4, p5, q5, g7, g8, m1_, m3_, m4_, m5_, m6_, m7_, m8_, ha, Q_R, Q_X1_, Q_X3_, Q_X4_, Q_X5_, Q_X6_, Q_X7_, Q_X8_⟩ hb_ hon hoff
      refine ⟨_, rfl, fun K hK => ?_⟩
      replace ha := Aside0.mk ha
      have R := Aside0.mk Q_R
      refine value_ (w1 := w'.alloc (Obj.cells #[.string ⟨#[]⟩, .int .i64 0, .slice none 0 0] 42)) (v := .pointer (some ⟨w'.heap.size, 0, none⟩)) (by rfl) rfl ?_ ?_
      · go_simp
        try rfl
      refine hK.out _ _ ⟨p1, q1, p3, q3, g3, g4, c4, p5, q5, g7, w'.heap.size, m1_, m3_, m4_, m5_, m6_, m7_, (.pointer (some ⟨w'.heap.size, 0, none⟩)), (by rw [ha.out]; exact putSel_upk 8 hb_ rfl rfl rfl), R.out.made8 hb_ (hoff 10 (by kernel_rfl)), Q_X1_, Q_X3_, Q_X4_, Q_X5_, Q_X6_, Q_X7_, fun _ => rfl⟩
    refine steps_cons ?_ ?_
    · rintro b a w' ⟨p1, q1, p3, q3, g3, g4, c4, p5, q5, g7, g8, m1_, m3_, m4_, m5_, m6_, m7_, m8_, ha, Q_R, Q_X1_, Q_X3_, Q_X4_, Q_X5_, Q_X6_, Q_X7_, Q_X8_⟩ hb_ hon hoff
      refine ⟨_, rfl, fun K hK => ?_⟩
      have e5 : a.tmps[5]? = some (m7_) := by rw [ha]; exact putSel_on (e := (7, 5, m7_)) 7 rfl rfl (hon 7 (by kernel_rfl)) rfl
      rw [Q_X7_ (hon 7 (by kernel_rfl))] at e5
      have e25 : a.tmps[25]? = some (m1_) := by rw [ha]; exact putSel_on (e := (1, 25, m1_)) 1 rfl rfl (hon 1 (by kernel_rfl)) rfl
      rw [Q_X1_ (hon 1 (by kernel_rfl))] at e25
      replace ha := Aside0.mk ha
      have R := Aside0.mk Q_R
      have hk7 := R.out.r7 (hon 7 (by kernel_rfl))
      have hb7 := hk7.2
      rw [hb_, if_neg Bool.false_ne_true] at hb7
      have f0 := blk_frozen hb7 0
      have f1 := blk_frozen hb7 1
      have f2 := blk_frozen hb7 2
      have f3 := blk_frozen hb7 3
      have x0 : w'.cell? ⟨g7, 0, none⟩ = some (.string ⟨#[]⟩) := blk_cell hb7 0
      have x1 : w'.cell? ⟨g7, 1, none⟩ = some (.slice none 0 0) := blk_cell hb7 1
      have x2 : w'.cell? ⟨g7, 2, none⟩ = some (.string ⟨#[]⟩) := blk_cell hb7 2
      have x3 : w'.cell? ⟨g7, 3, none⟩ = some (.slice none 0 0) := blk_cell hb7 3
      refine skip_ (w1 := ((((w'.setCell ⟨g7, 0, none⟩ (.string op)).setCell ⟨g7, 1, none⟩ (.slice p1 ins.length q1)).setCell ⟨g7, 2, none⟩ (.string out)).setCell ⟨g7, 3, none⟩ (.slice p3 al.length q3))) (by rfl) rfl ?_ ?_
      · go_simp
        try rfl
      refine hK.out _ _ ⟨p1, q1, p3, q3, g3, g4, c4, p5, q5, g7, g8, m1_, m3_, m4_, m5_, m6_, m7_, m8_, (by rw [ha.out]; exact putSel_none (v := undef) rfl), R.out.put9 (hon 4 (by kernel_rfl)) (hon 7 (by kernel_rfl)) (((((But.refl g7 w').set 0 _).set 1 _).set 2 _).set 3 _) (blk_put (cs := #[.string op, .slice p1 ins.length q1, .string out, .slice none 0 0]) (blk_put (cs := #[.string op, .slice p1 ins.length q1, .string ⟨#[]⟩, .slice none 0 0]) (blk_put (cs := #[.string op, .slice none 0 0, .string ⟨#[]⟩, .slice none 0 0]) (blk_put (cs := #[.string ⟨#[]⟩, .slice none 0 0, .string ⟨#[]⟩, .slice none 0 0]) hb7 0 _ rfl) 1 _ rfl) 2 _ rfl) 3 _ rfl), Q_X1_, Q_X3_, Q_X4_, Q_X5_, Q_X6_, Q_X7_, Q_X8_⟩
    refine steps_cons ?_ ?_
    · rintro b a w' ⟨p1, q1, p3, q3, g3, g4, c4, p5, q5, g7, g8, m1_, m3_, m4_, m5_, m6_, m7_, m8_, ha, Q_R, Q_X1_, Q_X3_, Q_X4_, Q_X5_, Q_X6_, Q_X7_, Q_X8_⟩ hb_ hon hoff
      refine ⟨_, rfl, fun K hK => ?_⟩
      have e6 : a.tmps[6]? = some (m8_) := by rw [ha]; exact putSel_on (e := (8, 6, m8_)) 8 rfl rfl (hon 8 (by kernel_rfl)) rfl
      rw [Q_X8_ (hon 8 (by kernel_rfl))] at e6
      have e30 : a.tmps[30]? = some (m6_) := by rw [ha]; exact putSel_on (e := (6, 30, m6_)) 6 rfl rfl (hon 6 (by kernel_rfl)) rfl
      rw [Q_X6_ (hon 6 (by kernel_rfl))] at e30
      replace ha := Aside0.mk ha
      have R := Aside0.mk Q_R
      have hk8 := R.out.r8 (hon 8 (by kernel_rfl))
      have hb8 := hk8.2
      rw [hb_, if_neg Bool.false_ne_true] at hb8
      have f0 := blk_frozen hb8 0
      have f1 := blk_frozen hb8 1
      have f2 := blk_frozen hb8 2
      have x0 : w'.cell? ⟨g8, 0, none⟩ = some (.string ⟨#[]⟩) := blk_cell hb8 0
      have x1 : w'.cell? ⟨g8, 1, none⟩ = some (.int .i64 0) := blk_cell hb8 1
      have x2 : w'.cell? ⟨g8, 2, none⟩ = some (.slice none 0 0) := blk_cell hb8 2
      refine skip_ (w1 := (((w'.setCell ⟨g8, 0, none⟩ (.string nm)).setCell ⟨g8, 1, none⟩ (.int .i64 kd)).setCell ⟨g8, 2, none⟩ (.slice p5 dims.length q5))) (by rfl) rfl ?_ ?_
      · go_simp
        try rfl
      refine hK.out _ _ ⟨p1, q1, p3, q3, g3, g4, c4, p5, q5, g7, g8, m1_, m3_, m4_, m5_, m6_, m7_, m8_, (by rw [ha.out]; exact putSel_none (v := undef) rfl), R.out.put10 (hon 4 (by kernel_rfl)) (hon 8 (by kernel_rfl)) ((((But.refl g8 w').set 0 _).set 1 _).set 2 _) (blk_put (cs := #[.string nm, .int .i64 kd, .slice none 0 0]) (blk_put (cs := #[.string nm, .int .i64 0, .slice none 0 0]) (blk_put (cs := #[.string ⟨#[]⟩, .int .i64 0, .slice none 0 0]) hb8 0 _ rfl) 1 _ rfl) 2 _ rfl), Q_X1_, Q_X3_, Q_X4_, Q_X5_, Q_X6_, Q_X7_, Q_X8_⟩
    exact steps_nil
  · rintro b a w' hall ⟨p1, q1, p3, q3, g3, g4, c4, p5, q5, g7, g8, m1_, m3_, m4_, m5_, m6_, m7_, m8_, ha, Q_R, Q_X1_, Q_X3_, Q_X4_, Q_X5_, Q_X6_, Q_X7_, Q_X8_⟩
    skip
    have hb0_ := hall 0 (by kernel_rfl)
    have hb1_ := hall 1 (by kernel_rfl)
    have hb2_ := hall 2 (by kernel_rfl)
    have hb3_ := hall 3 (by kernel_rfl)
    have hb4_ := hall 4 (by kernel_rfl)
    have hb5_ := hall 5 (by kernel_rfl)
    have hb6_ := hall 6 (by kernel_rfl)
    have hb7_ := hall 7 (by kernel_rfl)
    have hb8_ := hall 8 (by kernel_rfl)
    have hb9_ := hall 9 (by kernel_rfl)
    have hb10_ := hall 10 (by kernel_rfl)
    subst ha
    obtain rfl := Q_X1_ hb1_
    obtain rfl := Q_X3_ hb3_
    obtain rfl := Q_X4_ hb4_
    obtain rfl := Q_X5_ hb5_
    obtain rfl := Q_X6_ hb6_
    obtain rfl := Q_X7_ hb7_
    obtain rfl := Q_X8_ hb8_
    simp only [putSel, hb0_, hb1_, hb2_, hb3_, hb4_, hb5_, hb6_, hb7_, hb8_, hb9_, hb10_, if_true, Act.put, List.setIfInBounds_toArray, List.set_cons_zero, List.set_cons_succ]
    have HQ := Aside0.mk (Q_R.done hb1_ hb4_ hb7_ hb8_ hb9_ hb10_)
    clear Q_R
    clear hall hb0_ hb1_ hb2_ hb3_ hb4_ hb5_ hb6_ hb7_ hb8_ hb9_ hb10_
    go_wp2_with (first | (fail))
    have n_ := Aside0.mk (HQ.out.step (below_drew1 (Below.refl _ _)))
    clear HQ
    have HQ := n_
    clear n_
    refine start_ (n := 6) (S := fun w' => True) (ds := []) #[false, false, false, false, false, false] (by kernel_rfl) rfl rfl trivial (fun hHeld => ?_)
    refine with_tabW pbLaw.tab4 pbLaw.bits4 (fun HT_ HW_ => ?_)
    generalize w'.drew = wd at HQ hHeld ⊢
    refine inv_at [0, 1, 2, 3, 4, 5] (fun a0_ b a w' => a = putSel a0_ b [(0, 31, .agg #[.string op, .slice A1 ins.length c1, .string out, .slice A3 al.length c3]), (1, 32, .string bN), (2, 33, .agg #[.string nm, .int .i64 kd, .slice A5 dims.length c5]), (3, 34, .string bI), (4, 7, .string bN), (5, 8, .string bI)] ∧ (PbQ w w' op A1 c1 ins out A3 c3 al nm kd A5 c5 dims p1 q1 p3 q3 p5 q5 g7 g8)) HT_.out HW_.out (by kernel_rfl) (by kernel_rfl) ?_ ?_ ?_
    · exact ⟨by simp only [putSel, Bool.false_eq_true, if_false], HQ.out⟩
    · skip
      skip
      refine steps_cons ?_ ?_
      · rintro b a w' ⟨ha, Q_R⟩ hb_ hon hoff
        refine ⟨_, rfl, fun K hK => ?_⟩
        have e2 : a.tmps[2]? = some (.pointer (some ⟨w.heap.size, 0, none⟩)) := by rw [ha]; exact (putSel_off rfl).trans rfl
        replace ha := Aside0.mk ha
        have R := Aside0.mk Q_R
        have s0 : w'.cell? ⟨w.heap.size, 0, none⟩ = some (.string op) := blk_cell R.out.i.b0 0
        have s1 : w'.cell? ⟨w.heap.size, 1, none⟩ = some (.slice A1 ins.length c1) := blk_cell R.out.i.b0 1
        have s2 : w'.cell? ⟨w.heap.size, 2, none⟩ = some (.string out) := blk_cell R.out.i.b0 2
        have s3 : w'.cell? ⟨w.heap.size, 3, none⟩ = some (.slice A3 al.length c3) := blk_cell R.out.i.b0 3
        refine value_ (w1 := w') (v := .agg #[.string op, .slice A1 ins.length c1, .string out, .slice A3 al.length c3]) (by rfl) rfl ?_ ?_
        · go_simp
          (try simp only [i64_w])
          try rfl
        refine hK.out _ _ ⟨(by rw [ha.out]; exact putSel_upk 0 hb_ rfl rfl rfl), Q_R⟩
      refine steps_cons ?_ ?_
      · rintro b a w' ⟨ha, Q_R⟩ hb_ hon hoff
        refine ⟨_, rfl, fun K hK => ?_⟩
        have e31 : a.tmps[31]? = some (.agg #[.string op, .slice A1 ins.length c1, .string out, .slice A3 al.length c3]) := by rw [ha]; exact putSel_on (e := (0, 31, .agg #[.string op, .slice A1 ins.length c1, .string out, .slice A3 al.length c3])) 0 rfl rfl (hon 0 (by kernel_rfl)) rfl
        replace ha := Aside0.mk ha
        have R := Aside0.mk Q_R
        obtain ⟨kn, hkn⟩ := HG.out.putN
        refine call_ 8 #[.agg #[.string op, .slice A1 ins.length c1, .string out, .slice A3 al.length c3]] (by rfl) rfl (by go_simp; try rfl) ?_
        refine (pbnode_PutNode.calls kn op A1 c1 ins out A3 c3 al bN w' (Kd.F_now R.out.i.f1) H1.out (Kd.F_now R.out.i.f3) H3.out hkn).mono ?_
        rintro e w1 ⟨rfl, hB⟩
        refine ⟨_, rfl, ?_⟩
        refine hK.out _ _ ⟨(by rw [ha.out]; exact putSel_upk 1 hb_ rfl rfl rfl), R.out.step hB⟩
      refine steps_cons ?_ ?_
      · rintro b a w' ⟨ha, Q_R⟩ hb_ hon hoff
        refine ⟨_, rfl, fun K hK => ?_⟩
        have e3 : a.tmps[3]? = some (.pointer (some ⟨w.heap.size + 1, 0, none⟩)) := by rw [ha]; exact (putSel_off rfl).trans rfl
        replace ha := Aside0.mk ha
        have R := Aside0.mk Q_R
        have s0 : w'.cell? ⟨w.heap.size + 1, 0, none⟩ = some (.string nm) := blk_cell R.out.i.b1 0
        have s1 : w'.cell? ⟨w.heap.size + 1, 1, none⟩ = some (.int .i64 kd) := blk_cell R.out.i.b1 1
        have s2 : w'.cell? ⟨w.heap.size + 1, 2, none⟩ = some (.slice A5 dims.length c5) := blk_cell R.out.i.b1 2
        refine value_ (w1 := w') (v := .agg #[.string nm, .int .i64 kd, .slice A5 dims.length c5]) (by rfl) rfl ?_ ?_
        · go_simp
          (try simp only [i64_w])
          try rfl
        refine hK.out _ _ ⟨(by rw [ha.out]; exact putSel_upk 2 hb_ rfl rfl rfl), Q_R⟩
      refine steps_cons ?_ ?_
      · rintro b a w' ⟨ha, Q_R⟩ hb_ hon hoff
        refine ⟨_, rfl, fun K hK => ?_⟩
        have e33 : a.tmps[33]? = some (.agg #[.string nm, .int .i64 kd, .slice A5 dims.length c5]) := by rw [ha]; exact putSel_on (e := (2, 33, .agg #[.string nm, .int .i64 kd, .slice A5 dims.length c5])) 2 rfl rfl (hon 2 (by kernel_rfl)) rfl
        replace ha := Aside0.mk ha
        have R := Aside0.mk Q_R
        obtain ⟨ki, hki⟩ := HG.out.putI
        refine call_ 9 #[.agg #[.string nm, .int .i64 kd, .slice A5 dims.length c5]] (by rfl) rfl (by go_simp; try rfl) ?_
        refine (pbnode_PutInfo.calls ki nm kd A5 c5 dims bI w' (Kd.F_now R.out.i.f5) H5.out hki).mono ?_
        rintro e w1 ⟨rfl, hB⟩
        refine ⟨_, rfl, ?_⟩
        refine hK.out _ _ ⟨(by rw [ha.out]; exact putSel_upk 3 hb_ rfl rfl rfl), R.out.step hB⟩
      refine steps_cons ?_ ?_
      · rintro b a w' ⟨ha, Q_R⟩ hb_ hon hoff
        refine ⟨_, rfl, fun K hK => ?_⟩
        have e32 : a.tmps[32]? = some (.string bN) := by rw [ha]; exact putSel_on (e := (1, 32, .string bN)) 1 rfl rfl (hon 1 (by kernel_rfl)) rfl
        replace ha := Aside0.mk ha
        have R := Aside0.mk Q_R
        refine value_ (w1 := w') (v := .string bN) (by rfl) rfl ?_ ?_
        · go_simp
          (try simp only [i64_w])
          try rfl
        refine hK.out _ _ ⟨(by rw [ha.out]; exact putSel_upk 4 hb_ rfl rfl rfl), Q_R⟩
      refine steps_cons ?_ ?_
      · rintro b a w' ⟨ha, Q_R⟩ hb_ hon hoff
        refine ⟨_, rfl, fun K hK => ?_⟩
        have e34 : a.tmps[34]? = some (.string bI) := by rw [ha]; exact putSel_on (e := (3, 34, .string bI)) 3 rfl rfl (hon 3 (by kernel_rfl)) rfl
        replace ha := Aside0.mk ha
        have R := Aside0.mk Q_R
        refine value_ (w1 := w') (v := .string bI) (by rfl) rfl ?_ ?_
        · go_simp
          (try simp only [i64_w])
          try rfl
        refine hK.out _ _ ⟨(by rw [ha.out]; exact putSel_upk 5 hb_ rfl rfl rfl), Q_R⟩
      exact steps_nil
    · rintro b a w' hall ⟨ha, Q_R⟩
      skip
      have hb0_ := hall 0 (by kernel_rfl)
      have hb1_ := hall 1 (by kernel_rfl)
      have hb2_ := hall 2 (by kernel_rfl)
      have hb3_ := hall 3 (by kernel_rfl)
      have hb4_ := hall 4 (by kernel_rfl)
      have hb5_ := hall 5 (by kernel_rfl)
      subst ha
      simp only [putSel, hb0_, hb1_, hb2_, hb3_, hb4_, hb5_, if_true, Act.put, List.setIfInBounds_toArray, List.set_cons_zero, List.set_cons_succ]
      have HQ := Aside0.mk Q_R
      clear Q_R
      clear hall hb0_ hb1_ hb2_ hb3_ hb4_ hb5_
      have s0 : w'.cell? ⟨g7, 0, none⟩ = some (.string op) := blk_cell HQ.out.b7 0
      have s1 : w'.cell? ⟨g7, 1, none⟩ = some (.slice p1 ins.length q1) := blk_cell HQ.out.b7 1
      have s2 : w'.cell? ⟨g7, 2, none⟩ = some (.string out) := blk_cell HQ.out.b7 2
      have s3 : w'.cell? ⟨g7, 3, none⟩ = some (.slice p3 al.length q3) := blk_cell HQ.out.b7 3
      go_wp2_with (first | (fail))
      clear s0 s1 s2 s3
      refine (pbRefN HQ.out HG.out.refN).mono ?_
      rintro en w2 ⟨rfl, hQ⟩
      replace HQ := Aside0.mk hQ
      clear hQ
      have s0 : w2.cell? ⟨g8, 0, none⟩ = some (.string nm) := blk_cell HQ.out.b8 0
      have s1 : w2.cell? ⟨g8, 1, none⟩ = some (.int .i64 kd) := blk_cell HQ.out.b8 1
      have s2 : w2.cell? ⟨g8, 2, none⟩ = some (.slice p5 dims.length q5) := blk_cell HQ.out.b8 2
      go_wp2_with (first | (fail))
      clear s0 s1 s2
      refine (pbRefI HQ.out HG.out.refI).mono ?_
      rintro en w3 ⟨rfl, hQ⟩
      replace HQ := Aside0.mk hQ
      clear hQ
      have s1 : w3.cell? ⟨w.heap.size, 1, none⟩ = some (.slice A1 ins.length c1) := blk_cell HQ.out.i.b0 1
      have t3 : w3.cell? ⟨g7, 3, none⟩ = some (.slice p3 al.length q3) := blk_cell HQ.out.b7 3
      go_wp2_with (first | (fail))
      clear s1 t3
      go_loopg [9, 52] al.length (fun kq v9 v52 w' => ∃ (i : Nat), v9 = .bool (mayI (decide (ins.length ≤ 64)) al i) ∧ v52 = .int .i64 i ∧ Aside0 (i + kq = al.length) ∧ i ≤ al.length ∧ Aside0 (PbQ w w' op A1 c1 ins out A3 c3 al nm kd A5 c5 dims p1 q1 p3 q3 p5 q5 g7 g8))
      case atStart => exact ⟨0, congrArg Value.bool (decide_eq_decide.2 (by omega)), rfl, ⟨by omega⟩, Nat.zero_le _, HQ⟩
      case round =>
      clear HQ
      obtain ⟨i, rfl, rfl, HK, hi, HQ⟩ := hrel
      by_cases hlt : i < al.length
      · have hlt' : decide ((i : Int) < (al.length : Int)) = true := by simpa using hlt
        obtain ⟨kk, rfl⟩ : ∃ m, gk = m + 1 := ⟨gk - 1, by have := HK.out; omega⟩
        have p101 : 0 ≤ (i : Int) := Int.natCast_nonneg i
        have q101 : (i : Int) < (al.length : Int) := by omega
        obtain ⟨ad101, Ax, cx, e101, x0, x1, x2, x3, _, _⟩ := at_T50 (Kd.F_now HQ.out.f3) (i : Int) p101 q101
        cases e101
        have hr : rd_T50 (al.map toA) (i : Int) = toA al[i] := by simp [rd_T50, hlt]
        rw [hr] at x0 x1 x2 x3
        rw [Int.toNat_natCast] at x0 x1 x2 x3
        have HNm := Aside0.mk (HG.out.names al[i] (List.getElem_mem hlt))
        have HMs := Aside0.mk (show mayI (decide (ins.length ≤ 64)) al (i + 1) = (mayI (decide (ins.length ≤ 64)) al i && (nameR al[i].f0 && (idxS ((al.map toA).map (fun x => x.f0)) al[i].f0 0 == (i : Int)))) by
          have e : al.getD i z65 = al[i] := by simp [hlt]
          rw [mayI, e])
        have Hw : Aside0 (wrap64 ((i : Int) + 1) = (i : Int) + 1) := ⟨by have := HG.out.len; exact wrap64_id (by omega) (by omega)⟩
        clear hr
        generalize al[i] = x at HNm HMs x0 x1 x2 x3
        simp only [toA] at x0 x1 x2 x3
        generalize mayI (decide (ins.length ≤ 64)) al i = m at HMs ⊢
        have n0_ := Aside0.mk (HQ.out.step (below_alloc (Below.refl wr.heap.size wr) (Obj.cells #[.string x.f0, .bool x.f1, .int .i64 x.f2, .slice Ax x.f3.length cx] 50)))
        have BKx := Aside0.mk (blk_new wr (Obj.cells #[.string x.f0, .bool x.f1, .int .i64 x.f2, .slice Ax x.f3.length cx] 50))
        clear HQ
        have HQ := n0_
        clear n0_
        replace p101 := eq_true p101
        replace q101 := eq_true q101
        cases m with
        | false =>
          go_wp2_with (first | (fail))
          go_roundg kk
          case measure => have := HK.out; omega
          case rel => exact ⟨i + 1, by rw [HMs.out]; rfl, by rw [Hw.out]; rfl, ⟨by have := HK.out; omega⟩, by omega, HQ⟩
        | true =>
          go_wp2_with (first | (fail))
          refine (agateref07_Name_s.calls x.f0 _ _ HNm.out).mono ?_
          rintro en u ⟨rfl, n, rfl⟩
          have n0_ := Aside0.mk (HQ.out.step (pw_below_drewN (Below.refl _ _) n))
          have n1_ := Aside0.mk (blk_drewN BKx.out n)
          clear HQ BKx
          have HQ := n0_
          have BKx := n1_
          clear n0_ n1_
          generalize (wr.alloc (Obj.cells #[.string x.f0, .bool x.f1, .int .i64 x.f2, .slice Ax x.f3.length cx] 50)).drewN n = u at HQ BKx ⊢
          have y0 : u.cell? ⟨wr.heap.size, 0, none⟩ = some (.string x.f0) := blk_cell BKx.out 0
          have t3 : u.cell? ⟨g7, 3, none⟩ = some (.slice (some ad101) al.length q3) := blk_cell HQ.out.b7 3
          generalize nameR x.f0 = nb at HMs ⊢
          cases nb with
          | false =>
            go_wp2_with (first | (fail))
            go_roundg kk
            case measure => have := HK.out; omega
            case rel => exact ⟨i + 1, by rw [HMs.out]; rfl, by rw [Hw.out]; rfl, ⟨by have := HK.out; omega⟩, by omega, HQ⟩
          | true =>
            go_wp2_with (first | (fail))
            refine (pbFind HQ.out x.f0 (HG.out.find x.f0)).mono ?_
            rintro en u2 ⟨rfl, hQ⟩
            clear HQ
            have HQ := Aside0.mk hQ
            clear hQ
            generalize idxS ((al.map toA).map (fun x => x.f0)) x.f0 0 = r at HMs ⊢
            go_wp2_with (first | (fail))
            go_roundg kk
            case measure => have := HK.out; omega
            case rel => exact ⟨i + 1, by rw [HMs.out]; simp, by rw [Hw.out]; rfl, ⟨by have := HK.out; omega⟩, by omega, HQ⟩
      · have hlt' : decide ((i : Int) < (al.length : Int)) = false := by simpa using hlt
        obtain rfl : i = al.length := by omega
        clear hlt HK hi
        cases hm : mayI (decide (ins.length ≤ 64)) al al.length with
        | false =>
          have s0_ : wr.cell? ⟨w.heap.size + 1, 0, none⟩ = some (.string nm) := blk_cell HQ.out.i.b1 0
          go_wp2_with (first | (fail))
          refine (pbName HQ.out nm HG.out.name).mono ?_
          rintro en u5 ⟨rfl, hQ⟩
          clear HQ s0_
          have HQ := Aside0.mk hQ
          clear hQ
          cases hnm : nameR nm with
          | false =>
            go_wp2_with (first | (fail))
            refine (pbAwake HQ.out HG.out.awake).mono ?_
            rintro en u9 ⟨rfl, hQ⟩
            have HB := Aside0.mk hQ.i.b
            clear hQ HQ
            go_wp2_with (first | (fail))
            go_ret
            exact ⟨rfl, HB.out⟩
          | true =>
            have t1_ : u5.cell? ⟨g8, 1, none⟩ = some (.int .i64 kd) := blk_cell HQ.out.b8 1
            go_wp2_with (first | (fail))
            refine (pbSize HQ.out HG.out.size).mono ?_
            rintro en u6 ⟨rfl, hQ⟩
            clear HQ t1_
            have HQ := Aside0.mk hQ
            clear hQ
            by_cases hk : 0 < sizeK kd
            · have hk' : decide (0 < sizeK kd) = true := decide_eq_true hk
              obtain ⟨hri, hsm⟩ := HG.out.readI hnm hk
              have HRI := Aside0.mk hri
              have HSM := Aside0.mk hsm
              clear hri hsm
              go_wp2_with (first | (fail))
              refine (pbnode_ReadInfo.calls bI nm kd dims 0 u6 HRI.out).mono ?_
              rintro en u7 ⟨v5, rfl, hV, hB⟩
              obtain ⟨r5, s5, rfl, k5, f5⟩ := hV
              have n0_ := Aside0.mk (HQ.out.step hB)
              have K5 := Aside0.mk k5
              have F5 := Aside0.mk f5
              clear HQ hB k5 f5
              have HQ := n0_
              clear n0_
              go_wp2_with (first | (fail))
              have n0_ := Aside0.mk (HQ.out.step (below_drew1 (below_alloc (Below.refl u7.heap.size u7) (Obj.cells #[.string nm, .int .i64 kd, .slice r5 dims.length s5] 29))))
              have HO := Aside0.mk (PbJ.mk K5.out (F_below (Kd.F_mono F5.out (fun _ _ => trivial)) (below_drew1 (below_alloc (Below.refl u7.heap.size u7) (Obj.cells #[.string nm, .int .i64 kd, .slice r5 dims.length s5] 29)))) (blk_drew (blk_new u7 (Obj.cells #[.string nm, .int .i64 kd, .slice r5 dims.length s5] 29))))
              clear HQ K5 F5
              have HQ := n0_
              clear n0_
              generalize u7.heap.size = g14 at HO ⊢
              generalize u7.alloc (Obj.cells #[.string nm, .int .i64 kd, .slice r5 dims.length s5] 29) = w19 at HQ HO ⊢
              refine start_ (n := 12) (S := fun w' => True) (ds := []) #[false, false, false, false, false, false, false, false, false, false, false, false] (by kernel_rfl) rfl rfl trivial (fun hHeld => ?_)
              refine with_tabW pbLaw.tab19 pbLaw.bits19 (fun HT_ HW_ => ?_)
              generalize w19.drew = wf at HQ HO hHeld ⊢
              refine inv_at [0, 1, 2, 3, 4, 5, 6, 7, 8, 9, 10, 11] (fun a0_ b a w' => ∃ (g3 : Nat) (g4 : Nat) (t4 : Nat) (x5 : Option Addr) (y5 : Nat) (m4_ : Value) (m5_ : Value) (m6_ : Value) (m7_ : Value), a = putSel a0_ b [(0, 102, .int .i64 0), (1, 103, .bool false), (2, 104, .bool false), (3, 105, .agg #[.string nm, .int .i64 kd, .slice r5 dims.length s5]), (4, 106, m4_), (5, 107, m5_), (6, 108, m6_), (7, 109, m7_), (8, 110, .agg #[.string nm, .int .i64 kd, .slice p5 dims.length q5]), (9, 111, .bool true), (10, 112, .bool false), (11, 113, .bool false)] ∧ (PbQ w w' op A1 c1 ins out A3 c3 al nm kd A5 c5 dims p1 q1 p3 q3 p5 q5 g7 g8) ∧ (PbJ w' nm kd dims r5 s5 g14) ∧ (b 4 = true → w'.heap[g3]? = some (oI nm kd r5 dims.length s5)) ∧ (b 5 = true → PbU w' nm kd dims g4 x5 y5) ∧ (b 4 = true → (m4_ : Value) = .slice (some ⟨g3, 0, none⟩) 1 1) ∧ (b 5 = true → (m5_ : Value) = .slice (some ⟨g4, 0, none⟩) 1 t4) ∧ (b 6 = true → (m6_ : Value) = .pointer (some ⟨g4, 0, none⟩)) ∧ (b 7 = true → (m7_ : Value) = .agg #[.string nm, .int .i64 kd, .slice x5 dims.length y5])) HT_.out HW_.out (by kernel_rfl) (by kernel_rfl) ?_ ?_ ?_
              · exact ⟨0, 0, 0, none, 0, .bool false, .bool false, .bool false, .bool false, by simp only [putSel, Bool.false_eq_true, if_false], HQ.out, HO.out, fun h_ => absurd h_ (by decide), fun h_ => absurd h_ (by decide), fun h_ => absurd h_ (by decide), fun h_ => absurd h_ (by decide), fun h_ => absurd h_ (by decide), fun h_ => absurd h_ (by decide)⟩
              · skip
                skip
                refine steps_cons ?_ ?_
                · rintro b a w' ⟨g3, g4, t4, x5, y5, m4_, m5_, m6_, m7_, ha, Q_R, Q_O, Q_B, Q_T, Q_X4_, Q_X5_, Q_X6_, Q_X7_⟩ hb_ hon hoff
                  refine ⟨_, rfl, fun K hK => ?_⟩
                  have e15 : a.tmps[15]? = some (.int .i64 0) := by rw [ha]; exact (putSel_off rfl).trans rfl
                  replace ha := Aside0.mk ha
                  have R := Aside0.mk Q_R
                  have O := Aside0.mk Q_O
                  refine value_ (w1 := w') (v := .int .i64 0) (by rfl) rfl ?_ ?_
                  · go_simp
                    (try simp only [i64_w])
                    try rfl
                  refine hK.out _ _ ⟨g3, g4, t4, x5, y5, m4_, m5_, m6_, m7_, (by rw [ha.out]; exact putSel_upk 0 hb_ rfl rfl rfl), Q_R, Q_O, fun h0_ => absurd ((hoff 4 (by kernel_rfl)).symm.trans h0_) (by decide), fun h0_ => absurd ((hoff 5 (by kernel_rfl)).symm.trans h0_) (by decide), fun h0_ => absurd ((hoff 4 (by kernel_rfl)).symm.trans h0_) (by decide), fun h0_ => absurd ((hoff 5 (by kernel_rfl)).symm.trans h0_) (by decide), fun h0_ => absurd ((hoff 6 (by kernel_rfl)).symm.trans h0_) (by decide), fun h0_ => absurd ((hoff 7 (by kernel_rfl)).symm.trans h0_) (by decide)⟩
                refine steps_cons ?_ ?_
                · rintro b a w' ⟨g3, g4, t4, x5, y5, m4_, m5_, m6_, m7_, ha, Q_R, Q_O, Q_B, Q_T, Q_X4_, Q_X5_, Q_X6_, Q_X7_⟩ hb_ hon hoff
                  refine ⟨_, rfl, fun K hK => ?_⟩
                  have e102 : a.tmps[102]? = some (.int .i64 0) := by rw [ha]; exact putSel_on (e := (0, 102, .int .i64 0)) 0 rfl rfl (hon 0 (by kernel_rfl)) rfl
                  replace ha := Aside0.mk ha
                  have R := Aside0.mk Q_R
                  have O := Aside0.mk Q_O
                  refine value_ (w1 := w') (v := .bool false) (by rfl) rfl ?_ ?_
                  · go_simp
                    (try simp only [i64_w])
                    try rfl
                  refine hK.out _ _ ⟨g3, g4, t4, x5, y5, m4_, m5_, m6_, m7_, (by rw [ha.out]; exact putSel_upk 1 hb_ rfl rfl rfl), Q_R, Q_O, fun h0_ => absurd ((hoff 4 (by kernel_rfl)).symm.trans h0_) (by decide), fun h0_ => absurd ((hoff 5 (by kernel_rfl)).symm.trans h0_) (by decide), fun h0_ => absurd ((hoff 4 (by kernel_rfl)).symm.trans h0_) (by decide), fun h0_ => absurd ((hoff 5 (by kernel_rfl)).symm.trans h0_) (by decide), fun h0_ => absurd ((hoff 6 (by kernel_rfl)).symm.trans h0_) (by decide), fun h0_ => absurd ((hoff 7 (by kernel_rfl)).symm.trans h0_) (by decide)⟩
                refine steps_cons ?_ ?_
                · rintro b a w' ⟨g3, g4, t4, x5, y5, m4_, m5_, m6_, m7_, ha, Q_R, Q_O, Q_B, Q_T, Q_X4_, Q_X5_, Q_X6_, Q_X7_⟩ hb_ hon hoff
                  refine ⟨_, rfl, fun K hK => ?_⟩
                  have e103 : a.tmps[103]? = some (.bool false) := by rw [ha]; exact putSel_on (e := (1, 103, .bool false)) 1 rfl rfl (hon 1 (by kernel_rfl)) rfl
                  replace ha := Aside0.mk ha
                  have R := Aside0.mk Q_R
                  have O := Aside0.mk Q_O
                  refine value_ (w1 := w') (v := .bool false) (by rfl) rfl ?_ ?_
                  · go_simp
                    (try simp only [i64_w])
                    try rfl
                  refine hK.out _ _ ⟨g3, g4, t4, x5, y5, m4_, m5_, m6_, m7_, (by rw [ha.out]; exact putSel_upk 2 hb_ rfl rfl rfl), Q_R, Q_O, fun h0_ => absurd ((hoff 4 (by kernel_rfl)).symm.trans h0_) (by decide), fun h0_ => absurd ((hoff 5 (by kernel_rfl)).symm.trans h0_) (by decide), fun h0_ => absurd ((hoff 4 (by kernel_rfl)).symm.trans h0_) (by decide), fun h0_ => absurd ((hoff 5 (by kernel_rfl)).symm.trans h0_) (by decide), fun h0_ => absurd ((hoff 6 (by kernel_rfl)).symm.trans h0_) (by decide), fun h0_ => absurd ((hoff 7 (by kernel_rfl)).symm.trans h0_) (by decide)⟩
                refine steps_cons ?_ ?_
                · rintro b a w' ⟨g3, g4, t4, x5, y5, m4_, m5_, m6_, m7_, ha, Q_R, Q_O, Q_B, Q_T, Q_X4_, Q_X5_, Q_X6_, Q_X7_⟩ hb_ hon hoff
                  refine ⟨_, rfl, fun K hK => ?_⟩
                  have e14 : a.tmps[14]? = some (.pointer (some ⟨g14, 0, none⟩)) := by rw [ha]; exact (putSel_off rfl).trans rfl
                  have e104 : a.tmps[104]? = some (.bool false) := by rw [ha]; exact putSel_on (e := (2, 104, .bool false)) 2 rfl rfl (hon 2 (by kernel_rfl)) rfl
                  replace ha := Aside0.mk ha
                  have R := Aside0.mk Q_R
                  have O := Aside0.mk Q_O
                  have s0_ : w'.cell? ⟨g14, 0, none⟩ = some (.string nm) := blk_cell O.out.b 0
                  have s1_ : w'.cell? ⟨g14, 1, none⟩ = some (.int .i64 kd) := blk_cell O.out.b 1
                  have s2_ : w'.cell? ⟨g14, 2, none⟩ = some (.slice r5 dims.length s5) := blk_cell O.out.b 2
                  refine value_ (w1 := w') (v := .agg #[.string nm, .int .i64 kd, .slice r5 dims.length s5]) (wanted_on rfl rfl rfl (e104.trans (by first | rfl | (simp [*]; done)))) rfl ?_ ?_
                  · go_simp
                    (try simp only [i64_w])
                    try rfl
                  refine hK.out _ _ ⟨g3, g4, t4, x5, y5, m4_, m5_, m6_, m7_, (by rw [ha.out]; exact putSel_upk 3 hb_ rfl rfl rfl), Q_R, Q_O, fun h0_ => absurd ((hoff 4 (by kernel_rfl)).symm.trans h0_) (by decide), fun h0_ => absurd ((hoff 5 (by kernel_rfl)).symm.trans h0_) (by decide), fun h0_ => absurd ((hoff 4 (by kernel_rfl)).symm.trans h0_) (by decide), fun h0_ => absurd ((hoff 5 (by kernel_rfl)).symm.trans h0_) (by decide), fun h0_ => absurd ((hoff 6 (by kernel_rfl)).symm.trans h0_) (by decide), fun h0_ => absurd ((hoff 7 (by kernel_rfl)).symm.trans h0_) (by decide)⟩
                refine steps_cons ?_ ?_
                · rintro b a w' ⟨g3, g4, t4, x5, y5, m4_, m5_, m6_, m7_, ha, Q_R, Q_O, Q_B, Q_T, Q_X4_, Q_X5_, Q_X6_, Q_X7_⟩ hb_ hon hoff
                  refine ⟨_, rfl, fun K hK => ?_⟩
                  have e105 : a.tmps[105]? = some (.agg #[.string nm, .int .i64 kd, .slice r5 dims.length s5]) := by rw [ha]; exact putSel_on (e := (3, 105, .agg #[.string nm, .int .i64 kd, .slice r5 dims.length s5])) 3 rfl rfl (hon 3 (by kernel_rfl)) rfl
                  have e104 : a.tmps[104]? = some (.bool false) := by rw [ha]; exact putSel_on (e := (2, 104, .bool false)) 2 rfl rfl (hon 2 (by kernel_rfl)) rfl
                  replace ha := Aside0.mk ha
                  have R := Aside0.mk Q_R
                  have O := Aside0.mk Q_O
                  refine value_ (w1 := w'.alloc (oI nm kd r5 dims.length s5)) (v := .slice (some ⟨w'.heap.size, 0, none⟩) 1 1) (wanted_on rfl rfl rfl (e104.trans rfl)) rfl ?_ ?_
                  · go_simp
                    try rfl
                  refine hK.out _ _ ⟨w'.heap.size, g4, t4, x5, y5, (.slice (some ⟨w'.heap.size, 0, none⟩) 1 1), m5_, m6_, m7_, (by rw [ha.out]; exact putSel_upk 4 hb_ rfl rfl rfl), R.out.step (below_alloc (Below.refl w'.heap.size w') (oI nm kd r5 dims.length s5)), O.out.step (below_alloc (Below.refl w'.heap.size w') (oI nm kd r5 dims.length s5)), fun _ => blk_new w' _, fun h0_ => absurd ((hoff 5 (by kernel_rfl)).symm.trans h0_) (by decide), fun _ => rfl, fun h0_ => absurd ((hoff 5 (by kernel_rfl)).symm.trans h0_) (by decide), fun h0_ => absurd ((hoff 6 (by kernel_rfl)).symm.trans h0_) (by decide), fun h0_ => absurd ((hoff 7 (by kernel_rfl)).symm.trans h0_) (by decide)⟩
                refine steps_cons ?_ ?_
                · rintro b a w' ⟨g3, g4, t4, x5, y5, m4_, m5_, m6_, m7_, ha, Q_R, Q_O, Q_B, Q_T, Q_X4_, Q_X5_, Q_X6_, Q_X7_⟩ hb_ hon hoff
                  refine ⟨_, rfl, fun K hK => ?_⟩
                  have e106 : a.tmps[106]? = some (m4_) := by rw [ha]; exact putSel_on (e := (4, 106, m4_)) 4 rfl rfl (hon 4 (by kernel_rfl)) rfl
                  rw [Q_X4_ (hon 4 (by kernel_rfl))] at e106
                  have e104 : a.tmps[104]? = some (.bool false) := by rw [ha]; exact putSel_on (e := (2, 104, .bool false)) 2 rfl rfl (hon 2 (by kernel_rfl)) rfl
                  replace ha := Aside0.mk ha
                  have R := Aside0.mk Q_R
                  have O := Aside0.mk Q_O
                  have B := Aside0.mk (Q_B (hon 4 (by kernel_rfl)))
                  refine call_ 7 #[.slice (some ⟨g3, 0, none⟩) 1 1] (wanted_on rfl rfl rfl (e104.trans rfl)) rfl (by go_simp; try rfl) ?_
                  refine (pbInfos O.out B.out HG.out.info).mono ?_
                  rintro e w1 ⟨g4, t4, x5, y5, rfl, hT, hB⟩
                  refine ⟨_, rfl, ?_⟩
                  refine hK.out _ _ ⟨g3, g4, t4, x5, y5, m4_, (.slice (some ⟨g4, 0, none⟩) 1 t4), m6_, m7_, (by rw [ha.out]; exact putSel_upk 5 hb_ rfl rfl rfl), R.out.step hB, O.out.step hB, fun _ => blk_below B.out hB, fun _ => hT, Q_X4_, fun _ => rfl, fun h0_ => absurd ((hoff 6 (by kernel_rfl)).symm.trans h0_) (by decide), fun h0_ => absurd ((hoff 7 (by kernel_rfl)).symm.trans h0_) (by decide)⟩
                refine steps_cons ?_ ?_
                · rintro b a w' ⟨g3, g4, t4, x5, y5, m4_, m5_, m6_, m7_, ha, Q_R, Q_O, Q_B, Q_T, Q_X4_, Q_X5_, Q_X6_, Q_X7_⟩ hb_ hon hoff
                  refine ⟨_, rfl, fun K hK => ?_⟩
                  have e107 : a.tmps[107]? = some (m5_) := by rw [ha]; exact putSel_on (e := (5, 107, m5_)) 5 rfl rfl (hon 5 (by kernel_rfl)) rfl
                  rw [Q_X5_ (hon 5 (by kernel_rfl))] at e107
                  have e104 : a.tmps[104]? = some (.bool false) := by rw [ha]; exact putSel_on (e := (2, 104, .bool false)) 2 rfl rfl (hon 2 (by kernel_rfl)) rfl
                  replace ha := Aside0.mk ha
                  have R := Aside0.mk Q_R
                  have O := Aside0.mk Q_O
                  have B := Aside0.mk (Q_B (hon 4 (by kernel_rfl)))
                  have T := Aside0.mk (Q_T (hon 5 (by kernel_rfl)))
                  refine value_ (w1 := w') (v := .pointer (some ⟨g4, 0, none⟩)) (wanted_on rfl rfl rfl (e104.trans (by first | rfl | (simp [*]; done)))) rfl ?_ ?_
                  · go_simp
                    (try simp only [i64_w])
                    try rfl
                  refine hK.out _ _ ⟨g3, g4, t4, x5, y5, m4_, m5_, (.pointer (some ⟨g4, 0, none⟩)), m7_, (by rw [ha.out]; exact putSel_upk 6 hb_ rfl rfl rfl), Q_R, Q_O, Q_B, Q_T, Q_X4_, Q_X5_, fun _ => rfl, fun h0_ => absurd ((hoff 7 (by kernel_rfl)).symm.trans h0_) (by decide)⟩
                refine steps_cons ?_ ?_
                · rintro b a w' ⟨g3, g4, t4, x5, y5, m4_, m5_, m6_, m7_, ha, Q_R, Q_O, Q_B, Q_T, Q_X4_, Q_X5_, Q_X6_, Q_X7_⟩ hb_ hon hoff
                  refine ⟨_, rfl, fun K hK => ?_⟩
                  have e108 : a.tmps[108]? = some (m6_) := by rw [ha]; exact putSel_on (e := (6, 108, m6_)) 6 rfl rfl (hon 6 (by kernel_rfl)) rfl
                  rw [Q_X6_ (hon 6 (by kernel_rfl))] at e108
                  have e104 : a.tmps[104]? = some (.bool false) := by rw [ha]; exact putSel_on (e := (2, 104, .bool false)) 2 rfl rfl (hon 2 (by kernel_rfl)) rfl
                  replace ha := Aside0.mk ha
                  have R := Aside0.mk Q_R
                  have O := Aside0.mk Q_O
                  have B := Aside0.mk (Q_B (hon 4 (by kernel_rfl)))
                  have T := Aside0.mk (Q_T (hon 5 (by kernel_rfl)))
                  have s0_ : w'.cell? ⟨g4, 0, none⟩ = some (.string nm) := T.out.c0
                  have s1_ : w'.cell? ⟨g4, 1, none⟩ = some (.int .i64 kd) := T.out.c1
                  have s2_ : w'.cell? ⟨g4, 2, none⟩ = some (.slice x5 dims.length y5) := T.out.c2
                  refine value_ (w1 := w') (v := .agg #[.string nm, .int .i64 kd, .slice x5 dims.length y5]) (wanted_on rfl rfl rfl (e104.trans (by first | rfl | (simp [*]; done)))) rfl ?_ ?_
                  · go_simp
                    (try simp only [i64_w])
                    try rfl
                  refine hK.out _ _ ⟨g3, g4, t4, x5, y5, m4_, m5_, m6_, (.agg #[.string nm, .int .i64 kd, .slice x5 dims.length y5]), (by rw [ha.out]; exact putSel_upk 7 hb_ rfl rfl rfl), Q_R, Q_O, Q_B, Q_T, Q_X4_, Q_X5_, Q_X6_, fun _ => rfl⟩
                refine steps_cons ?_ ?_
                · rintro b a w' ⟨g3, g4, t4, x5, y5, m4_, m5_, m6_, m7_, ha, Q_R, Q_O, Q_B, Q_T, Q_X4_, Q_X5_, Q_X6_, Q_X7_⟩ hb_ hon hoff
                  refine ⟨_, rfl, fun K hK => ?_⟩
                  have e6 : a.tmps[6]? = some (.pointer (some ⟨g8, 0, none⟩)) := by rw [ha]; exact (putSel_off rfl).trans rfl
                  have e104 : a.tmps[104]? = some (.bool false) := by rw [ha]; exact putSel_on (e := (2, 104, .bool false)) 2 rfl rfl (hon 2 (by kernel_rfl)) rfl
                  replace ha := Aside0.mk ha
                  have R := Aside0.mk Q_R
                  have O := Aside0.mk Q_O
                  have s0_ : w'.cell? ⟨g8, 0, none⟩ = some (.string nm) := blk_cell R.out.b8 0
                  have s1_ : w'.cell? ⟨g8, 1, none⟩ = some (.int .i64 kd) := blk_cell R.out.b8 1
                  have s2_ : w'.cell? ⟨g8, 2, none⟩ = some (.slice p5 dims.length q5) := blk_cell R.out.b8 2
                  refine value_ (w1 := w') (v := .agg #[.string nm, .int .i64 kd, .slice p5 dims.length q5]) (wanted_on rfl rfl rfl (e104.trans (by first | rfl | (simp [*]; done)))) rfl ?_ ?_
                  · go_simp
                    (try simp only [i64_w])
                    try rfl
                  refine hK.out _ _ ⟨g3, g4, t4, x5, y5, m4_, m5_, m6_, m7_, (by rw [ha.out]; exact putSel_upk 8 hb_ rfl rfl rfl), Q_R, Q_O, Q_B, Q_T, Q_X4_, Q_X5_, Q_X6_, Q_X7_⟩
                refine steps_cons ?_ ?_
                · rintro b a w' ⟨g3, g4, t4, x5, y5, m4_, m5_, m6_, m7_, ha, Q_R, Q_O, Q_B, Q_T, Q_X4_, Q_X5_, Q_X6_, Q_X7_⟩ hb_ hon hoff
                  refine ⟨_, rfl, fun K hK => ?_⟩
                  have e109 : a.tmps[109]? = some (m7_) := by rw [ha]; exact putSel_on (e := (7, 109, m7_)) 7 rfl rfl (hon 7 (by kernel_rfl)) rfl
                  rw [Q_X7_ (hon 7 (by kernel_rfl))] at e109
                  have e110 : a.tmps[110]? = some (.agg #[.string nm, .int .i64 kd, .slice p5 dims.length q5]) := by rw [ha]; exact putSel_on (e := (8, 110, .agg #[.string nm, .int .i64 kd, .slice p5 dims.length q5])) 8 rfl rfl (hon 8 (by kernel_rfl)) rfl
                  have e104 : a.tmps[104]? = some (.bool false) := by rw [ha]; exact putSel_on (e := (2, 104, .bool false)) 2 rfl rfl (hon 2 (by kernel_rfl)) rfl
                  replace ha := Aside0.mk ha
                  have R := Aside0.mk Q_R
                  have O := Aside0.mk Q_O
                  have B := Aside0.mk (Q_B (hon 4 (by kernel_rfl)))
                  have T := Aside0.mk (Q_T (hon 5 (by kernel_rfl)))
                  refine call_ 18 #[.agg #[.string nm, .int .i64 kd, .slice x5 dims.length y5], .agg #[.string nm, .int .i64 kd, .slice p5 dims.length q5]] (wanted_on rfl rfl rfl (e104.trans rfl)) rfl (by go_simp; try rfl) ?_
                  refine (pbSame R.out T.out HSM.out).mono ?_
                  rintro e w1 ⟨rfl, hB⟩
                  refine ⟨_, rfl, ?_⟩
                  refine hK.out _ _ ⟨g3, g4, t4, x5, y5, m4_, m5_, m6_, m7_, (by rw [ha.out]; exact putSel_upk 9 hb_ rfl rfl rfl), R.out.step hB, O.out.step hB, fun _ => blk_below B.out hB, fun _ => T.out.step hB, Q_X4_, Q_X5_, Q_X6_, Q_X7_⟩
                refine steps_cons ?_ ?_
                · rintro b a w' ⟨g3, g4, t4, x5, y5, m4_, m5_, m6_, m7_, ha, Q_R, Q_O, Q_B, Q_T, Q_X4_, Q_X5_, Q_X6_, Q_X7_⟩ hb_ hon hoff
                  refine ⟨_, rfl, fun K hK => ?_⟩
                  have e111 : a.tmps[111]? = some (.bool true) := by rw [ha]; exact putSel_on (e := (9, 111, .bool true)) 9 rfl rfl (hon 9 (by kernel_rfl)) rfl
                  have e104 : a.tmps[104]? = some (.bool false) := by rw [ha]; exact putSel_on (e := (2, 104, .bool false)) 2 rfl rfl (hon 2 (by kernel_rfl)) rfl
                  replace ha := Aside0.mk ha
                  have R := Aside0.mk Q_R
                  have O := Aside0.mk Q_O
                  have B := Aside0.mk (Q_B (hon 4 (by kernel_rfl)))
                  have T := Aside0.mk (Q_T (hon 5 (by kernel_rfl)))
                  refine value_ (w1 := w') (v := .bool false) (wanted_on rfl rfl rfl (e104.trans (by first | rfl | (simp [*]; done)))) rfl ?_ ?_
                  · go_simp
                    (try simp only [i64_w])
                    try rfl
                  refine hK.out _ _ ⟨g3, g4, t4, x5, y5, m4_, m5_, m6_, m7_, (by rw [ha.out]; exact putSel_upk 10 hb_ rfl rfl rfl), Q_R, Q_O, Q_B, Q_T, Q_X4_, Q_X5_, Q_X6_, Q_X7_⟩
                refine steps_cons ?_ ?_
                · rintro b a w' ⟨g3, g4, t4, x5, y5, m4_, m5_, m6_, m7_, ha, Q_R, Q_O, Q_B, Q_T, Q_X4_, Q_X5_, Q_X6_, Q_X7_⟩ hb_ hon hoff
                  refine ⟨_, rfl, fun K hK => ?_⟩
                  have e104 : a.tmps[104]? = some (.bool false) := by rw [ha]; exact putSel_on (e := (2, 104, .bool false)) 2 rfl rfl (hon 2 (by kernel_rfl)) rfl
                  have e112 : a.tmps[112]? = some (.bool false) := by rw [ha]; exact putSel_on (e := (10, 112, .bool false)) 10 rfl rfl (hon 10 (by kernel_rfl)) rfl
                  replace ha := Aside0.mk ha
                  have R := Aside0.mk Q_R
                  have O := Aside0.mk Q_O
                  have B := Aside0.mk (Q_B (hon 4 (by kernel_rfl)))
                  have T := Aside0.mk (Q_T (hon 5 (by kernel_rfl)))
                  refine value_ (w1 := w') (v := .bool false) (by rfl) rfl ?_ ?_
                  · go_simp
                    (try simp only [i64_w])
                    try rfl
                  refine hK.out _ _ ⟨g3, g4, t4, x5, y5, m4_, m5_, m6_, m7_, (by rw [ha.out]; exact putSel_upk 11 hb_ rfl rfl rfl), Q_R, Q_O, Q_B, Q_T, Q_X4_, Q_X5_, Q_X6_, Q_X7_⟩
                exact steps_nil
              · rintro b a w' hall ⟨g3, g4, t4, x5, y5, m4_, m5_, m6_, m7_, ha, Q_R, Q_O, Q_B, Q_T, Q_X4_, Q_X5_, Q_X6_, Q_X7_⟩
                skip
                have hb0_ := hall 0 (by kernel_rfl)
                have hb1_ := hall 1 (by kernel_rfl)
                have hb2_ := hall 2 (by kernel_rfl)
                have hb3_ := hall 3 (by kernel_rfl)
                have hb4_ := hall 4 (by kernel_rfl)
                have hb5_ := hall 5 (by kernel_rfl)
                have hb6_ := hall 6 (by kernel_rfl)
                have hb7_ := hall 7 (by kernel_rfl)
                have hb8_ := hall 8 (by kernel_rfl)
                have hb9_ := hall 9 (by kernel_rfl)
                have hb10_ := hall 10 (by kernel_rfl)
                have hb11_ := hall 11 (by kernel_rfl)
                subst ha
                obtain rfl := Q_X4_ hb4_
                obtain rfl := Q_X5_ hb5_
                obtain rfl := Q_X6_ hb6_
                obtain rfl := Q_X7_ hb7_
                simp only [putSel, hb0_, hb1_, hb2_, hb3_, hb4_, hb5_, hb6_, hb7_, hb8_, hb9_, hb10_, hb11_, if_true, Act.put, List.setIfInBounds_toArray, List.set_cons_zero, List.set_cons_succ]
                have R := Aside0.mk Q_R
                clear Q_R
                have O := Aside0.mk Q_O
                clear Q_O
                have B := Aside0.mk (Q_B hb4_)
                clear Q_B
                have T := Aside0.mk (Q_T hb5_)
                clear Q_T
                clear hall hb0_ hb1_ hb2_ hb3_ hb4_ hb5_ hb6_ hb7_ hb8_ hb9_ hb10_ hb11_
                clear HQ HO
                have HQ := R
                clear R O T B
                go_wp2_with (first | (fail))
                refine (pbAwake HQ.out HG.out.awake).mono ?_
                rintro en u9 ⟨rfl, hQ⟩
                have HB := Aside0.mk hQ.i.b
                clear hQ HQ
                go_wp2_with (first | (fail))
                go_ret
                exact ⟨rfl, HB.out⟩
            · have hk' : decide (0 < sizeK kd) = false := decide_eq_false hk
              go_wp2_with (first | (fail))
              refine (pbAwake HQ.out HG.out.awake).mono ?_
              rintro en u9 ⟨rfl, hQ⟩
              have HB := Aside0.mk hQ.i.b
              clear hQ HQ
              go_wp2_with (first | (fail))
              go_ret
              exact ⟨rfl, HB.out⟩
        | true =>
          obtain ⟨al', hr, hn, hs⟩ := HG.out.read hm
          have HN' := Aside0.mk hn
          have HS' := Aside0.mk hs
          have HR' := Aside0.mk hr
          clear hn hs hr
          go_wp2_with (first | (fail))
          refine (pbnode_ReadNode.calls bN op ins out al' 0 wr HR'.out).mono ?_
          rintro en u ⟨v1, v3, rfl, hV1, hV3, hB⟩
          obtain ⟨r1, s1, rfl, k1, f1⟩ := hV1
          obtain ⟨r3, s3, rfl, k3, f3⟩ := hV3
          have n0_ := Aside0.mk (HQ.out.step hB)
          have K1 := Aside0.mk k1
          have K3 := Aside0.mk k3
          have F1 := Aside0.mk f1
          have F3 := Aside0.mk f3
          clear HQ hB k1 k3 f1 f3
          have HQ := n0_
          clear n0_
          go_wp2_with (first | (fail))
          have n0_ := Aside0.mk (HQ.out.step (below_drew1 (below_alloc (Below.refl u.heap.size u) (Obj.cells #[.string op, .slice r1 ins.length s1, .string out, .slice r3 al'.length s3] 25))))
          have HO := Aside0.mk (PbO.mk K1.out K3.out (F_below (Kd.F_mono F1.out (fun _ _ => trivial)) (below_drew1 (below_alloc (Below.refl u.heap.size u) (Obj.cells #[.string op, .slice r1 ins.length s1, .string out, .slice r3 al'.length s3] 25)))) (F_below (Kd.F_mono F3.out (fun _ _ => trivial)) (below_drew1 (below_alloc (Below.refl u.heap.size u) (Obj.cells #[.string op, .slice r1 ins.length s1, .string out, .slice r3 al'.length s3] 25)))) (blk_drew (blk_new u (Obj.cells #[.string op, .slice r1 ins.length s1, .string out, .slice r3 al'.length s3] 25))))
          clear HQ F1 F3 K1 K3
          have HQ := n0_
          clear n0_
          generalize u.heap.size = g12 at HO ⊢
          generalize u.alloc (Obj.cells #[.string op, .slice r1 ins.length s1, .string out, .slice r3 al'.length s3] 25) = w15 at HQ HO ⊢
          refine start_ (n := 9) (S := fun w' => True) (ds := []) #[false, false, false, false, false, false, false, false, false] (by kernel_rfl) rfl rfl trivial (fun hHeld => ?_)
          refine with_tabW pbLaw.tab15 pbLaw.bits15 (fun HT_ HW_ => ?_)
          generalize w15.drew = we at HQ HO hHeld ⊢
          refine inv_at [0, 1, 2, 3, 4, 5, 6, 7, 8] (fun a0_ b a w' => ∃ (t1 : Option Addr) (z1 : Nat) (t3 : Option Addr) (z3 : Nat) (m4_ : Value), a = putSel a0_ b [(0, 79, .int .i64 0), (1, 80, .bool false), (2, 81, .bool false), (3, 82, .agg #[.string op, .slice r1 ins.length s1, .string out, .slice r3 al'.length s3]), (4, 83, m4_), (5, 84, .agg #[.string op, .slice p1 ins.length q1, .string out, .slice p3 al.length q3]), (6, 85, .bool true), (7, 86, .bool false), (8, 87, .bool false)] ∧ (PbQ w w' op A1 c1 ins out A3 c3 al nm kd A5 c5 dims p1 q1 p3 q3 p5 q5 g7 g8) ∧ (PbO w' op ins out r1 s1 r3 s3 al' g12) ∧ (b 4 = true → PbT w' ins t1 z1 t3 z3 al') ∧ (b 4 = true → (m4_ : Value) = .agg #[.string op, .slice t1 ins.length z1, .string out, .slice t3 al'.length z3])) HT_.out HW_.out (by kernel_rfl) (by kernel_rfl) ?_ ?_ ?_
          · exact ⟨none, 0, none, 0, .bool false, by simp only [putSel, Bool.false_eq_true, if_false], HQ.out, HO.out, fun h_ => absurd h_ (by decide), fun h_ => absurd h_ (by decide)⟩
          · skip
            skip
            refine steps_cons ?_ ?_
            · rintro b a w' ⟨t1, z1, t3, z3, m4_, ha, Q_R, Q_O, Q_T, Q_X4_⟩ hb_ hon hoff
              refine ⟨_, rfl, fun K hK => ?_⟩
              have e13 : a.tmps[13]? = some (.int .i64 0) := by rw [ha]; exact (putSel_off rfl).trans rfl
              replace ha := Aside0.mk ha
              have R := Aside0.mk Q_R
              have O := Aside0.mk Q_O
              refine value_ (w1 := w') (v := .int .i64 0) (by rfl) rfl ?_ ?_
              · go_simp
                (try simp only [i64_w])
                try rfl
              refine hK.out _ _ ⟨t1, z1, t3, z3, m4_, (by rw [ha.out]; exact putSel_upk 0 hb_ rfl rfl rfl), Q_R, Q_O, fun h0_ => absurd ((hoff 4 (by kernel_rfl)).symm.trans h0_) (by decide), fun h0_ => absurd ((hoff 4 (by kernel_rfl)).symm.trans h0_) (by decide)⟩
            refine steps_cons ?_ ?_
            · rintro b a w' ⟨t1, z1, t3, z3, m4_, ha, Q_R, Q_O, Q_T, Q_X4_⟩ hb_ hon hoff
              refine ⟨_, rfl, fun K hK => ?_⟩
              have e79 : a.tmps[79]? = some (.int .i64 0) := by rw [ha]; exact putSel_on (e := (0, 79, .int .i64 0)) 0 rfl rfl (hon 0 (by kernel_rfl)) rfl
              replace ha := Aside0.mk ha
              have R := Aside0.mk Q_R
              have O := Aside0.mk Q_O
              refine value_ (w1 := w') (v := .bool false) (by rfl) rfl ?_ ?_
              · go_simp
                (try simp only [i64_w])
                try rfl
              refine hK.out _ _ ⟨t1, z1, t3, z3, m4_, (by rw [ha.out]; exact putSel_upk 1 hb_ rfl rfl rfl), Q_R, Q_O, fun h0_ => absurd ((hoff 4 (by kernel_rfl)).symm.trans h0_) (by decide), fun h0_ => absurd ((hoff 4 (by kernel_rfl)).symm.trans h0_) (by decide)⟩
            refine steps_cons ?_ ?_
            · rintro b a w' ⟨t1, z1, t3, z3, m4_, ha, Q_R, Q_O, Q_T, Q_X4_⟩ hb_ hon hoff
              refine ⟨_, rfl, fun K hK => ?_⟩
              have e80 : a.tmps[80]? = some (.bool false) := by rw [ha]; exact putSel_on (e := (1, 80, .bool false)) 1 rfl rfl (hon 1 (by kernel_rfl)) rfl
              replace ha := Aside0.mk ha
              have R := Aside0.mk Q_R
              have O := Aside0.mk Q_O
              refine value_ (w1 := w') (v := .bool false) (by rfl) rfl ?_ ?_
              · go_simp
                (try simp only [i64_w])
                try rfl
              refine hK.out _ _ ⟨t1, z1, t3, z3, m4_, (by rw [ha.out]; exact putSel_upk 2 hb_ rfl rfl rfl), Q_R, Q_O, fun h0_ => absurd ((hoff 4 (by kernel_rfl)).symm.trans h0_) (by decide), fun h0_ => absurd ((hoff 4 (by kernel_rfl)).symm.trans h0_) (by decide)⟩
            refine steps_cons ?_ ?_
            · rintro b a w' ⟨t1, z1, t3, z3, m4_, ha, Q_R, Q_O, Q_T, Q_X4_⟩ hb_ hon hoff
              refine ⟨_, rfl, fun K hK => ?_⟩
              have e12 : a.tmps[12]? = some (.pointer (some ⟨g12, 0, none⟩)) := by rw [ha]; exact (putSel_off rfl).trans rfl
              have e81 : a.tmps[81]? = some (.bool false) := by rw [ha]; exact putSel_on (e := (2, 81, .bool false)) 2 rfl rfl (hon 2 (by kernel_rfl)) rfl
              replace ha := Aside0.mk ha
              have R := Aside0.mk Q_R
              have O := Aside0.mk Q_O
              have s0_ : w'.cell? ⟨g12, 0, none⟩ = some (.string op) := blk_cell O.out.b 0
              have s1_ : w'.cell? ⟨g12, 1, none⟩ = some (.slice r1 ins.length s1) := blk_cell O.out.b 1
              have s2_ : w'.cell? ⟨g12, 2, none⟩ = some (.string out) := blk_cell O.out.b 2
              have s3_ : w'.cell? ⟨g12, 3, none⟩ = some (.slice r3 al'.length s3) := blk_cell O.out.b 3
              refine value_ (w1 := w') (v := .agg #[.string op, .slice r1 ins.length s1, .string out, .slice r3 al'.length s3]) (wanted_on rfl rfl rfl (e81.trans (by first | rfl | (simp [*]; done)))) rfl ?_ ?_
              · go_simp
                (try simp only [i64_w])
                try rfl
              refine hK.out _ _ ⟨t1, z1, t3, z3, m4_, (by rw [ha.out]; exact putSel_upk 3 hb_ rfl rfl rfl), Q_R, Q_O, fun h0_ => absurd ((hoff 4 (by kernel_rfl)).symm.trans h0_) (by decide), fun h0_ => absurd ((hoff 4 (by kernel_rfl)).symm.trans h0_) (by decide)⟩
            refine steps_cons ?_ ?_
            · rintro b a w' ⟨t1, z1, t3, z3, m4_, ha, Q_R, Q_O, Q_T, Q_X4_⟩ hb_ hon hoff
              refine ⟨_, rfl, fun K hK => ?_⟩
              have e82 : a.tmps[82]? = some (.agg #[.string op, .slice r1 ins.length s1, .string out, .slice r3 al'.length s3]) := by rw [ha]; exact putSel_on (e := (3, 82, .agg #[.string op, .slice r1 ins.length s1, .string out, .slice r3 al'.length s3])) 3 rfl rfl (hon 3 (by kernel_rfl)) rfl
              have e81 : a.tmps[81]? = some (.bool false) := by rw [ha]; exact putSel_on (e := (2, 81, .bool false)) 2 rfl rfl (hon 2 (by kernel_rfl)) rfl
              replace ha := Aside0.mk ha
              have R := Aside0.mk Q_R
              have O := Aside0.mk Q_O
              refine call_ 6 #[.agg #[.string op, .slice r1 ins.length s1, .string out, .slice r3 al'.length s3]] (wanted_on rfl rfl rfl (e81.trans rfl)) rfl (by go_simp; try rfl) ?_
              refine (pbNode2 O.out HN'.out).mono ?_
              rintro e w1 ⟨t1, z1, t3, z3, rfl, hT, hB⟩
              refine ⟨_, rfl, ?_⟩
              refine hK.out _ _ ⟨t1, z1, t3, z3, (.agg #[.string op, .slice t1 ins.length z1, .string out, .slice t3 al'.length z3]), (by rw [ha.out]; exact putSel_upk 4 hb_ rfl rfl rfl), R.out.step hB, O.out.step hB, fun _ => hT, fun _ => rfl⟩
            refine steps_cons ?_ ?_
            · rintro b a w' ⟨t1, z1, t3, z3, m4_, ha, Q_R, Q_O, Q_T, Q_X4_⟩ hb_ hon hoff
              refine ⟨_, rfl, fun K hK => ?_⟩
              have e5 : a.tmps[5]? = some (.pointer (some ⟨g7, 0, none⟩)) := by rw [ha]; exact (putSel_off rfl).trans rfl
              have e81 : a.tmps[81]? = some (.bool false) := by rw [ha]; exact putSel_on (e := (2, 81, .bool false)) 2 rfl rfl (hon 2 (by kernel_rfl)) rfl
              replace ha := Aside0.mk ha
              have R := Aside0.mk Q_R
              have O := Aside0.mk Q_O
              have s0_ : w'.cell? ⟨g7, 0, none⟩ = some (.string op) := blk_cell R.out.b7 0
              have s1_ : w'.cell? ⟨g7, 1, none⟩ = some (.slice p1 ins.length q1) := blk_cell R.out.b7 1
              have s2_ : w'.cell? ⟨g7, 2, none⟩ = some (.string out) := blk_cell R.out.b7 2
              have s3_ : w'.cell? ⟨g7, 3, none⟩ = some (.slice p3 al.length q3) := blk_cell R.out.b7 3
              refine value_ (w1 := w') (v := .agg #[.string op, .slice p1 ins.length q1, .string out, .slice p3 al.length q3]) (wanted_on rfl rfl rfl (e81.trans (by first | rfl | (simp [*]; done)))) rfl ?_ ?_
              · go_simp
                (try simp only [i64_w])
                try rfl
              refine hK.out _ _ ⟨t1, z1, t3, z3, m4_, (by rw [ha.out]; exact putSel_upk 5 hb_ rfl rfl rfl), Q_R, Q_O, Q_T, Q_X4_⟩
            refine steps_cons ?_ ?_
            · rintro b a w' ⟨t1, z1, t3, z3, m4_, ha, Q_R, Q_O, Q_T, Q_X4_⟩ hb_ hon hoff
              refine ⟨_, rfl, fun K hK => ?_⟩
              have e83 : a.tmps[83]? = some (m4_) := by rw [ha]; exact putSel_on (e := (4, 83, m4_)) 4 rfl rfl (hon 4 (by kernel_rfl)) rfl
              rw [Q_X4_ (hon 4 (by kernel_rfl))] at e83
              have e84 : a.tmps[84]? = some (.agg #[.string op, .slice p1 ins.length q1, .string out, .slice p3 al.length q3]) := by rw [ha]; exact putSel_on (e := (5, 84, .agg #[.string op, .slice p1 ins.length q1, .string out, .slice p3 al.length q3])) 5 rfl rfl (hon 5 (by kernel_rfl)) rfl
              have e81 : a.tmps[81]? = some (.bool false) := by rw [ha]; exact putSel_on (e := (2, 81, .bool false)) 2 rfl rfl (hon 2 (by kernel_rfl)) rfl
              replace ha := Aside0.mk ha
              have R := Aside0.mk Q_R
              have O := Aside0.mk Q_O
              have T := Aside0.mk (Q_T (hon 4 (by kernel_rfl)))
              refine call_ 15 #[.agg #[.string op, .slice t1 ins.length z1, .string out, .slice t3 al'.length z3], .agg #[.string op, .slice p1 ins.length q1, .string out, .slice p3 al.length q3]] (wanted_on rfl rfl rfl (e81.trans rfl)) rfl (by go_simp; try rfl) ?_
              refine (pbNodes R.out T.out HS'.out).mono ?_
              rintro e w1 ⟨rfl, hB⟩
              refine ⟨_, rfl, ?_⟩
              refine hK.out _ _ ⟨t1, z1, t3, z3, m4_, (by rw [ha.out]; exact putSel_upk 6 hb_ rfl rfl rfl), R.out.step hB, O.out.step hB, fun _ => T.out.step hB, Q_X4_⟩
            refine steps_cons ?_ ?_
            · rintro b a w' ⟨t1, z1, t3, z3, m4_, ha, Q_R, Q_O, Q_T, Q_X4_⟩ hb_ hon hoff
              refine ⟨_, rfl, fun K hK => ?_⟩
              have e85 : a.tmps[85]? = some (.bool true) := by rw [ha]; exact putSel_on (e := (6, 85, .bool true)) 6 rfl rfl (hon 6 (by kernel_rfl)) rfl
              have e81 : a.tmps[81]? = some (.bool false) := by rw [ha]; exact putSel_on (e := (2, 81, .bool false)) 2 rfl rfl (hon 2 (by kernel_rfl)) rfl
              replace ha := Aside0.mk ha
              have R := Aside0.mk Q_R
              have O := Aside0.mk Q_O
              have T := Aside0.mk (Q_T (hon 4 (by kernel_rfl)))
              refine value_ (w1 := w') (v := .bool false) (wanted_on rfl rfl rfl (e81.trans (by first | rfl | (simp [*]; done)))) rfl ?_ ?_
              · go_simp
                (try simp only [i64_w])
                try rfl
              refine hK.out _ _ ⟨t1, z1, t3, z3, m4_, (by rw [ha.out]; exact putSel_upk 7 hb_ rfl rfl rfl), Q_R, Q_O, Q_T, Q_X4_⟩
            refine steps_cons ?_ ?_
            · rintro b a w' ⟨t1, z1, t3, z3, m4_, ha, Q_R, Q_O, Q_T, Q_X4_⟩ hb_ hon hoff
              refine ⟨_, rfl, fun K hK => ?_⟩
              have e81 : a.tmps[81]? = some (.bool false) := by rw [ha]; exact putSel_on (e := (2, 81, .bool false)) 2 rfl rfl (hon 2 (by kernel_rfl)) rfl
              have e86 : a.tmps[86]? = some (.bool false) := by rw [ha]; exact putSel_on (e := (7, 86, .bool false)) 7 rfl rfl (hon 7 (by kernel_rfl)) rfl
              replace ha := Aside0.mk ha
              have R := Aside0.mk Q_R
              have O := Aside0.mk Q_O
              have T := Aside0.mk (Q_T (hon 4 (by kernel_rfl)))
              refine value_ (w1 := w') (v := .bool false) (by rfl) rfl ?_ ?_
              · go_simp
                (try simp only [i64_w])
                try rfl
              refine hK.out _ _ ⟨t1, z1, t3, z3, m4_, (by rw [ha.out]; exact putSel_upk 8 hb_ rfl rfl rfl), Q_R, Q_O, Q_T, Q_X4_⟩
            exact steps_nil
          · rintro b a w' hall ⟨t1, z1, t3, z3, m4_, ha, Q_R, Q_O, Q_T, Q_X4_⟩
            skip
            have hb0_ := hall 0 (by kernel_rfl)
            have hb1_ := hall 1 (by kernel_rfl)
            have hb2_ := hall 2 (by kernel_rfl)
            have hb3_ := hall 3 (by kernel_rfl)
            have hb4_ := hall 4 (by kernel_rfl)
            have hb5_ := hall 5 (by kernel_rfl)
            have hb6_ := hall 6 (by kernel_rfl)
            have hb7_ := hall 7 (by kernel_rfl)
            have hb8_ := hall 8 (by kernel_rfl)
            subst ha
            obtain rfl := Q_X4_ hb4_
            simp only [putSel, hb0_, hb1_, hb2_, hb3_, hb4_, hb5_, hb6_, hb7_, hb8_, if_true, Act.put, List.setIfInBounds_toArray, List.set_cons_zero, List.set_cons_succ]
            have R := Aside0.mk Q_R
            clear Q_R
            have O := Aside0.mk Q_O
            clear Q_O
            have T := Aside0.mk (Q_T hb4_)
            clear Q_T
            clear hall hb0_ hb1_ hb2_ hb3_ hb4_ hb5_ hb6_ hb7_ hb8_
            clear HQ HO
            have HQ := R
            clear R O T
            have s0_ : w'.cell? ⟨w.heap.size + 1, 0, none⟩ = some (.string nm) := blk_cell HQ.out.i.b1 0
            go_wp2_with (first | (fail))
            refine (pbName HQ.out nm HG.out.name).mono ?_
            rintro en u5 ⟨rfl, hQ⟩
            clear HQ s0_
            have HQ := Aside0.mk hQ
            clear hQ
            cases hnm : nameR nm with
            | false =>
              go_wp2_with (first | (fail))
              refine (pbAwake HQ.out HG.out.awake).mono ?_
              rintro en u9 ⟨rfl, hQ⟩
              have HB := Aside0.mk hQ.i.b
              clear hQ HQ
              go_wp2_with (first | (fail))
              go_ret
              exact ⟨rfl, HB.out⟩
            | true =>
              have t1_ : u5.cell? ⟨g8, 1, none⟩ = some (.int .i64 kd) := blk_cell HQ.out.b8 1
              go_wp2_with (first | (fail))
              refine (pbSize HQ.out HG.out.size).mono ?_
              rintro en u6 ⟨rfl, hQ⟩
              clear HQ t1_
              have HQ := Aside0.mk hQ
              clear hQ
              by_cases hk : 0 < sizeK kd
              · have hk' : decide (0 < sizeK kd) = true := decide_eq_true hk
                obtain ⟨hri, hsm⟩ := HG.out.readI hnm hk
                have HRI := Aside0.mk hri
                have HSM := Aside0.mk hsm
                clear hri hsm
                go_wp2_with (first | (fail))
                refine (pbnode_ReadInfo.calls bI nm kd dims 0 u6 HRI.out).mono ?_
                rintro en u7 ⟨v5, rfl, hV, hB⟩
                obtain ⟨r5, s5, rfl, k5, f5⟩ := hV
                have n0_ := Aside0.mk (HQ.out.step hB)
                have K5 := Aside0.mk k5
                have F5 := Aside0.mk f5
                clear HQ hB k5 f5
                have HQ := n0_
                clear n0_
                go_wp2_with (first | (fail))
                have n0_ := Aside0.mk (HQ.out.step (below_drew1 (below_alloc (Below.refl u7.heap.size u7) (Obj.cells #[.string nm, .int .i64 kd, .slice r5 dims.length s5] 29))))
                have HO := Aside0.mk (PbJ.mk K5.out (F_below (Kd.F_mono F5.out (fun _ _ => trivial)) (below_drew1 (below_alloc (Below.refl u7.heap.size u7) (Obj.cells #[.string nm, .int .i64 kd, .slice r5 dims.length s5] 29)))) (blk_drew (blk_new u7 (Obj.cells #[.string nm, .int .i64 kd, .slice r5 dims.length s5] 29))))
                clear HQ K5 F5
                have HQ := n0_
                clear n0_
                generalize u7.heap.size = g14 at HO ⊢
                generalize u7.alloc (Obj.cells #[.string nm, .int .i64 kd, .slice r5 dims.length s5] 29) = w19 at HQ HO ⊢
                refine start_ (n := 12) (S := fun w' => True) (ds := []) #[false, false, false, false, false, false, false, false, false, false, false, false] (by kernel_rfl) rfl rfl trivial (fun hHeld => ?_)
                refine with_tabW pbLaw.tab19 pbLaw.bits19 (fun HT_ HW_ => ?_)
                generalize w19.drew = wf at HQ HO hHeld ⊢
                refine inv_at [0, 1, 2, 3, 4, 5, 6, 7, 8, 9, 10, 11] (fun a0_ b a w' => ∃ (g3 : Nat) (g4 : Nat) (t4 : Nat) (x5 : Option Addr) (y5 : Nat) (m4_ : Value) (m5_ : Value) (m6_ : Value) (m7_ : Value), a = putSel a0_ b [(0, 102, .int .i64 0), (1, 103, .bool false), (2, 104, .bool false), (3, 105, .agg #[.string nm, .int .i64 kd, .slice r5 dims.length s5]), (4, 106, m4_), (5, 107, m5_), (6, 108, m6_), (7, 109, m7_), (8, 110, .agg #[.string nm, .int .i64 kd, .slice p5 dims.length q5]), (9, 111, .bool true), (10, 112, .bool false), (11, 113, .bool false)] ∧ (PbQ w w' op A1 c1 ins out A3 c3 al nm kd A5 c5 dims p1 q1 p3 q3 p5 q5 g7 g8) ∧ (PbJ w' nm kd dims r5 s5 g14) ∧ (b 4 = true → w'.heap[g3]? = some (oI nm kd r5 dims.length s5)) ∧ (b 5 = true → PbU w' nm kd dims g4 x5 y5) ∧ (b 4 = true → (m4_ : Value) = .slice (some ⟨g3, 0, none⟩) 1 1) ∧ (b 5 = true → (m5_ : Value) = .slice (some ⟨g4, 0, none⟩) 1 t4) ∧ (b 6 = true → (m6_ : Value) = .pointer (some ⟨g4, 0, none⟩)) ∧ (b 7 = true → (m7_ : Value) = .agg #[.string nm, .int .i64 kd, .slice x5 dims.length y5])) HT_.out HW_.out (by kernel_rfl) (by kernel_rfl) ?_ ?_ ?_
                · exact ⟨0, 0, 0, none, 0, .bool false, .bool false, .bool false, .bool false, by simp only [putSel, Bool.false_eq_true, if_false], HQ.out, HO.out, fun h_ => absurd h_ (by decide), fun h_ => absurd h_ (by decide), fun h_ => absurd h_ (by decide), fun h_ => absurd h_ (by decide), fun h_ => absurd h_ (by decide), fun h_ => absurd h_ (by decide)⟩
                · skip
                  skip
                  refine steps_cons ?_ ?_
                  · rintro b a w' ⟨g3, g4, t4, x5, y5, m4_, m5_, m6_, m7_, ha, Q_R, Q_O, Q_B, Q_T, Q_X4_, Q_X5_, Q_X6_, Q_X7_⟩ hb_ hon hoff
                    refine ⟨_, rfl, fun K hK => ?_⟩
                    have e15 : a.tmps[15]? = some (.int .i64 0) := by rw [ha]; exact (putSel_off rfl).trans rfl
                    replace ha := Aside0.mk ha
                    have R := Aside0.mk Q_R
                    have O := Aside0.mk Q_O
                    refine value_ (w1 := w') (v := .int .i64 0) (by rfl) rfl ?_ ?_
                    · go_simp
                      (try simp only [i64_w])
                      try rfl
                    refine hK.out _ _ ⟨g3, g4, t4, x5, y5, m4_, m5_, m6_, m7_, (by rw [ha.out]; exact putSel_upk 0 hb_ rfl rfl rfl), Q_R, Q_O, fun h0_ => absurd ((hoff 4 (by kernel_rfl)).symm.trans h0_) (by decide), fun h0_ => absurd ((hoff 5 (by kernel_rfl)).symm.trans h0_) (by decide), fun h0_ => absurd ((hoff 4 (by kernel_rfl)).symm.trans h0_) (by decide), fun h0_ => absurd ((hoff 5 (by kernel_rfl)).symm.trans h0_) (by decide), fun h0_ => absurd ((hoff 6 (by kernel_rfl)).symm.trans h0_) (by decide), fun h0_ => absurd ((hoff 7 (by kernel_rfl)).symm.trans h0_) (by decide)⟩
                  refine steps_cons ?_ ?_
                  · rintro b a w' ⟨g3, g4, t4, x5, y5, m4_, m5_, m6_, m7_, ha, Q_R, Q_O, Q_B, Q_T, Q_X4_, Q_X5_, Q_X6_, Q_X7_⟩ hb_ hon hoff
                    refine ⟨_, rfl, fun K hK => ?_⟩
                    have e102 : a.tmps[102]? = some (.int .i64 0) := by rw [ha]; exact putSel_on (e := (0, 102, .int .i64 0)) 0 rfl rfl (hon 0 (by kernel_rfl)) rfl
                    replace ha := Aside0.mk ha
                    have R := Aside0.mk Q_R
                    have O := Aside0.mk Q_O
                    refine value_ (w1 := w') (v := .bool false) (by rfl) rfl ?_ ?_
                    · go_simp
                      (try simp only [i64_w])
                      try rfl
                    refine hK.out _ _ ⟨g3, g4, t4, x5, y5, m4_, m5_, m6_, m7_, (by rw [ha.out]; exact putSel_upk 1 hb_ rfl rfl rfl), Q_R, Q_O, fun h0_ => absurd ((hoff 4 (by kernel_rfl)).symm.trans h0_) (by decide), fun h0_ => absurd ((hoff 5 (by kernel_rfl)).symm.trans h0_) (by decide), fun h0_ => absurd ((hoff 4 (by kernel_rfl)).symm.trans h0_) (by decide), fun h0_ => absurd ((hoff 5 (by kernel_rfl)).symm.trans h0_) (by decide), fun h0_ => absurd ((hoff 6 (by kernel_rfl)).symm.trans h0_) (by decide), fun h0_ => absurd ((hoff 7 (by kernel_rfl)).symm.trans h0_) (by decide)⟩
                  refine steps_cons ?_ ?_
                  · rintro b a w' ⟨g3, g4, t4, x5, y5, m4_, m5_, m6_, m7_, ha, Q_R, Q_O, Q_B, Q_T, Q_X4_, Q_X5_, Q_X6_, Q_X7_⟩ hb_ hon hoff
                    refine ⟨_, rfl, fun K hK => ?_⟩
                    have e103 : a.tmps[103]? = some (.bool false) := by rw [ha]; exact putSel_on (e := (1, 103, .bool false)) 1 rfl rfl (hon 1 (by kernel_rfl)) rfl
                    replace ha := Aside0.mk ha
                    have R := Aside0.mk Q_R
                    have O := Aside0.mk Q_O
                    refine value_ (w1 := w') (v := .bool false) (by rfl) rfl ?_ ?_
                    · go_simp
                      (try simp only [i64_w])
                      try rfl
                    refine hK.out _ _ ⟨g3, g4, t4, x5, y5, m4_, m5_, m6_, m7_, (by rw [ha.out]; exact putSel_upk 2 hb_ rfl rfl rfl), Q_R, Q_O, fun h0_ => absurd ((hoff 4 (by kernel_rfl)).symm.trans h0_) (by decide), fun h0_ => absurd ((hoff 5 (by kernel_rfl)).symm.trans h0_) (by decide), fun h0_ => absurd ((hoff 4 (by kernel_rfl)).symm.trans h0_) (by decide), fun h0_ => absurd ((hoff 5 (by kernel_rfl)).symm.trans h0_) (by decide), fun h0_ => absurd ((hoff 6 (by kernel_rfl)).symm.trans h0_) (by decide), fun h0_ => absurd ((hoff 7 (by kernel_rfl)).symm.trans h0_) (by decide)⟩
                  refine steps_cons ?_ ?_
                  · rintro b a w' ⟨g3, g4, t4, x5, y5, m4_, m5_, m6_, m7_, ha, Q_R, Q_O, Q_B, Q_T, Q_X4_, Q_X5_, Q_X6_, Q_X7_⟩ hb_ hon hoff
                    refine ⟨_, rfl, fun K hK => ?_⟩
                    have e14 : a.tmps[14]? = some (.pointer (some ⟨g14, 0, none⟩)) := by rw [ha]; exact (putSel_off rfl).trans rfl
                    have e104 : a.tmps[104]? = some (.bool false) := by rw [ha]; exact putSel_on (e := (2, 104, .bool false)) 2 rfl rfl (hon 2 (by kernel_rfl)) rfl
                    replace ha := Aside0.mk ha
                    have R := Aside0.mk Q_R
                    have O := Aside0.mk Q_O
                    have s0_ : w'.cell? ⟨g14, 0, none⟩ = some (.string nm) := blk_cell O.out.b 0
                    have s1_ : w'.cell? ⟨g14, 1, none⟩ = some (.int .i64 kd) := blk_cell O.out.b 1
                    have s2_ : w'.cell? ⟨g14, 2, none⟩ = some (.slice r5 dims.length s5) := blk_cell O.out.b 2
                    refine value_ (w1 := w') (v := .agg #[.string nm, .int .i64 kd, .slice r5 dims.length s5]) (wanted_on rfl rfl rfl (e104.trans (by first | rfl | (simp [*]; done)))) rfl ?_ ?_
                    · go_simp
                      (try simp only [i64_w])
                      try rfl
                    refine hK.out _ _ ⟨g3, g4, t4, x5, y5, m4_, m5_, m6_, m7_, (by rw [ha.out]; exact putSel_upk 3 hb_ rfl rfl rfl), Q_R, Q_O, fun h0_ => absurd ((hoff 4 (by kernel_rfl)).symm.trans h0_) (by decide), fun h0_ => absurd ((hoff 5 (by kernel_rfl)).symm.trans h0_) (by decide), fun h0_ => absurd ((hoff 4 (by kernel_rfl)).symm.trans h0_) (by decide), fun h0_ => absurd ((hoff 5 (by kernel_rfl)).symm.trans h0_) (by decide), fun h0_ => absurd ((hoff 6 (by kernel_rfl)).symm.trans h0_) (by decide), fun h0_ => absurd ((hoff 7 (by kernel_rfl)).symm.trans h0_) (by decide)⟩
                  refine steps_cons ?_ ?_
                  · rintro b a w' ⟨g3, g4, t4, x5, y5, m4_, m5_, m6_, m7_, ha, Q_R, Q_O, Q_B, Q_T, Q_X4_, Q_X5_, Q_X6_, Q_X7_⟩ hb_ hon hoff
                    refine ⟨_, rfl, fun K hK => ?_⟩
                    have e105 : a.tmps[105]? = some (.agg #[.string nm, .int .i64 kd, .slice r5 dims.length s5]) := by rw [ha]; exact putSel_on (e := (3, 105, .agg #[.string nm, .int .i64 kd, .slice r5 dims.length s5])) 3 rfl rfl (hon 3 (by kernel_rfl)) rfl
                    have e104 : a.tmps[104]? = some (.bool false) := by rw [ha]; exact putSel_on (e := (2, 104, .bool false)) 2 rfl rfl (hon 2 (by kernel_rfl)) rfl
                    replace ha := Aside0.mk ha
                    have R := Aside0.mk Q_R
                    have O := Aside0.mk Q_O
                    refine value_ (w1 := w'.alloc (oI nm kd r5 dims.length s5)) (v := .slice (some ⟨w'.heap.size, 0, none⟩) 1 1) (wanted_on rfl rfl rfl (e104.trans rfl)) rfl ?_ ?_
                    · go_simp
                      try rfl
                    refine hK.out _ _ ⟨w'.heap.size, g4, t4, x5, y5, (.slice (some ⟨w'.heap.size, 0, none⟩) 1 1), m5_, m6_, m7_, (by rw [ha.out]; exact putSel_upk 4 hb_ rfl rfl rfl), R.out.step (below_alloc (Below.refl w'.heap.size w') (oI nm kd r5 dims.length s5)), O.out.step (below_alloc (Below.refl w'.heap.size w') (oI nm kd r5 dims.length s5)), fun _ => blk_new w' _, fun h0_ => absurd ((hoff 5 (by kernel_rfl)).symm.trans h0_) (by decide), fun _ => rfl, fun h0_ => absurd ((hoff 5 (by kernel_rfl)).symm.trans h0_) (by decide), fun h0_ => absurd ((hoff 6 (by kernel_rfl)).symm.trans h0_) (by decide), fun h0_ => absurd ((hoff 7 (by kernel_rfl)).symm.trans h0_) (by decide)⟩
                  refine steps_cons ?_ ?_
                  · rintro b a w' ⟨g3, g4, t4, x5, y5, m4_, m5_, m6_, m7_, ha, Q_R, Q_O, Q_B, Q_T, Q_X4_, Q_X5_, Q_X6_, Q_X7_⟩ hb_ hon hoff
                    refine ⟨_, rfl, fun K hK => ?_⟩
                    have e106 : a.tmps[106]? = some (m4_) := by rw [ha]; exact putSel_on (e := (4, 106, m4_)) 4 rfl rfl (hon 4 (by kernel_rfl)) rfl
                    rw [Q_X4_ (hon 4 (by kernel_rfl))] at e106
                    have e104 : a.tmps[104]? = some (.bool false) := by rw [ha]; exact putSel_on (e := (2, 104, .bool false)) 2 rfl rfl (hon 2 (by kernel_rfl)) rfl
                    replace ha := Aside0.mk ha
                    have R := Aside0.mk Q_R
                    have O := Aside0.mk Q_O
                    have B := Aside0.mk (Q_B (hon 4 (by kernel_rfl)))
                    refine call_ 7 #[.slice (some ⟨g3, 0, none⟩) 1 1] (wanted_on rfl rfl rfl (e104.trans rfl)) rfl (by go_simp; try rfl) ?_
                    refine (pbInfos O.out B.out HG.out.info).mono ?_
                    rintro e w1 ⟨g4, t4, x5, y5, rfl, hT, hB⟩
                    refine ⟨_, rfl, ?_⟩
                    refine hK.out _ _ ⟨g3, g4, t4, x5, y5, m4_, (.slice (some ⟨g4, 0, none⟩) 1 t4), m6_, m7_, (by rw [ha.out]; exact putSel_upk 5 hb_ rfl rfl rfl), R.out.step hB, O.out.step hB, fun _ => blk_below B.out hB, fun _ => hT, Q_X4_, fun _ => rfl, fun h0_ => absurd ((hoff 6 (by kernel_rfl)).symm.trans h0_) (by decide), fun h0_ => absurd ((hoff 7 (by kernel_rfl)).symm.trans h0_) (by decide)⟩
                  refine steps_cons ?_ ?_
                  · rintro b a w' ⟨g3, g4, t4, x5, y5, m4_, m5_, m6_, m7_, ha, Q_R, Q_O, Q_B, Q_T, Q_X4_, Q_X5_, Q_X6_, Q_X7_⟩ hb_ hon hoff
                    refine ⟨_, rfl, fun K hK => ?_⟩
                    have e107 : a.tmps[107]? = some (m5_) := by rw [ha]; exact putSel_on (e := (5, 107, m5_)) 5 rfl rfl (hon 5 (by kernel_rfl)) rfl
                    rw [Q_X5_ (hon 5 (by kernel_rfl))] at e107
                    have e104 : a.tmps[104]? = some (.bool false) := by rw [ha]; exact putSel_on (e := (2, 104, .bool false)) 2 rfl rfl (hon 2 (by kernel_rfl)) rfl
                    replace ha := Aside0.mk ha
                    have R := Aside0.mk Q_R
                    have O := Aside0.mk Q_O
                    have B := Aside0.mk (Q_B (hon 4 (by kernel_rfl)))
                    have T := Aside0.mk (Q_T (hon 5 (by kernel_rfl)))
                    refine value_ (w1 := w') (v := .pointer (some ⟨g4, 0, none⟩)) (wanted_on rfl rfl rfl (e104.trans (by first | rfl | (simp [*]; done)))) rfl ?_ ?_
                    · go_simp
                      (try simp only [i64_w])
                      try rfl
                    refine hK.out _ _ ⟨g3, g4, t4, x5, y5, m4_, m5_, (.pointer (some ⟨g4, 0, none⟩)), m7_, (by rw [ha.out]; exact putSel_upk 6 hb_ rfl rfl rfl), Q_R, Q_O, Q_B, Q_T, Q_X4_, Q_X5_, fun _ => rfl, fun h0_ => absurd ((hoff 7 (by kernel_rfl)).symm.trans h0_) (by decide)⟩
                  refine steps_cons ?_ ?_
                  · rintro b a w' ⟨g3, g4, t4, x5, y5, m4_, m5_, m6_, m7_, ha, Q_R, Q_O, Q_B, Q_T, Q_X4_, Q_X5_, Q_X6_, Q_X7_⟩ hb_ hon hoff
                    refine ⟨_, rfl, fun K hK => ?_⟩
                    have e108 : a.tmps[108]? = some (m6_) := by rw [ha]; exact putSel_on (e := (6, 108, m6_)) 6 rfl rfl (hon 6 (by kernel_rfl)) rfl
                    rw [Q_X6_ (hon 6 (by kernel_rfl))] at e108
                    have e104 : a.tmps[104]? = some (.bool false) := by rw [ha]; exact putSel_on (e := (2, 104, .bool false)) 2 rfl rfl (hon 2 (by kernel_rfl)) rfl
                    replace ha := Aside0.mk ha
                    have R := Aside0.mk Q_R
                    have O := Aside0.mk Q_O
                    have B := Aside0.mk (Q_B (hon 4 (by kernel_rfl)))
                    have T := Aside0.mk (Q_T (hon 5 (by kernel_rfl)))
                    have s0_ : w'.cell? ⟨g4, 0, none⟩ = some (.string nm) := T.out.c0
                    have s1_ : w'.cell? ⟨g4, 1, none⟩ = some (.int .i64 kd) := T.out.c1
                    have s2_ : w'.cell? ⟨g4, 2, none⟩ = some (.slice x5 dims.length y5) := T.out.c2
                    refine value_ (w1 := w') (v := .agg #[.string nm, .int .i64 kd, .slice x5 dims.length y5]) (wanted_on rfl rfl rfl (e104.trans (by first | rfl | (simp [*]; done)))) rfl ?_ ?_
                    · go_simp
                      (try simp only [i64_w])
                      try rfl
                    refine hK.out _ _ ⟨g3, g4, t4, x5, y5, m4_, m5_, m6_, (.agg #[.string nm, .int .i64 kd, .slice x5 dims.length y5]), (by rw [ha.out]; exact putSel_upk 7 hb_ rfl rfl rfl), Q_R, Q_O, Q_B, Q_T, Q_X4_, Q_X5_, Q_X6_, fun _ => rfl⟩
                  refine steps_cons ?_ ?_
                  · rintro b a w' ⟨g3, g4, t4, x5, y5, m4_, m5_, m6_, m7_, ha, Q_R, Q_O, Q_B, Q_T, Q_X4_, Q_X5_, Q_X6_, Q_X7_⟩ hb_ hon hoff
                    refine ⟨_, rfl, fun K hK => ?_⟩
                    have e6 : a.tmps[6]? = some (.pointer (some ⟨g8, 0, none⟩)) := by rw [ha]; exact (putSel_off rfl).trans rfl
                    have e104 : a.tmps[104]? = some (.bool false) := by rw [ha]; exact putSel_on (e := (2, 104, .bool false)) 2 rfl rfl (hon 2 (by kernel_rfl)) rfl
                    replace ha := Aside0.mk ha
                    have R := Aside0.mk Q_R
                    have O := Aside0.mk Q_O
                    have s0_ : w'.cell? ⟨g8, 0, none⟩ = some (.string nm) := blk_cell R.out.b8 0
                    have s1_ : w'.cell? ⟨g8, 1, none⟩ = some (.int .i64 kd) := blk_cell R.out.b8 1
                    have s2_ : w'.cell? ⟨g8, 2, none⟩ = some (.slice p5 dims.length q5) := blk_cell R.out.b8 2
                    refine value_ (w1 := w') (v := .agg #[.string nm, .int .i64 kd, .slice p5 dims.length q5]) (wanted_on rfl rfl rfl (e104.trans (by first | rfl | (simp [*]; done)))) rfl ?_ ?_
                    · go_simp
                      (try simp only [i64_w])
                      try rfl
                    refine hK.out _ _ ⟨g3, g4, t4, x5, y5, m4_, m5_, m6_, m7_, (by rw [ha.out]; exact putSel_upk 8 hb_ rfl rfl rfl), Q_R, Q_O, Q_B, Q_T, Q_X4_, Q_X5_, Q_X6_, Q_X7_⟩
                  refine steps_cons ?_ ?_
                  · rintro b a w' ⟨g3, g4, t4, x5, y5, m4_, m5_, m6_, m7_, ha, Q_R, Q_O, Q_B, Q_T, Q_X4_, Q_X5_, Q_X6_, Q_X7_⟩ hb_ hon hoff
                    refine ⟨_, rfl, fun K hK => ?_⟩
                    have e109 : a.tmps[109]? = some (m7_) := by rw [ha]; exact putSel_on (e := (7, 109, m7_)) 7 rfl rfl (hon 7 (by kernel_rfl)) rfl
                    rw [Q_X7_ (hon 7 (by kernel_rfl))] at e109
                    have e110 : a.tmps[110]? = some (.agg #[.string nm, .int .i64 kd, .slice p5 dims.length q5]) := by rw [ha]; exact putSel_on (e := (8, 110, .agg #[.string nm, .int .i64 kd, .slice p5 dims.length q5])) 8 rfl rfl (hon 8 (by kernel_rfl)) rfl
                    have e104 : a.tmps[104]? = some (.bool false) := by rw [ha]; exact putSel_on (e := (2, 104, .bool false)) 2 rfl rfl (hon 2 (by kernel_rfl)) rfl
                    replace ha := Aside0.mk ha
                    have R := Aside0.mk Q_R
                    have O := Aside0.mk Q_O
                    have B := Aside0.mk (Q_B (hon 4 (by kernel_rfl)))
                    have T := Aside0.mk (Q_T (hon 5 (by kernel_rfl)))
                    refine call_ 18 #[.agg #[.string nm, .int .i64 kd, .slice x5 dims.length y5], .agg #[.string nm, .int .i64 kd, .slice p5 dims.length q5]] (wanted_on rfl rfl rfl (e104.trans rfl)) rfl (by go_simp; try rfl) ?_
                    refine (pbSame R.out T.out HSM.out).mono ?_
                    rintro e w1 ⟨rfl, hB⟩
                    refine ⟨_, rfl, ?_⟩
                    refine hK.out _ _ ⟨g3, g4, t4, x5, y5, m4_, m5_, m6_, m7_, (by rw [ha.out]; exact putSel_upk 9 hb_ rfl rfl rfl), R.out.step hB, O.out.step hB, fun _ => blk_below B.out hB, fun _ => T.out.step hB, Q_X4_, Q_X5_, Q_X6_, Q_X7_⟩
                  refine steps_cons ?_ ?_
                  · rintro b a w' ⟨g3, g4, t4, x5, y5, m4_, m5_, m6_, m7_, ha, Q_R, Q_O, Q_B, Q_T, Q_X4_, Q_X5_, Q_X6_, Q_X7_⟩ hb_ hon hoff
                    refine ⟨_, rfl, fun K hK => ?_⟩
                    have e111 : a.tmps[111]? = some (.bool true) := by rw [ha]; exact putSel_on (e := (9, 111, .bool true)) 9 rfl rfl (hon 9 (by kernel_rfl)) rfl
                    have e104 : a.tmps[104]? = some (.bool false) := by rw [ha]; exact putSel_on (e := (2, 104, .bool false)) 2 rfl rfl (hon 2 (by kernel_rfl)) rfl
                    replace ha := Aside0.mk ha
                    have R := Aside0.mk Q_R
                    have O := Aside0.mk Q_O
                    have B := Aside0.mk (Q_B (hon 4 (by kernel_rfl)))
                    have T := Aside0.mk (Q_T (hon 5 (by kernel_rfl)))
                    refine value_ (w1 := w') (v := .bool false) (wanted_on rfl rfl rfl (e104.trans (by first | rfl | (simp [*]; done)))) rfl ?_ ?_
                    · go_simp
                      (try simp only [i64_w])
                      try rfl
                    refine hK.out _ _ ⟨g3, g4, t4, x5, y5, m4_, m5_, m6_, m7_, (by rw [ha.out]; exact putSel_upk 10 hb_ rfl rfl rfl), Q_R, Q_O, Q_B, Q_T, Q_X4_, Q_X5_, Q_X6_, Q_X7_⟩
                  refine steps_cons ?_ ?_
                  · rintro b a w' ⟨g3, g4, t4, x5, y5, m4_, m5_, m6_, m7_, ha, Q_R, Q_O, Q_B, Q_T, Q_X4_, Q_X5_, Q_X6_, Q_X7_⟩ hb_ hon hoff
                    refine ⟨_, rfl, fun K hK => ?_⟩
                    have e104 : a.tmps[104]? = some (.bool false) := by rw [ha]; exact putSel_on (e := (2, 104, .bool false)) 2 rfl rfl (hon 2 (by kernel_rfl)) rfl
                    have e112 : a.tmps[112]? = some (.bool false) := by rw [ha]; exact putSel_on (e := (10, 112, .bool false)) 10 rfl rfl (hon 10 (by kernel_rfl)) rfl
                    replace ha := Aside0.mk ha
                    have R := Aside0.mk Q_R
                    have O := Aside0.mk Q_O
                    have B := Aside0.mk (Q_B (hon 4 (by kernel_rfl)))
                    have T := Aside0.mk (Q_T (hon 5 (by kernel_rfl)))
                    refine value_ (w1 := w') (v := .bool false) (by rfl) rfl ?_ ?_
                    · go_simp
                      (try simp only [i64_w])
                      try rfl
                    refine hK.out _ _ ⟨g3, g4, t4, x5, y5, m4_, m5_, m6_, m7_, (by rw [ha.out]; exact putSel_upk 11 hb_ rfl rfl rfl), Q_R, Q_O, Q_B, Q_T, Q_X4_, Q_X5_, Q_X6_, Q_X7_⟩
                  exact steps_nil
                · rintro b a w' hall ⟨g3, g4, t4, x5, y5, m4_, m5_, m6_, m7_, ha, Q_R, Q_O, Q_B, Q_T, Q_X4_, Q_X5_, Q_X6_, Q_X7_⟩
                  skip
                  have hb0_ := hall 0 (by kernel_rfl)
                  have hb1_ := hall 1 (by kernel_rfl)
                  have hb2_ := hall 2 (by kernel_rfl)
                  have hb3_ := hall 3 (by kernel_rfl)
                  have hb4_ := hall 4 (by kernel_rfl)
                  have hb5_ := hall 5 (by kernel_rfl)
                  have hb6_ := hall 6 (by kernel_rfl)
                  have hb7_ := hall 7 (by kernel_rfl)
                  have hb8_ := hall 8 (by kernel_rfl)
                  have hb9_ := hall 9 (by kernel_rfl)
                  have hb10_ := hall 10 (by kernel_rfl)
                  have hb11_ := hall 11 (by kernel_rfl)
                  subst ha
                  obtain rfl := Q_X4_ hb4_
                  obtain rfl := Q_X5_ hb5_
                  obtain rfl := Q_X6_ hb6_
                  obtain rfl := Q_X7_ hb7_
                  simp only [putSel, hb0_, hb1_, hb2_, hb3_, hb4_, hb5_, hb6_, hb7_, hb8_, hb9_, hb10_, hb11_, if_true, Act.put, List.setIfInBounds_toArray, List.set_cons_zero, List.set_cons_succ]
                  have R := Aside0.mk Q_R
                  clear Q_R
                  have O := Aside0.mk Q_O
                  clear Q_O
                  have B := Aside0.mk (Q_B hb4_)
                  clear Q_B
                  have T := Aside0.mk (Q_T hb5_)
                  clear Q_T
                  clear hall hb0_ hb1_ hb2_ hb3_ hb4_ hb5_ hb6_ hb7_ hb8_ hb9_ hb10_ hb11_
                  clear HQ HO
                  have HQ := R
                  clear R O T B
                  go_wp2_with (first | (fail))
                  refine (pbAwake HQ.out HG.out.awake).mono ?_
                  rintro en u9 ⟨rfl, hQ⟩
                  have HB := Aside0.mk hQ.i.b
                  clear hQ HQ
                  go_wp2_with (first | (fail))
                  go_ret
                  exact ⟨rfl, HB.out⟩
              · have hk' : decide (0 < sizeK kd) = false := decide_eq_false hk
                go_wp2_with (first | (fail))
                refine (pbAwake HQ.out HG.out.awake).mono ?_
                rintro en u9 ⟨rfl, hQ⟩
                have HB := Aside0.mk hQ.i.b
                clear hQ HQ
                go_wp2_with (first | (fail))
                go_ret
                exact ⟨rfl, HB.out⟩
end Go.Proofs.YthidedmnmdlfkaaGreat.X
