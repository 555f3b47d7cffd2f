/- The least writing of any node, and of any info, is the document's, and what may be is read as it was: for arguments whose parts number at most 1048576 together. -/
import Derived.Test.YthidedmnmdlfkaaGreatMPbnodeWritesUpto2
import Derived.Test.YthidedmnmdlfkaaGreatMPbnodeWritesUpto4
import Derived.Test.YthidedmnmdlfkaaGreatMPbnodeWritesUpto5
import Derived.Test.YthidedmnmdlfkaaGreatMPbnodeWritesUpto22
import Derived.Test.YthidedmnmdlfkaaGreatMPbnodeWritesUpto23
import Derived.Test.YthidedmnmdlfkaaGreatRows
import Derived.Test.YthidedmnmdlfkaaGreatMPbnodeWritesUpto3
import Derived.Deep.CondSized
import Derived.WalkKit
import Derived.ProofKit
import Derived.OpenShut
import Derived.ShutString
import Derived.ChangeOld
import Derived.Below
import Derived.SizedLaws
import Derived.Carry
namespace Go.Proofs.YthidedmnmdlfkaaGreat.X
open Go.RowKit Go.Proofs.YthidedmnmdlfkaaGreatW.PrintWords Go.Proofs.YthidedmnmdlfkaaGreatW.PrintLast Go.Proofs.YthidedmnmdlfkaaGreatW.PrintMore
attribute [local go_sem] max2_int min2_int max_two min_two max_three min_three max_four min_four
set_option linter.unusedVariables false
set_option linter.unusedSimpArgs false
theorem pbLaw.all (op : ByteArray) (A1 : Option Addr) (c1 : Nat) (ins : List ByteArray) (out : ByteArray) (A3 : Option Addr) (c3 : Nat) (al : List S65) (nm : ByteArray) (kd : Int) (A5 : Option Addr) (c5 : Nat) (dims : List Int) (w : World)
    (h1 : ins.length ≤ c1) (f1 : Kd.F Kd.string w (fun k => k < w.heap.size) A1 ins.length ins) (h3 : al.length ≤ c3) (f3 : Kd.F k65 w (fun k => k < w.heap.size) A3 al.length al) (h5 : dims.length ≤ c5) (f5 : Kd.F (Kd.int .i64) w (fun k => k < w.heap.size) A5 dims.length dims)
    (hs : sumN op ins out al nm dims ≤ 4611686018427387904) (hal : ∀ a ∈ al, inRc a.f2 ∧ ∀ x ∈ a.f3, inRc x) (hd : ∀ x ∈ dims, inRc x) :
    Calls Tryz.prog 3 #[.agg #[.string op, .slice A1 ins.length c1, .string out, .slice A3 al.length c3], .agg #[.string nm, .int .i64 kd, .slice A5 dims.length c5]] w fun en w' => en = .returned (.bool true) ∧ Below w.heap.size w w' := by
  have e := small_eq op ins out al nm kd dims hs
  by_cases h : sumN op ins out al nm dims ≤ 6000
  · refine pbLaw.small op A1 c1 ins out A3 c3 al nm kd A5 c5 dims _ _ w h1 f1 h3 f3 h5 f5 ?_ (pbG op ins out al nm kd dims h hal hd pbAwakeF)
    unfold agatelaw10_Small.f
    rw [e, decide_eq_true (by omega)]
  · refine pbLaw.big op A1 c1 ins out A3 c3 al nm kd A5 c5 dims w h1 f1 h3 f3 h5 f5 ?_ pbAwakeF
    unfold agatelaw10_Small.f
    rw [e, decide_eq_false (by omega)]
end Go.Proofs.YthidedmnmdlfkaaGreat.X
namespace Go.Proofs.YthidedmnmdlfkaaGreat.pbnodeWrites
open Go.ChangeShapes Go.WideShapes Go.ChangeAt Go.RowKit Go.Proofs.YthidedmnmdlfkaaGreat.X Go.Proofs.YthidedmnmdlfkaaGreatW.PrintWords
set_option linter.unusedVariables false
theorem own : ownKnob Tryz.prog.godebug = none := by kernel_rfl
theorem laidOut : laidOutB Tryz.prog = true := by kernel_rfl
def wfA (b : S65) : Prop := (fun p : (ByteArray) × (Bool) × (Int) × (List Int) => (fun a => a.size ≤ 140737488351232) p.1 ∧ ((fun _ => True) p.2.1 ∧ ((fun a => (Lit.int .i64 a).wf = true) p.2.2.1 ∧ ((fun l => l.length ≤ maxLen ∧ l.length * 8 ≤ 140737488351232 ∧ ∀ x ∈ l, (fun a => (Lit.int .i64 a).wf = true) x) p.2.2.2)))) (b.f0, b.f1, b.f2, b.f3)
def bkA (b : S65) : Nat := (fun p : (ByteArray) × (Bool) × (Int) × (List Int) => (fun a => a.size + 1) p.1 + ((fun _ => 1) p.2.1 + ((fun _ => 1) p.2.2.1 + (fun l => (l.map (fun _ => 1)).sum + 1) p.2.2.2))) (b.f0, b.f1, b.f2, b.f3) + 1
theorem opA {H : Type} (enc : TypeId × Value → H) (W : World) : OpensB enc Tryz.prog W 65 k65 wfA bkA :=
  OpensB.struct (fun p => ⟨p.1, p.2.1, p.2.2.1, p.2.2.2⟩) (fun _ => rfl) Tryz.underlying65 (by kernel_rfl) (OpensBF.more rfl (OpensB.string Tryz.underlying9 (by kernel_rfl)) (OpensBF.more rfl (OpensB.bool Tryz.underlying4 (by kernel_rfl)) (OpensBF.more rfl (OpensB.int Tryz.underlying2 (by kernel_rfl)) (OpensBF.one rfl (OpensB.slice Tryz.underlying27 (by kernel_rfl) (by kernel_rfl) (OpensB.int Tryz.underlying2 (by kernel_rfl)))))))
def wfN (b : S25) : Prop := (fun p : (ByteArray) × (List ByteArray) × (ByteArray) × (List S65) => (fun a => a.size ≤ 140737488351232) p.1 ∧ ((fun l => l.length ≤ maxLen ∧ l.length * 16 ≤ 140737488351232 ∧ ∀ x ∈ l, (fun a => a.size ≤ 140737488351232) x) p.2.1 ∧ ((fun a => a.size ≤ 140737488351232) p.2.2.1 ∧ ((fun l => l.length ≤ maxLen ∧ l.length * 56 ≤ 140737488351232 ∧ ∀ x ∈ l, wfA x) p.2.2.2)))) (b.f0, b.f1, b.f2, b.f3)
def bkN (b : S25) : Nat := (fun p : (ByteArray) × (List ByteArray) × (ByteArray) × (List S65) => (fun a => a.size + 1) p.1 + ((fun l => (l.map (fun a => a.size + 1)).sum + 1) p.2.1 + ((fun a => a.size + 1) p.2.2.1 + (fun l => (l.map bkA).sum + 1) p.2.2.2))) (b.f0, b.f1, b.f2, b.f3) + 1
theorem opN {H : Type} (enc : TypeId × Value → H) (W : World) : OpensB enc Tryz.prog W 25 k25 wfN bkN :=
  OpensB.struct (fun p => ⟨p.1, p.2.1, p.2.2.1, p.2.2.2⟩) (fun _ => rfl) Tryz.underlying25 (by kernel_rfl) (OpensBF.more rfl (OpensB.string Tryz.underlying9 (by kernel_rfl)) (OpensBF.more rfl (OpensB.slice Tryz.underlying22 (by kernel_rfl) (by kernel_rfl) (OpensB.string Tryz.underlying9 (by kernel_rfl))) (OpensBF.more rfl (OpensB.string Tryz.underlying9 (by kernel_rfl)) (OpensBF.one rfl (OpensB.slice Tryz.underlying23 (by kernel_rfl) (by kernel_rfl) (opA enc W))))))
def wfI (b : S29) : Prop := (fun p : (ByteArray) × (Int) × (List Int) => (fun a => a.size ≤ 140737488351232) p.1 ∧ ((fun a => (Lit.int .i64 a).wf = true) p.2.1 ∧ ((fun l => l.length ≤ maxLen ∧ l.length * 8 ≤ 140737488351232 ∧ ∀ x ∈ l, (fun a => (Lit.int .i64 a).wf = true) x) p.2.2))) (b.f0, b.f1, b.f2)
def bkI (b : S29) : Nat := (fun p : (ByteArray) × (Int) × (List Int) => (fun a => a.size + 1) p.1 + ((fun _ => 1) p.2.1 + (fun l => (l.map (fun _ => 1)).sum + 1) p.2.2)) (b.f0, b.f1, b.f2) + 1
theorem opI {H : Type} (enc : TypeId × Value → H) (W : World) : OpensB enc Tryz.prog W 29 k29 wfI bkI :=
  OpensB.struct (fun p => ⟨p.1, p.2.1, p.2.2⟩) (fun _ => rfl) Tryz.underlying29 (by kernel_rfl) (OpensBF.more rfl (OpensB.string Tryz.underlying9 (by kernel_rfl)) (OpensBF.more rfl (OpensB.int Tryz.underlying26 (by kernel_rfl)) (OpensBF.one rfl (OpensB.slice Tryz.underlying27 (by kernel_rfl) (by kernel_rfl) (OpensB.int Tryz.underlying2 (by kernel_rfl))))))
theorem bulkA_le (l : List S65) : (l.map (fun a => a.f0.size + a.f3.length + 1)).sum ≤ (l.map bkA).sum := by
  have h := sum_mul (fun a : S65 => a.f0.size + a.f3.length + 1) bkA 1 (fun a => by
    have e : (a.f3.map (fun _ => 1)).sum = a.f3.length := by induction a.f3 with
      | nil => rfl
      | cons x t ih => rw [List.map_cons, List.sum_cons, ih, List.length_cons]; omega
    unfold bkA; simp only [e]; omega) l
  omega
theorem bulk_le (n : S25) (i : S29) (h : bkN n + bkI i ≤ 1048576) : sumN n.f0 n.f1 n.f2 n.f3 i.f0 i.f2 ≤ 4611686018427387904 := by
  have e : (i.f2.map (fun _ => 1)).sum = i.f2.length := by induction i.f2 with
    | nil => rfl
    | cons x t ih => rw [List.map_cons, List.sum_cons, ih, List.length_cons]; omega
  have hA := bulkA_le n.f3
  unfold bkN bkI at h
  simp only [e] at h
  unfold sumN
  omega
set_option maxRecDepth 100000 in
theorem lifted (os : Os) (started : os.Started) (H : Type) (enc : TypeId × Value → H) (F : Stop.Interp) :
    ReturnsInHanded {} Tryz.checked os 3 .any ((Rows.OpenSpec.upto Rows.pbnodeWritesSpec).pre6 enc Tryz.prog Tryz.f3 Rows.pbnodeWritesUptoRow.domain false) (((Rows.OpenSpec.upto Rows.pbnodeWritesSpec).at F).post enc Tryz.prog Tryz.f3 false true false false) := by
  refine returnsInHanded_of_cond_sized (C := Tryz.checked) (s := Rows.OpenSpec.upto Rows.pbnodeWritesSpec) (k := Rows.uptoSmall) rfl own started (by kernel_rfl) Tryz.func3
    (OpenSpec.witness (enc := enc) (C := Tryz.checked) (s := Rows.OpenSpec.upto Rows.pbnodeWritesSpec) (k := Rows.uptoSmall) rfl false ⟨#[], #[.agg #[.string ByteArray.empty, .slice none 0 0, .string ByteArray.empty, .slice none 0 0], .agg #[.string ByteArray.empty, .int .i64 0, .slice none 0 0]], []⟩ 8 (by kernel_rfl) (by kernel_rfl) (by kernel_rfl)
      (x := ([.agg [.lit (.string []), .nil, .lit (.string []), .nil], .agg [.lit (.string []), .lit (.int .i64 0), .nil]], [], [])) (by kernel_rfl) rfl (by kernel_rfl)) ?_
  intro W base args ds gs before hval0 hW hcnd hk hsz0 _
  have hsz : (DataW.weightsEach Tryz.prog (Tryz.f3.params.toList ++ Rows.pbnodeWritesSpec.plain.varTypes Tryz.prog) (ds ++ gs)).all (· ≤ reachBytes) = true := hsz0
  have hval : ∀ (j : Nat) t v, Tryz.f3.params[j]? = some t → args[j]? = some v → Value.okWide Tryz.prog W .any base t v := hval0
  have hW' := hW
  obtain ⟨p, q, hA0, hV, rfl, hfz, hnd⟩ := hW
  have hA : DataW.TrodAll enc Tryz.prog W 0 (fun _ => true) true Tryz.f3.params.toList args.toList ds p := hA0
  rw [Tryz.params3] at hA hval hsz
  obtain ⟨v0, vs0, d0, ds0, p0, q0, hargs, rfl, rfl, h0, r0⟩ := trodAll_cons hA
  obtain ⟨v1, vs1, d1, ds1, p1, q1, rfl, rfl, rfl, h1, r1⟩ := trodAll_cons r0
  obtain ⟨rfl, rfl, rfl⟩ := trodAll_nil r1
  obtain rfl : args = #[v0, v1] := by cases args; simp_all
  obtain ⟨rfl, rfl⟩ := trodVars_none hV
  have k0 := h0
  have lt0 : ∀ x ∈ p0, x.block < W.heap.size := by obtain ⟨m, hm⟩ := k0; exact DataW.trod_lt m _ _ _ hm
  obtain ⟨fuel0, hf0⟩ := h0
  obtain ⟨x0, K0, wf0, bk0⟩ := (opN enc W).go fuel0 _ _ hf0 (fun m hm => by simpa using List.all_eq_true.1 hsz m (DataW.weights_mem_each (j := 0) (t := 25) rfl rfl m hm))
  obtain ⟨cs0, rfl, _⟩ := okWide_struct Tryz.underlying25 (hval 0 25 v0 rfl rfl)
  have K0' : k25.K W x0 cs0.toList := K0
  obtain ⟨A0_1, c0_1, A0_3, c0_3, e0, hc0_1, hr0_1, hc0_3, hr0_3⟩ := k25_open K0'
  obtain rfl : cs0 = #[.string x0.f0, .slice A0_1 x0.f1.length c0_1, .string x0.f2, .slice A0_3 x0.f3.length c0_3] := by cases cs0; simpa using e0
  have k1 := h1
  have lt1 : ∀ x ∈ p1, x.block < W.heap.size := by obtain ⟨m, hm⟩ := k1; exact DataW.trod_lt m _ _ _ hm
  obtain ⟨fuel1, hf1⟩ := h1
  obtain ⟨x1, K1, wf1, bk1⟩ := (opI enc W).go fuel1 _ _ hf1 (fun m hm => by simpa using List.all_eq_true.1 hsz m (DataW.weights_mem_each (j := 1) (t := 29) rfl rfl m hm))
  obtain ⟨cs1, rfl, _⟩ := okWide_struct Tryz.underlying29 (hval 1 29 v1 rfl rfl)
  have K1' : k29.K W x1 cs1.toList := K1
  obtain ⟨A1_2, c1_2, e1, hc1_2, hr1_2⟩ := k29_open K1'
  obtain rfl : cs1 = #[.string x1.f0, .int .i64 x1.f1, .slice A1_2 x1.f2.length c1_2] := by cases cs1; simpa using e1
  have hbk : Rows.uptoBulk d0 + Rows.uptoBulk d1 ≤ 1048576 := by
    have h := of_decide_eq_true hk
    simp only [List.append_nil, Rows.uptoBulkAll] at h
    omega
  clear hA0 hval0 hsz0 hsz hk
  have hsum := bulk_le x0 x1 (Nat.le_trans (Nat.add_le_add bk0 bk1) hbk)
  have hwA : ∀ a ∈ x0.f3, inRc a.f2 ∧ ∀ x ∈ a.f3, inRc x := fun a ha => by
    obtain ⟨_, _, h2, _, _, h3⟩ := wf0.2.2.2.2.2 a ha
    exact ⟨wf_i64 h2, fun x hx => wf_i64 (h3 x hx)⟩
  have hwI : ∀ x ∈ x1.f2, inRc x := fun x hx => wf_i64 (wf1.2.2.2.2 x hx)
  refine (pbLaw.all x0.f0 A0_1 c0_1 x0.f1 x0.f2 A0_3 c0_3 x0.f3 x1.f0 x1.f1 A1_2 c1_2 x1.f2 W hc0_1 (Kd.C_F Kd.heap_string hr0_1) hc0_3 (Kd.C_F (Kd.heap_iso _ (Kd.heap_pair Kd.heap_string (Kd.heap_pair Kd.heap_bool (Kd.heap_pair (Kd.heap_int .i64) (Kd.heap_slice _ (Kd.heap_int .i64)))))) hr0_3) hc1_2 (Kd.C_F (Kd.heap_int .i64) hr1_2) hsum hwA hwI).mono fun e W' ⟨he, bel0⟩ => ?_
  have bel : Below W.heap.size W W' := bel0
  subst he
  exact ⟨_, rfl, _, _, _, [], _, [], hW', trodAll_mk1 (shut_bool Tryz.underlying4 _), (trodAll_cons_mk (Below.trod laidOut (by kernel_rfl) (of_decide_eq_true (by kernel_rfl)) k0 bel lt0) (trodAll_cons_mk (Below.trod laidOut (by kernel_rfl) (of_decide_eq_true (by kernel_rfl)) k1 bel lt1) trodAll_mk0)), rfl, bel.frame _, fun h => by cases h⟩
theorem proved : Rows.PbnodeWritesUptoSaid :=
  OpenClaim.holds_of_cond 3 Tryz.f3 rfl rfl rfl rfl rfl rfl rfl ⟨rfl, rfl, rfl, rfl, rfl⟩ rfl rfl rfl rfl rfl (by kernel_rfl) Tryz.func3 (by kernel_rfl)
    (of_decide_eq_true (by kernel_rfl)) (by unfold Func.isWrapper; first | (rw [if_pos (by decide +kernel)]; kernel_rfl) | (rw [if_neg (by decide +kernel)]; exact ⟨rfl, rfl⟩))
    (fun os started H enc _ F => lifted os started H enc F)
#print axioms proved
end Go.Proofs.YthidedmnmdlfkaaGreat.pbnodeWrites
namespace Go.Proofs.YthidedmnmdlfkaaGreat
theorem pbnodeWritesUpto_holds : Rows.PbnodeWritesUptoSaid := pbnodeWrites.proved
end Go.Proofs.YthidedmnmdlfkaaGreat
