/- Whether any two models are alike is the document's answer, and a clone is alike and in memory of its own: for every two models the law ModelTells answers true, and both read behind the call as they read before. -/
import Derived.Test.YtfejdnkmmjffcaaMModelTells3
import Derived.Test.YtfejdnkmmjffcaaMModelTells9
import Derived.Test.YtfejdnkmmjffcaaMModelTells11
import Derived.Test.YtfejdnkmmjffcaaMModelTells20
import Derived.Test.YtfejdnkmmjffcaaMModelTells21
import Derived.Test.YtfejdnkmmjffcaaRows
import Derived.Test.YtfejdnkmmjffcaaMModelTells4
import Derived.WalkKit
import Derived.ProofKit
import Derived.OpenShut
import Derived.ShutString
import Derived.ChangeOld
import Derived.Below
import Derived.SizedLaws
import Derived.Carry
namespace Go.Proofs.Ytfejdnkmmjffcaa.X
open Go.RowKit Go.Proofs.YtfejdnkmmjffcaaW.PrintWords Go.Proofs.YtfejdnkmmjffcaaW.PrintLast Go.Proofs.YtfejdnkmmjffcaaW.PrintMore
attribute [local go_sem] max2_int min2_int max_two min_two max_three min_three max_four min_four
set_option linter.unusedVariables false
set_option linter.unusedSimpArgs false
def wf40 (b : S40) : Prop := (fun p : (ByteArray) × (Int) × (List Int) => (fun a => a.size ≤ 140737488351232) p.1 ∧ ((fun a => (Lit.int .i64 a).wf = true) p.2.1 ∧ ((fun l => l.length ≤ maxLen ∧ l.length * 8 ≤ 140737488351232 ∧ ∀ x ∈ l, (fun a => (Lit.int .i64 a).wf = true) x) p.2.2))) (b.f0, b.f1, b.f2)
theorem op40 {H : Type} (enc : TypeId × Value → H) (W : World) : Opens enc Try.prog W 40 k40 wf40 :=
  Opens.struct (fun p => ⟨p.1, p.2.1, p.2.2⟩) (fun _ => rfl) Try.underlying40 (by kernel_rfl) (OpensF.more rfl (Opens.string Try.underlying9 (by kernel_rfl)) (OpensF.more rfl (Opens.int Try.underlying37 (by kernel_rfl)) (OpensF.one rfl (Opens.slice Try.underlying38 (by kernel_rfl) (by kernel_rfl) (Opens.int Try.underlying2 (by kernel_rfl))))))
def wf42 (b : S42) : Prop := (fun p : (ByteArray) × (Int) × (List Int) × (ByteArray) => (fun a => a.size ≤ 140737488351232) p.1 ∧ ((fun a => (Lit.int .i64 a).wf = true) p.2.1 ∧ ((fun l => l.length ≤ maxLen ∧ l.length * 8 ≤ 140737488351232 ∧ ∀ x ∈ l, (fun a => (Lit.int .i64 a).wf = true) x) p.2.2.1 ∧ ((fun a => a.size ≤ 140737488351232) p.2.2.2)))) (b.f0, b.f1, b.f2, b.f3)
theorem op42 {H : Type} (enc : TypeId × Value → H) (W : World) : Opens enc Try.prog W 42 k42 wf42 :=
  Opens.struct (fun p => ⟨p.1, p.2.1, p.2.2.1, p.2.2.2⟩) (fun _ => rfl) Try.underlying42 (by kernel_rfl) (OpensF.more rfl (Opens.string Try.underlying9 (by kernel_rfl)) (OpensF.more rfl (Opens.int Try.underlying37 (by kernel_rfl)) (OpensF.more rfl (Opens.slice Try.underlying38 (by kernel_rfl) (by kernel_rfl) (Opens.int Try.underlying2 (by kernel_rfl))) (OpensF.one rfl (Opens.string Try.underlying9 (by kernel_rfl))))))
def wf48 (b : S48) : Prop := (fun p : (ByteArray) × (Bool) × (Int) × (List Int) => (fun a => a.size ≤ 140737488351232) p.1 ∧ ((fun _ => True) p.2.1 ∧ ((fun a => (Lit.int .i64 a).wf = true) p.2.2.1 ∧ ((fun l => l.length ≤ maxLen ∧ l.length * 8 ≤ 140737488351232 ∧ ∀ x ∈ l, (fun a => (Lit.int .i64 a).wf = true) x) p.2.2.2)))) (b.f0, b.f1, b.f2, b.f3)
theorem op48 {H : Type} (enc : TypeId × Value → H) (W : World) : Opens enc Try.prog W 48 k48 wf48 :=
  Opens.struct (fun p => ⟨p.1, p.2.1, p.2.2.1, p.2.2.2⟩) (fun _ => rfl) Try.underlying48 (by kernel_rfl) (OpensF.more rfl (Opens.string Try.underlying9 (by kernel_rfl)) (OpensF.more rfl (Opens.bool Try.underlying4 (by kernel_rfl)) (OpensF.more rfl (Opens.int Try.underlying2 (by kernel_rfl)) (OpensF.one rfl (Opens.slice Try.underlying38 (by kernel_rfl) (by kernel_rfl) (Opens.int Try.underlying2 (by kernel_rfl)))))))
def wf46 (b : S46) : Prop := (fun p : (ByteArray) × (List ByteArray) × (ByteArray) × (List (S48)) => (fun a => a.size ≤ 140737488351232) p.1 ∧ ((fun l => l.length ≤ maxLen ∧ l.length * 16 ≤ 140737488351232 ∧ ∀ x ∈ l, (fun a => a.size ≤ 140737488351232) x) p.2.1 ∧ ((fun a => a.size ≤ 140737488351232) p.2.2.1 ∧ ((fun l => l.length ≤ maxLen ∧ l.length * 56 ≤ 140737488351232 ∧ ∀ x ∈ l, wf48 x) p.2.2.2)))) (b.f0, b.f1, b.f2, b.f3)
theorem op46 {H : Type} (enc : TypeId × Value → H) (W : World) : Opens enc Try.prog W 46 k46 wf46 :=
  Opens.struct (fun p => ⟨p.1, p.2.1, p.2.2.1, p.2.2.2⟩) (fun _ => rfl) Try.underlying46 (by kernel_rfl) (OpensF.more rfl (Opens.string Try.underlying9 (by kernel_rfl)) (OpensF.more rfl (Opens.slice Try.underlying43 (by kernel_rfl) (by kernel_rfl) (Opens.string Try.underlying9 (by kernel_rfl))) (OpensF.more rfl (Opens.string Try.underlying9 (by kernel_rfl)) (OpensF.one rfl (Opens.slice Try.underlying44 (by kernel_rfl) (by kernel_rfl) (op48 enc W))))))
def wf26 (b : S26) : Prop := (fun p : (Int) × (List (S40)) × (List (S40)) × (List (S42)) × (List (S46)) => (fun a => (Lit.int .i64 a).wf = true) p.1 ∧ ((fun l => l.length ≤ maxLen ∧ l.length * 48 ≤ 140737488351232 ∧ ∀ x ∈ l, wf40 x) p.2.1 ∧ ((fun l => l.length ≤ maxLen ∧ l.length * 48 ≤ 140737488351232 ∧ ∀ x ∈ l, wf40 x) p.2.2.1 ∧ ((fun l => l.length ≤ maxLen ∧ l.length * 64 ≤ 140737488351232 ∧ ∀ x ∈ l, wf42 x) p.2.2.2.1 ∧ ((fun l => l.length ≤ maxLen ∧ l.length * 80 ≤ 140737488351232 ∧ ∀ x ∈ l, wf46 x) p.2.2.2.2))))) (b.f0, b.f1, b.f2, b.f3, b.f4)
theorem op26 {H : Type} (enc : TypeId × Value → H) (W : World) : Opens enc Try.prog W 26 k26 wf26 :=
  Opens.struct (fun p => ⟨p.1, p.2.1, p.2.2.1, p.2.2.2.1, p.2.2.2.2⟩) (fun _ => rfl) Try.underlying26 (by kernel_rfl) (OpensF.more rfl (Opens.int Try.underlying2 (by kernel_rfl)) (OpensF.more rfl (Opens.slice Try.underlying22 (by kernel_rfl) (by kernel_rfl) (op40 enc W)) (OpensF.more rfl (Opens.slice Try.underlying22 (by kernel_rfl) (by kernel_rfl) (op40 enc W)) (OpensF.more rfl (Opens.slice Try.underlying23 (by kernel_rfl) (by kernel_rfl) (op42 enc W)) (OpensF.one rfl (Opens.slice Try.underlying24 (by kernel_rfl) (by kernel_rfl) (op46 enc W)))))))
theorem exP {α : Type} (P : Nat → α → Prop) (mono : ∀ {K K' x}, K ≤ K' → P K x → P K' x) (h : ∀ x, ∃ K, P K x) (l : List α) : ∃ K, ∀ x ∈ l, P K x := by
  induction l with
  | nil => exact ⟨0, fun x hx => nomatch hx⟩
  | cons a l ih =>
    obtain ⟨K, hK⟩ := ih
    obtain ⟨K', hK'⟩ := h a
    refine ⟨K + K', fun x hx => ?_⟩
    rcases List.mem_cons.1 hx with rfl | hx
    · exact mono (by omega) hK'
    · exact mono (by omega) (hK x hx)
theorem exN (l : List S46) : ∃ K, ∀ x ∈ l, x.f1.length < K ∧ x.f3.length + 1 < K ∧ ∀ y ∈ x.f3, x.f3.length + y.f3.length + 2 < K :=
  exP (fun K x => x.f1.length < K ∧ x.f3.length + 1 < K ∧ ∀ y ∈ x.f3, x.f3.length + y.f3.length + 2 < K) (fun h ⟨a, b, c⟩ => ⟨by omega, by omega, fun y hy => by have := c y hy; omega⟩) (fun x => by
    obtain ⟨K, hK⟩ := exP (fun K (y : S48) => y.f3.length < K) (fun h g => by omega) (fun y => ⟨_, Nat.lt_succ_self _⟩) x.f3
    exact ⟨x.f1.length + x.f3.length + K + 3, by omega, by omega, fun y hy => by have := hK y hy; omega⟩) l
theorem exI (l : List S40) : ∃ K, ∀ x ∈ l, x.f2.length < K := exP (fun K x => x.f2.length < K) (fun h g => by omega) (fun x => ⟨_, Nat.lt_succ_self _⟩) l
structure Fit (K : Nat) (x : S26) : Prop where
  ok : ModOk K x.f1 x.f2 x.f3 x.f4
  n1 : x.f1.length < 2932031007402
  n2 : x.f2.length < 2932031007402
  n3 : x.f3.length < 2199023255552
  n4 : x.f4.length < 1759218604441
  d1 : ∀ y ∈ x.f1, y.f2.length < 17592186044416
  d2 : ∀ y ∈ x.f2, y.f2.length < 17592186044416
  d3 : ∀ y ∈ x.f3, y.f2.length < 17592186044416
  d4 : ∀ y ∈ x.f4, NodeCl K y
  s4 : ∀ y ∈ x.f4, ∀ s ∈ y.f1, s.size ≤ 140737488351232
theorem fit_of (x : S26) (w : wf26 x) : ∃ K0, ∀ K, K0 ≤ K → Fit K x := by
  obtain ⟨a, l1, l2, l3, l4⟩ := x
  obtain ⟨_, ⟨_, b1, w1⟩, ⟨_, b2, w2⟩, ⟨_, b3, w3⟩, ⟨_, b4, w4⟩⟩ := w
  dsimp only at b1 b2 b3 b4 w1 w2 w3 w4
  have hb : big = 1000000000000000000 := rfl
  have i1 : ∀ y ∈ l1, y.f2.length < 17592186044416 := fun y hy => by
    obtain ⟨_, _, _, h, _⟩ := w1 y hy
    have h : y.f2.length * 8 ≤ 140737488351232 := h
    omega
  have i2 : ∀ y ∈ l2, y.f2.length < 17592186044416 := fun y hy => by
    obtain ⟨_, _, _, h, _⟩ := w2 y hy
    have h : y.f2.length * 8 ≤ 140737488351232 := h
    omega
  have i3 : ∀ y ∈ l3, y.f2.length < 17592186044416 := fun y hy => by
    obtain ⟨_, _, ⟨_, h, _⟩, _⟩ := w3 y hy
    have h : y.f2.length * 8 ≤ 140737488351232 := h
    omega
  have i4 : ∀ y ∈ l4, y.f1.length < 8796093022208 ∧ y.f3.length < 2513169434916 ∧ (∀ z ∈ y.f3, z.f3.length < 17592186044416) ∧ ∀ s ∈ y.f1, s.size ≤ 140737488351232 := fun y hy => by
    obtain ⟨_, ⟨_, h1, h2⟩, _, ⟨_, h3, h4⟩⟩ := w4 y hy
    have h1 : y.f1.length * 16 ≤ 140737488351232 := h1
    have h3 : y.f3.length * 56 ≤ 140737488351232 := h3
    refine ⟨by omega, by omega, fun z hz => ?_, fun s hs => h2 s hs⟩
    obtain ⟨_, _, _, ⟨_, h, _⟩⟩ := h4 z hz
    have h : z.f3.length * 8 ≤ 140737488351232 := h
    omega
  obtain ⟨K4, k4⟩ := exN l4
  obtain ⟨K1, k1⟩ := exI l1
  obtain ⟨K2, k2⟩ := exI l2
  clear w1 w2 w3 w4
  refine ⟨l1.length + l2.length + l3.length + l4.length + K1 + K2 + K4 + 1, fun K hK => ⟨⟨by dsimp only; omega, by dsimp only; omega, by dsimp only; omega, by dsimp only; omega, fun y hy => ?_, fun y hy => ?_, fun y hy => ?_, fun y hy => ?_, by dsimp only; omega, by dsimp only; omega, by dsimp only; omega, by dsimp only; omega⟩, by dsimp only; omega, by dsimp only; omega, by dsimp only; omega, by dsimp only; omega, i1, i2, i3, fun y hy => ?_, fun y hy => (i4 y hy).2.2.2⟩⟩
  · have := i1 y hy; have := k1 y hy; exact ⟨by omega, by omega⟩
  · have := i2 y hy; have := k2 y hy; exact ⟨by omega, by omega⟩
  · have := i3 y hy; omega
  · obtain ⟨h1, h2, h3, _⟩ := i4 y hy
    obtain ⟨g1, g2, g3⟩ := k4 y hy
    exact ⟨by omega, by omega, fun z hz => by have := h3 z hz; omega, by omega, by omega, fun z hz => by have := g3 z hz; omega⟩
  · obtain ⟨h1, h2, h3, _⟩ := i4 y hy
    obtain ⟨g1, g2, g3⟩ := k4 y hy
    exact ⟨h1, h2, h3, by omega⟩
theorem awake10 : agatelaw10_Awake.f = some true := by decide +kernel
theorem tellsAll (x y : S26) (wx : wf26 x) (wy : wf26 y) {A1 A2 A3 A4 yA1 yA2 yA3 yA4 : Option Addr} {c1 c2 c3 c4 yc1 yc2 yc3 yc4 : Nat} (w : World) (hx : XM w A1 c1 x.f1 A2 c2 x.f2 A3 c3 x.f3 A4 c4 x.f4) (hy : XM w yA1 yc1 y.f1 yA2 yc2 y.f2 yA3 yc3 y.f3 yA4 yc4 y.f4) :
    Calls Try.prog 3 #[.agg #[.int .i64 x.f0, .slice A1 x.f1.length c1, .slice A2 x.f2.length c2, .slice A3 x.f3.length c3, .slice A4 x.f4.length c4], .agg #[.int .i64 y.f0, .slice yA1 y.f1.length yc1, .slice yA2 y.f2.length yc2, .slice yA3 y.f3.length yc3, .slice yA4 y.f4.length yc4]] w fun e w' => e = .returned (.bool true) ∧ Below w.heap.size w w' := by
  obtain ⟨Kx, hKx⟩ := fit_of x wx
  obtain ⟨Ky, hKy⟩ := fit_of y wy
  obtain ⟨K, hK⟩ : ∃ K, K = Kx + Ky := ⟨_, rfl⟩
  have fx := hKx K (by omega)
  have fy := hKy K (by omega)
  obtain ⟨k, hk⟩ : ∃ k, k = 10 * K + 100 := ⟨_, rfl⟩
  obtain ⟨s, e1, s1⟩ := same_ev (a := x.f0) (b := y.f0) y.f1 y.f2 y.f3 y.f4 fx.ok (k := k) (by omega)
  obtain ⟨s', e2, s2⟩ := rsame_ev (a := x.f0) (b := y.f0) y.f1 y.f2 y.f3 y.f4 fx.ok (k := k) (by omega)
  obtain rfl : s = s' := Bool.eq_iff_iff.2 (s1.trans s2.symm)
  obtain ⟨t1, g1, h1⟩ := same_ev (a := x.f0) (b := x.f0) x.f1 x.f2 x.f3 x.f4 fx.ok (k := k) (by omega)
  obtain ⟨t2, g2, h2⟩ := rsame_ev (a := x.f0) (b := x.f0) x.f1 x.f2 x.f3 x.f4 fx.ok (k := k) (by omega)
  obtain ⟨t3, g3, h3⟩ := rsame_ev (a := y.f0) (b := y.f0) y.f1 y.f2 y.f3 y.f4 fy.ok (k := k) (by omega)
  obtain rfl := h1.2 (sameP_refl _ _ _ _ _)
  obtain rfl := h2.2 (sameP_refl _ _ _ _ _)
  obtain rfl := h3.2 (sameP_refl _ _ _ _ _)
  have xk := fx.ok
  have yk := fy.ok
  exact tells x.f0 y.f0 A1 c1 x.f1 A2 c2 x.f2 A3 c3 x.f3 A4 c4 x.f4 yA1 yc1 y.f1 yA2 yc2 y.f2 yA3 yc3 y.f3 yA4 yc4 y.f4 _ _ _ _ _ _ _ _ s _ _ k w hx hy rfl rfl
    (of_f x.f0 x.f1 x.f2 x.f3 x.f4 fx.n1 fx.n2 fx.n3 fx.n4 K (fun z hz => ⟨(fx.d4 z hz).j, (fx.d4 z hz).k⟩) k (by have := xk.k1; have := xk.k2; have := xk.k3; have := xk.k4; omega))
    (of_f y.f0 y.f1 y.f2 y.f3 y.f4 fy.n1 fy.n2 fy.n3 fy.n4 K (fun z hz => ⟨(fy.d4 z hz).j, (fy.d4 z hz).k⟩) k (by have := yk.k1; have := yk.k2; have := yk.k3; have := yk.k4; omega))
    (clone_f x.f0 fx.n1 fx.n2 fx.n3 fx.n4 fx.d1 fx.d2 fx.d3 fx.d4 (by have := xk.k1; have := xk.k2; have := xk.k3; have := xk.k4; omega))
    (clone_f y.f0 fy.n1 fy.n2 fy.n3 fy.n4 fy.d1 fy.d2 fy.d3 fy.d4 (by have := yk.k1; have := yk.k2; have := yk.k3; have := yk.k4; omega))
    e1 e2 g1 g2 g3 awake10 ⟨fy.s4, Nat.le_of_lt fy.n4⟩
end Go.Proofs.Ytfejdnkmmjffcaa.X
namespace Go.Proofs.Ytfejdnkmmjffcaa.modelTells
open Go.ChangeShapes Go.WideShapes Go.ChangeAt Go.RowKit Go.Proofs.Ytfejdnkmmjffcaa.X Go.Proofs.YtfejdnkmmjffcaaW.PrintWords
set_option linter.unusedVariables false
theorem own : ownKnob Try.prog.godebug = none := by kernel_rfl
theorem laidOut : laidOutB Try.prog = true := by kernel_rfl
set_option maxRecDepth 100000 in
theorem lifted (os : Os) (started : os.Started) (H : Type) (enc : TypeId × Value → H) :
    ReturnsInHanded {} Try.checked os 3 .any (Rows.modelTellsSpec.pre6 enc Try.prog Try.f3 Rows.modelTellsRow.domain false) (Rows.modelTellsSpec.post enc Try.prog Try.f3 false true false false) := by
  refine returnsInHanded_of_change_sized (C := Try.checked) own started (by kernel_rfl) Try.func3
    (ChangeSpec.witness6 (enc := enc) (C := Try.checked) false ⟨#[], #[.agg #[.int .i64 0, .slice none 0 0, .slice none 0 0, .slice none 0 0, .slice none 0 0], .agg #[.int .i64 0, .slice none 0 0, .slice none 0 0, .slice none 0 0, .slice none 0 0]], []⟩ 8 (by kernel_rfl) (by kernel_rfl) (by kernel_rfl) (by kernel_rfl)) ?_
  intro W base args ds gs before hval0 hW hcnd hsz0 _
  have hsz : (DataW.weightsEach Try.prog (Try.f3.params.toList ++ Rows.modelTellsSpec.plain.varTypes Try.prog) (ds ++ gs)).all (· ≤ reachBytes) = true := hsz0
  have hval : ∀ (j : Nat) t v, Try.f3.params[j]? = some t → args[j]? = some v → Value.okWide Try.prog W .any base t v := hval0
  have hW' := hW
  obtain ⟨p, q, hA0, hV, rfl, hfz, hnd⟩ := hW
  have hA : DataW.TrodAll enc Try.prog W 0 (fun _ => true) true Try.f3.params.toList args.toList ds p := hA0
  rw [Try.params3] at hA hval hsz
  obtain ⟨v0, vs0, d0, ds0, p0, q0, hargs, rfl, rfl, h0, r0⟩ := trodAll_cons hA
  obtain ⟨v1, vs1, d1, ds1, p1, q1, rfl, rfl, rfl, h1, r1⟩ := trodAll_cons r0
  obtain ⟨rfl, rfl, rfl⟩ := trodAll_nil r1
  obtain rfl : args = #[v0, v1] := by cases args; simp_all
  obtain ⟨rfl, rfl⟩ := trodVars_none hV
  have k0 := h0
  have lt0 : ∀ x ∈ p0, x.block < W.heap.size := by obtain ⟨m, hm⟩ := k0; exact DataW.trod_lt m _ _ _ hm
  obtain ⟨fuel0, hf0⟩ := h0
  obtain ⟨x0, K0, wf0⟩ := ((op26 enc W) : Opens enc Try.prog W 26 k26 wf26).go fuel0 _ _ hf0 (fun m hm => by simpa using List.all_eq_true.1 hsz m (DataW.weights_mem_each (j := 0) (t := 26) rfl rfl m hm))
  obtain ⟨cs0, rfl, _⟩ := okWide_struct Try.underlying26 (hval 0 26 v0 rfl rfl)
  have K0' : k26.K W x0 cs0.toList := K0
  obtain ⟨A0_1, c0_1, A0_2, c0_2, A0_3, c0_3, A0_4, c0_4, e0, hc0_1, hr0_1, hc0_2, hr0_2, hc0_3, hr0_3, hc0_4, hr0_4⟩ := k26_open K0'
  obtain rfl : cs0 = #[.int .i64 x0.f0, .slice A0_1 x0.f1.length c0_1, .slice A0_2 x0.f2.length c0_2, .slice A0_3 x0.f3.length c0_3, .slice A0_4 x0.f4.length c0_4] := by cases cs0; simpa using e0
  have k1 := h1
  have lt1 : ∀ x ∈ p1, x.block < W.heap.size := by obtain ⟨m, hm⟩ := k1; exact DataW.trod_lt m _ _ _ hm
  obtain ⟨fuel1, hf1⟩ := h1
  obtain ⟨x1, K1, wf1⟩ := ((op26 enc W) : Opens enc Try.prog W 26 k26 wf26).go fuel1 _ _ hf1 (fun m hm => by simpa using List.all_eq_true.1 hsz m (DataW.weights_mem_each (j := 1) (t := 26) rfl rfl m hm))
  obtain ⟨cs1, rfl, _⟩ := okWide_struct Try.underlying26 (hval 1 26 v1 rfl rfl)
  have K1' : k26.K W x1 cs1.toList := K1
  obtain ⟨A1_1, c1_1, A1_2, c1_2, A1_3, c1_3, A1_4, c1_4, e1, hc1_1, hr1_1, hc1_2, hr1_2, hc1_3, hr1_3, hc1_4, hr1_4⟩ := k26_open K1'
  obtain rfl : cs1 = #[.int .i64 x1.f0, .slice A1_1 x1.f1.length c1_1, .slice A1_2 x1.f2.length c1_2, .slice A1_3 x1.f3.length c1_3, .slice A1_4 x1.f4.length c1_4] := by cases cs1; simpa using e1
  clear hA0 hval0 hsz0 hsz
  refine (tellsAll x0 x1 wf0 wf1 W ⟨Kd.F_mono (Kd.C_F (Kd.heap_iso _ (Kd.heap_pair Kd.heap_string (Kd.heap_pair (Kd.heap_int .i64) (Kd.heap_slice _ (Kd.heap_int .i64))))) hr0_1) (fun _ _ => trivial), hc0_1, Kd.F_mono (Kd.C_F (Kd.heap_iso _ (Kd.heap_pair Kd.heap_string (Kd.heap_pair (Kd.heap_int .i64) (Kd.heap_slice _ (Kd.heap_int .i64))))) hr0_2) (fun _ _ => trivial), hc0_2, Kd.F_mono (Kd.C_F (Kd.heap_iso _ (Kd.heap_pair Kd.heap_string (Kd.heap_pair (Kd.heap_int .i64) (Kd.heap_pair (Kd.heap_slice _ (Kd.heap_int .i64)) Kd.heap_string)))) hr0_3) (fun _ _ => trivial), hc0_3, Kd.F_mono (Kd.C_F (Kd.heap_iso _ (Kd.heap_pair Kd.heap_string (Kd.heap_pair (Kd.heap_slice _ Kd.heap_string) (Kd.heap_pair Kd.heap_string (Kd.heap_slice _ (Kd.heap_iso _ (Kd.heap_pair Kd.heap_string (Kd.heap_pair Kd.heap_bool (Kd.heap_pair (Kd.heap_int .i64) (Kd.heap_slice _ (Kd.heap_int .i64))))))))))) hr0_4) (fun _ _ => trivial), hc0_4⟩ ⟨Kd.F_mono (Kd.C_F (Kd.heap_iso _ (Kd.heap_pair Kd.heap_string (Kd.heap_pair (Kd.heap_int .i64) (Kd.heap_slice _ (Kd.heap_int .i64))))) hr1_1) (fun _ _ => trivial), hc1_1, Kd.F_mono (Kd.C_F (Kd.heap_iso _ (Kd.heap_pair Kd.heap_string (Kd.heap_pair (Kd.heap_int .i64) (Kd.heap_slice _ (Kd.heap_int .i64))))) hr1_2) (fun _ _ => trivial), hc1_2, Kd.F_mono (Kd.C_F (Kd.heap_iso _ (Kd.heap_pair Kd.heap_string (Kd.heap_pair (Kd.heap_int .i64) (Kd.heap_pair (Kd.heap_slice _ (Kd.heap_int .i64)) Kd.heap_string)))) hr1_3) (fun _ _ => trivial), hc1_3, Kd.F_mono (Kd.C_F (Kd.heap_iso _ (Kd.heap_pair Kd.heap_string (Kd.heap_pair (Kd.heap_slice _ Kd.heap_string) (Kd.heap_pair Kd.heap_string (Kd.heap_slice _ (Kd.heap_iso _ (Kd.heap_pair Kd.heap_string (Kd.heap_pair Kd.heap_bool (Kd.heap_pair (Kd.heap_int .i64) (Kd.heap_slice _ (Kd.heap_int .i64))))))))))) hr1_4) (fun _ _ => trivial), hc1_4⟩).mono fun e W' ⟨he, bel0⟩ => ?_
  have bel : Below W.heap.size W W' := bel0
  subst he
  exact ⟨_, rfl, _, _, _, [], _, [], hW', trodAll_mk1 (shut_bool Try.underlying4 _), (trodAll_cons_mk (Below.trod laidOut (by kernel_rfl) (of_decide_eq_true (by kernel_rfl)) k0 bel lt0) (trodAll_cons_mk (Below.trod laidOut (by kernel_rfl) (of_decide_eq_true (by kernel_rfl)) k1 bel lt1) trodAll_mk0)), rfl, bel.frame _, fun h => by cases h⟩
theorem over : Rows.modelTellsRow.holds Try.pinned (OpenSpec.ofChange Rows.modelTellsSpec) :=
  OpenClaim.holds_of_wide 3 Try.f3 rfl rfl rfl rfl rfl rfl rfl ⟨rfl, rfl, rfl, rfl, rfl⟩ rfl rfl rfl rfl rfl (by kernel_rfl) Try.func3 (by kernel_rfl)
    (of_decide_eq_true (by kernel_rfl)) (by unfold Func.isWrapper; first | (rw [if_pos (by decide +kernel)]; kernel_rfl) | (rw [if_neg (by decide +kernel)]; exact ⟨rfl, rfl⟩))
    (fun os started H enc _ => lifted os started H enc)
theorem proved : Rows.ModelTellsSaid := over
#print axioms proved
end Go.Proofs.Ytfejdnkmmjffcaa.modelTells
namespace Go.Proofs.Ytfejdnkmmjffcaa
theorem modelTells_holds : Rows.ModelTellsSaid := modelTells.proved
end Go.Proofs.Ytfejdnkmmjffcaa
