import Derived.Test.YtdemgfbolcmcdaaMOpsTell2
import Derived.ChangeSlices
import Derived.SizedLaws
import Derived.ProofKit
import Derived.OpenShut
import Derived.ShutString
import Derived.ChangeOld
import Derived.Test.YtdemgfbolcmcdaaMOpsTell3
import Derived.Test.YtdemgfbolcmcdaaMOpsTell4
import Derived.Test.YtdemgfbolcmcdaaMOpsTell12
import Derived.Test.YtdemgfbolcmcdaaMOpsTell14
import Derived.Test.YtdemgfbolcmcdaaMOpsTell15
import Derived.Test.YtdemgfbolcmcdaaMOpsTell11
namespace Go.Proofs.Ytdemgfbolcmcdaa.X
open Go.RowKit Go.Proofs.YtdemgfbolcmcdaaW.PrintWords Go.Proofs.YtdemgfbolcmcdaaW.PrintLast Go.Proofs.YtdemgfbolcmcdaaW.PrintMore
attribute [local go_sem] max2_int min2_int max_two min_two max_three min_three max_four min_four
set_option linter.unusedVariables false
set_option linter.unusedSimpArgs false
theorem eqA91 (d : Nat) (w : World) (x0 y0 : ByteArray) (x1 y1 : Bool) (x2 y2 : Bool) :
    (Op.equalIn (d + 2) 91 (.agg #[.string x0, .bool x1, .bool x2]) (.agg #[.string y0, .bool y1, .bool y2])).run Try.prog w = .ok (x0.toList == y0.toList && (x1 == y1 && (x2 == y2))) w := by
  refine eqA_of Try.underlying91 (by kernel_rfl) ?_
  refine eqf_cons (by rfl) (by go_simp; rfl) (by go_simp; rfl) (by go_simp) ?_
  refine eqf_cons (by rfl) (by go_simp; rfl) (by go_simp; rfl) (by go_simp) ?_
  exact eqf_last (by rfl) (by go_simp; rfl) (by go_simp; rfl) (by go_simp)
end Go.Proofs.Ytdemgfbolcmcdaa.X
namespace Go.Proofs.Ytdemgfbolcmcdaa.X
open Go.RowKit Go.Proofs.YtdemgfbolcmcdaaW.PrintWords Go.Proofs.YtdemgfbolcmcdaaW.PrintLast Go.Proofs.YtdemgfbolcmcdaaW.PrintMore
attribute [local go_sem] max2_int min2_int max_two min_two max_three min_three max_four min_four
set_option linter.unusedVariables false
set_option linter.unusedSimpArgs false
open Go.ChangeShapes Go.WideShapes
structure Opens {H : Type} (enc : TypeId × Value → H) (P : Program) (W : World) (t : TypeId) {α : Type} (d : Kd α) (wf : α → Prop) : Prop where
  cells : P.cellsOf t = d.sz
  go : ∀ (fuel : Nat) (cs : List Value) (x : DataW H × List MemPlace), DataW.trod enc P W 0 (fun _ => true) true fuel t cs = some x →
    (∀ n ∈ DataW.weights P t x.1, n ≤ reachBytes) → ∃ a, d.K W a cs ∧ wf a
theorem Opens.int {H : Type} {enc : TypeId × Value → H} {P : Program} {W : World} {t : TypeId} {k : IntKind} (ht : P.underlying t = some (.int k)) (hc : P.cellsOf t = 1) :
    Opens enc P W t (Kd.int k) (fun a => (Lit.int k a).wf = true) := by
  refine ⟨hc, fun fuel cs x h _ => ?_⟩
  obtain ⟨n, rfl, _, hw⟩ := DataW.trod_int ht h
  exact ⟨n, rfl, hw⟩
theorem Opens.bool {H : Type} {enc : TypeId × Value → H} {P : Program} {W : World} {t : TypeId} (ht : P.underlying t = some .bool) (hc : P.cellsOf t = 1) :
    Opens enc P W t Kd.bool (fun _ => True) := by
  refine ⟨hc, fun fuel cs x h _ => ?_⟩
  obtain ⟨b, rfl, _⟩ := DataW.trod_bool ht h
  exact ⟨b, rfl, trivial⟩
theorem Opens.string {H : Type} {enc : TypeId × Value → H} {P : Program} {W : World} {t : TypeId} (ht : P.underlying t = some .string) (hc : P.cellsOf t = 1) :
    Opens enc P W t Kd.string (fun a => a.size ≤ 140737488351232) := by
  refine ⟨hc, fun fuel cs x h hw => ?_⟩
  obtain ⟨s, rfl, rfl, _⟩ := DataW.trod_string ht h
  refine ⟨s, rfl, ?_⟩
  have := hw s.data.toList.length (by simp [DataW.weights])
  rw [Array.length_toList] at this
  exact this
theorem weights_all_mem {H : Type} {P : Program} {e : TypeId} : ∀ {l : List (DataW H)} {y : DataW H}, y ∈ l → ∀ n ∈ DataW.weights P e y, n ∈ DataW.weightsAll P e l
  | d :: r, y, hy, n, hn => by
    simp only [DataW.weightsAll, List.mem_append]
    rcases List.mem_cons.1 hy with rfl | hy
    · exact .inl hn
    · exact .inr (weights_all_mem hy n hn)
theorem Opens.slice {H : Type} {enc : TypeId × Value → H} {P : Program} {W : World} {t e : TypeId} {α : Type} {d : Kd α} {wf : α → Prop} {B : Nat} (ht : P.underlying t = some (.slice e)) (hc : P.cellsOf t = 1) (hB : P.bytesOf e = B)
    (he : Opens enc P W e d wf) :
    Opens enc P W t (Kd.slice e d) (fun l => l.length ≤ maxLen ∧ l.length * B ≤ 140737488351232 ∧ ∀ x ∈ l, wf x) := by
  refine ⟨hc, fun fuel cs x h hw => ?_⟩
  rcases DataW.trod_slice ht h with ⟨rfl, rfl⟩ | ⟨a, len, cap, elems, rest, n, _, rfl, rfl, hb, hl, hm, hlen, hel, hsp, hns⟩
  · exact ⟨[], ⟨none, 0, rfl, Nat.le_refl _, rfl, Nat.zero_le _, fun h => absurd h (Nat.lt_irrefl 0)⟩, by simp, by simp, by simp⟩
  · have hwe : ∀ y ∈ elems, ∀ n ∈ DataW.weights P e y.1, n ≤ reachBytes := by
      intro y hy n hn
      refine hw n ?_
      simp only [DataW.weights, ht, List.mem_cons, List.mem_append]
      exact .inr (.inl (weights_all_mem (List.mem_map_of_mem hy) n hn))
    have hsize : (elems.length + rest.length) * P.bytesOf e ≤ reachBytes := by
      have := hw ((elems.length + rest.length) * P.bytesOf e) (by simp [DataW.weights, ht])
      exact this
    have each : ∀ i, i < len → ∃ y c, W.cells? 0 (a.add (i * P.cellsOf e)) (P.cellsOf e) = some c ∧ d.K W y c ∧ wf y := by
      intro i hi
      have h1 := hel i hi
      have h2 : elems[i]? = some elems[i] := List.getElem?_eq_getElem (by omega)
      rw [h2, Option.bind_eq_some_iff] at h1
      obtain ⟨c, hcs, hy⟩ := h1
      obtain ⟨y, hk, hwf⟩ := he.go n c _ hy (hwe _ (List.getElem_mem _))
      exact ⟨y, c, hcs, hk, hwf⟩
    obtain ⟨l, hll, hlp⟩ : ∃ l : List α, l.length = len ∧ ∀ i p, l[i]? = some p → ∃ c, W.cells? 0 (a.add (i * P.cellsOf e)) (P.cellsOf e) = some c ∧ d.K W p c ∧ wf p := by
      clear hel h hw hwe hsize hlen hl hsp hns hm hb ht hc
      induction len with
      | zero => exact ⟨[], rfl, by simp⟩
      | succ m ih =>
        obtain ⟨l, hll, hlp⟩ := ih (fun i hi => each i (by omega))
        obtain ⟨y, c, hcs, hk, hwf⟩ := each m (by omega)
        refine ⟨l ++ [y], by simp [hll], fun i p hp => ?_⟩
        rcases Nat.lt_or_ge i l.length with hi | hi
        · rw [List.getElem?_append_left hi] at hp
          exact hlp i p hp
        · rw [List.getElem?_append_right hi] at hp
          obtain ⟨h0, rfl⟩ : i - l.length = 0 ∧ y = p := by
            rcases hq : i - l.length with _ | q
            · rw [hq] at hp; simpa using hp
            · rw [hq] at hp; simp at hp
          obtain rfl : i = m := by omega
          exact ⟨c, hcs, hk, hwf⟩
    subst hll
    refine ⟨l, ⟨some a, cap, rfl, hl, rfl, by unfold maxLen at hm; omega, fun _ => ⟨a, rfl, fun j p hp => ?_⟩⟩, by omega, ?_, ?_⟩
    · obtain ⟨c, hcs, hk, _⟩ := hlp j p hp
      have hclen := (World.cells?_some hcs).2.1
      refine ⟨c, by rw [hclen, he.cells], hk, fun i u hu => ?_⟩
      have hi : i < P.cellsOf e := by have := (List.getElem?_eq_some_iff.1 hu).1; omega
      have := (World.cells?_some hcs).2.2 i hi
      rw [hu, Addr.add_add] at this
      rw [← he.cells]
      exact this
    · rw [hB] at hsize
      have : l.length * B ≤ (elems.length + rest.length) * B := Nat.mul_le_mul_right _ (by omega)
      exact Nat.le_trans this hsize
    · intro x hx
      obtain ⟨i, hi⟩ := List.getElem?_of_mem hx
      obtain ⟨c, _, _, hwf⟩ := hlp i x hi
      exact hwf
structure OpensF {H : Type} (enc : TypeId × Value → H) (P : Program) (W : World) (fs : List Field) (off : Nat) {α : Type} (d : Kd α) (wf : α → Prop) : Prop where
  go : ∀ (n : Nat) (cs : List Value) (xs : List (DataW H × List MemPlace)), cs.length = off + d.sz →
    (∀ (i : Nat) (f : Field), fs[i]? = some f → DataW.trod enc P W 0 (fun _ => true) true n f.type ((cs.drop f.offset).take (P.cellsOf f.type)) = xs[i]?) → xs.length = fs.length →
    (∀ n ∈ DataW.weightsEach P (fs.map (·.type)) (xs.map (·.1)), n ≤ reachBytes) → ∃ a, d.K W a (cs.drop off) ∧ wf a
theorem OpensF.one {H : Type} {enc : TypeId × Value → H} {P : Program} {W : World} {f : Field} {off : Nat} {α : Type} {d : Kd α} {wf : α → Prop} (ho : f.offset = off) (h : Opens enc P W f.type d wf) :
    OpensF enc P W [f] off d wf := by
  refine ⟨fun n cs xs hl hx hxl hw => ?_⟩
  obtain ⟨x, rfl⟩ : ∃ x, xs = [x] := by
    match xs, hxl with
    | [x], _ => exact ⟨x, rfl⟩
  have h1 := hx 0 f rfl
  rw [ho, List.take_of_length_le (by rw [List.length_drop, h.cells]; omega)] at h1
  exact h.go n _ x h1 (fun m hm => hw m (by simp [DataW.weightsEach, hm]))
theorem OpensF.more {H : Type} {enc : TypeId × Value → H} {P : Program} {W : World} {f : Field} {fs : List Field} {off : Nat} {α β : Type} {d : Kd α} {e : Kd β} {wf : α → Prop} {wg : β → Prop} (ho : f.offset = off) (h : Opens enc P W f.type d wf)
    (hs : OpensF enc P W fs (off + d.sz) e wg) : OpensF enc P W (f :: fs) off (Kd.pair d e) (fun a => wf a.1 ∧ wg a.2) := by
  refine ⟨fun n cs xs hl hx hxl hw => ?_⟩
  obtain ⟨x, xs, rfl⟩ : ∃ x ys, xs = x :: ys := by
    match xs, hxl with
    | x :: ys, _ => exact ⟨x, ys, rfl⟩
  have hsz : (Kd.pair d e).sz = d.sz + e.sz := rfl
  have h1 := hx 0 f rfl
  rw [ho, h.cells] at h1
  obtain ⟨a, hk, hwf⟩ := h.go n _ x h1 (fun m hm => hw m (by simp [DataW.weightsEach, hm]))
  obtain ⟨b, hk2, hwg⟩ := hs.go n cs xs (by omega) (fun i g hg => hx (i + 1) g (by simpa using hg)) (by simpa using hxl) (fun m hm => hw m (by simp [DataW.weightsEach, hm]))
  refine ⟨(a, b), ⟨_, _, ?_, hk, hk2⟩, hwf, hwg⟩
  rw [← List.drop_drop, List.take_append_drop]
theorem Opens.struct {H : Type} {enc : TypeId × Value → H} {P : Program} {W : World} {t : TypeId} {fs : Array Field} {α β : Type} {d : Kd α} {wf : α → Prop} {f : β → α} (mk : α → β) (hmk : ∀ a, f (mk a) = a) (ht : P.underlying t = some (.struct fs))
    (hc : P.cellsOf t = d.sz) (h : OpensF enc P W fs.toList 0 d wf) : Opens enc P W t (Kd.iso d f) (fun b => wf (f b)) := by
  refine ⟨hc, fun fuel cs x hx hw => ?_⟩
  obtain ⟨xs, n, _, rfl, hl, hxl, hf⟩ := DataW.trod_struct ht hx
  obtain ⟨a, hk, hwf⟩ := h.go n cs xs (by rw [hl, hc]; omega) (fun i g hg => hf i g (by simpa using hg)) (by simpa using hxl) (fun m hm => hw m (by simpa [DataW.weights, ht] using hm))
  refine ⟨mk a, ?_, by rw [hmk]; exact hwf⟩
  show d.K W (f (mk a)) cs
  rw [hmk]
  simpa using hk
end Go.Proofs.Ytdemgfbolcmcdaa.X
namespace Go.Proofs.Ytdemgfbolcmcdaa.X
open Go.RowKit Go.Proofs.YtdemgfbolcmcdaaW.PrintWords Go.Proofs.YtdemgfbolcmcdaaW.PrintLast Go.Proofs.YtdemgfbolcmcdaaW.PrintMore
attribute [local go_sem] max2_int min2_int max_two min_two max_three min_three max_four min_four
set_option linter.unusedVariables false
set_option linter.unusedSimpArgs false
def wf35 (b : S35) : Prop := (fun p : (ByteArray) × (Bool) × (Int) × (List Int) => (fun a => a.size ≤ 140737488351232) p.1 ∧ ((fun _ => True) p.2.1 ∧ ((fun a => (Lit.int .i64 a).wf = true) p.2.2.1 ∧ ((fun l => l.length ≤ maxLen ∧ l.length * 8 ≤ 140737488351232 ∧ ∀ x ∈ l, (fun a => (Lit.int .i64 a).wf = true) x) p.2.2.2)))) (b.f0, b.f1, b.f2, b.f3)
theorem op35 {H : Type} (enc : TypeId × Value → H) (W : World) : Opens enc Try.prog W 35 k35 wf35 :=
  Opens.struct (fun p => ⟨p.1, p.2.1, p.2.2.1, p.2.2.2⟩) (fun _ => rfl) Try.underlying35 (by kernel_rfl) (OpensF.more rfl (Opens.string Try.underlying9 (by kernel_rfl)) (OpensF.more rfl (Opens.bool Try.underlying4 (by kernel_rfl)) (OpensF.more rfl (Opens.int Try.underlying2 (by kernel_rfl)) (OpensF.one rfl (Opens.slice Try.underlying27 (by kernel_rfl) (by kernel_rfl) (Opens.int Try.underlying2 (by kernel_rfl)))))))
def wf33 (b : S33) : Prop := (fun p : (ByteArray) × (List ByteArray) × (ByteArray) × (List (S35)) => (fun a => a.size ≤ 140737488351232) p.1 ∧ ((fun l => l.length ≤ maxLen ∧ l.length * 16 ≤ 140737488351232 ∧ ∀ x ∈ l, (fun a => a.size ≤ 140737488351232) x) p.2.1 ∧ ((fun a => a.size ≤ 140737488351232) p.2.2.1 ∧ ((fun l => l.length ≤ maxLen ∧ l.length * 56 ≤ 140737488351232 ∧ ∀ x ∈ l, wf35 x) p.2.2.2)))) (b.f0, b.f1, b.f2, b.f3)
theorem op33 {H : Type} (enc : TypeId × Value → H) (W : World) : Opens enc Try.prog W 33 k33 wf33 :=
  Opens.struct (fun p => ⟨p.1, p.2.1, p.2.2.1, p.2.2.2⟩) (fun _ => rfl) Try.underlying33 (by kernel_rfl) (OpensF.more rfl (Opens.string Try.underlying9 (by kernel_rfl)) (OpensF.more rfl (Opens.slice Try.underlying30 (by kernel_rfl) (by kernel_rfl) (Opens.string Try.underlying9 (by kernel_rfl))) (OpensF.more rfl (Opens.string Try.underlying9 (by kernel_rfl)) (OpensF.one rfl (Opens.slice Try.underlying31 (by kernel_rfl) (by kernel_rfl) (op35 enc W))))))
end Go.Proofs.Ytdemgfbolcmcdaa.X
namespace Go.Proofs.Ytdemgfbolcmcdaa.X
open Go.RowKit Go.Proofs.YtdemgfbolcmcdaaW.PrintWords Go.Proofs.YtdemgfbolcmcdaaW.PrintLast Go.Proofs.YtdemgfbolcmcdaaW.PrintMore
attribute [local go_sem] max2_int min2_int max_two min_two max_three min_three max_four min_four
set_option linter.unusedVariables false
set_option linter.unusedSimpArgs false
attribute [local go_sem high] eqA91
mutual
def agatelaw13_OpsTell.j0 : Nat → Int → ByteArray → Bool → ByteArray → List ByteArray → ByteArray → List (S35) → Option (Bool)
 | 0, _, _, _, _, _, _, _ => none
 | k + 1, x1, x2, x27, x102000, x102001, x102002, x102003 => if x27 = true then ((agatelaw13_Awake.f k).bind fun t121 => (some t121)) else ((ops_Check.f k x102000 x102001 x102002 x102003 x1).bind fun t135 => ((agatelaw10_Node.f k x102000 x102001 x102002 x102003).bind fun bt136 => ((agateref13_Check.f k bt136.1 bt136.2.1 bt136.2.2.1 bt136.2.2.2 x1).bind fun t144 => (if t135 = t144 then ((some (([x2, x102000] : List ByteArray) : List ByteArray)).bind fun y148 => (agatelaw13_OpsTell.l0 k x1 y148 (y148.length : Int) 0)) else (none)))))
def agatelaw13_OpsTell.l0 : Nat → Int → List ByteArray → Int → Int → Option (Bool)
 | 0, _, _, _, _ => none
 | k + 1, x1, x40, x41, x42 => if x42 < x41 then (if 0 ≤ x42 then (if x42 < (x40.length : Int) then ((ops_Find.f k (rdOf ByteArray.empty x40 x42) x1).bind fun bt170 => ((agateref13_Find.f k (rdOf ByteArray.empty x40 x42) x1).bind fun bt177 => (if (bt170.2.2.2 != bt177.2.2.2.2.2.2) = true then (none) else (if bt170.1 = bt177.2.2.2.1 then (if bt170.2.1 = bt177.2.2.2.2.1 then (if (bt170.2.2.1.length : Int) = (bt177.2.2.2.2.2.1.length : Int) then (agatelaw13_OpsTell.l1 k x1 (rdOf ByteArray.empty x40 x42) x40 x41 x42 bt170.2.2.1 (bt170.2.2.1.length : Int) 0 bt177.1 bt177.2.1 bt177.2.2.1 bt177.2.2.2.1 bt177.2.2.2.2.1 bt177.2.2.2.2.2.1) else (none)) else (none)) else (none))))) else (none)) else (none)) else ((agatelaw13_Awake.f k).bind fun t210 => (some t210))
def agatelaw13_OpsTell.l1 : Nat → Int → ByteArray → List ByteArray → Int → Int → List (S90) → Int → Int → ByteArray → Int → Int → Int → Int → List (S91) → Option (Bool)
 | 0, _, _, _, _, _, _, _, _, _, _, _, _, _, _ => none
 | k + 1, x1, x8, x40, x41, x42, x85, x86, x87, x187000, x187001, x187002, x187003, x187004, x187005 => if x87 < x86 then (if 0 ≤ x87 then (if x87 < (x85.length : Int) then (if x87 < (x187005.length : Int) then (if (!((((rd_T90 x85 x87).f0).toList) == (((rd_T91 x187005 x87).f0).toList)) || (!(((rd_T90 x85 x87).f1) == ((rd_T91 x187005 x87).f1)) || (!(((rd_T90 x85 x87).f2) == ((rd_T91 x187005 x87).f2))))) = true then (none) else (agatelaw13_OpsTell.l1 k x1 x8 x40 x41 x42 x85 x86 (wrap64 (x87 + 1)) x187000 x187001 x187002 x187003 x187004 x187005)) else (none)) else (none)) else (none)) else ((ops_Rows.f k x8 x1).bind fun t199 => ((agateref13_Rows.f k x8 x1).bind fun t202 => (if (t199.length : Int) = (t202.length : Int) then (agatelaw13_OpsTell.l2 k x1 t199 t202 x40 x41 x42 (t199.length : Int) 0) else (none))))
def agatelaw13_OpsTell.l2 : Nat → Int → List Int → List Int → List ByteArray → Int → Int → Int → Int → Option (Bool)
 | 0, _, _, _, _, _, _, _, _ => none
 | k + 1, x1, x15, x16, x40, x41, x42, x112, x113 => if x113 < x112 then (if 0 ≤ x113 then (if x113 < (x15.length : Int) then (if x113 < (x16.length : Int) then (if (rd x15 x113) = (rd x16 x113) then (agatelaw13_OpsTell.l2 k x1 x15 x16 x40 x41 x42 x112 (wrap64 (x113 + 1))) else (none)) else (none)) else (none)) else (none)) else (agatelaw13_OpsTell.l0 k x1 x40 x41 (wrap64 (x42 + 1)))
end
def agatelaw13_OpsTell.f (k : Nat) (a0_0 : ByteArray) (l0_1 : List ByteArray) (a0_2 : ByteArray) (l0_3 : List (S35)) (a1 : Int) (a2 : ByteArray) : Option (Bool) := (agatelaw10_Small.f 0 ([] : List (S79)) ([] : List (S79)) ([] : List (S51)) (([(⟨a0_0, l0_1, a0_2, l0_3⟩ : S33)] : List (S33)))).bind fun t105 => (if t105 = true then (agatelaw13_OpsTell.j0 k a1 a2 (decide ((a2.size : Int) > 100)) a0_0 l0_1 a0_2 l0_3) else (agatelaw13_OpsTell.j0 k a1 a2 true a0_0 l0_1 a0_2 l0_3))
def agatelaw13_OpsTell.T3 : Bool × List (List Nat × List Nat) := (true, [([], []), ([], []), ([0, 1], [0, 1]), ([], []), ([3, 2], [3]), ([], []), ([4, 5, 4], [4, 5]), ([2, 6], [2, 6])])
def agatelaw13_OpsTell.B3 : List Nat := [0, 0, 3, 0, 15, 0, 63, 127]
theorem agatelaw13_OpsTell.tab3 : rtab .any (opsOf Try.f6 3) = agatelaw13_OpsTell.T3 := by kernel_rfl
theorem agatelaw13_OpsTell.bits3 : waitsOk agatelaw13_OpsTell.T3.2 agatelaw13_OpsTell.B3 = true := by kernel_rfl
def agatelaw13_OpsTell.T24 : Bool × List (List Nat × List Nat) := (true, [([], []), ([], []), ([0, 1], [0, 1]), ([2], [2]), ([], []), ([], []), ([4, 5], [4, 5]), ([6], [6]), ([3, 7], [3, 7])])
def agatelaw13_OpsTell.B24 : List Nat := [0, 0, 3, 7, 0, 0, 48, 112, 255]
theorem agatelaw13_OpsTell.tab24 : rtab .any (opsOf Try.f6 24) = agatelaw13_OpsTell.T24 := by kernel_rfl
theorem agatelaw13_OpsTell.bits24 : waitsOk agatelaw13_OpsTell.T24.2 agatelaw13_OpsTell.B24 = true := by kernel_rfl
def agatelaw13_OpsTell.Pure : Prop := ∀ (x0 : S33) (x1 : Int) (x2 : ByteArray), wf33 x0 → (fun a => (Lit.int .i64 a).wf = true) x1 → (fun a => a.size ≤ 140737488351232) x2 → ∃ k, agatelaw13_OpsTell.f k (x0.f0) (x0.f1) (x0.f2) (x0.f3) x1 x2 = some true
end Go.Proofs.Ytdemgfbolcmcdaa.X
namespace Go.Proofs.Ytdemgfbolcmcdaa.X
open Go.RowKit Go.Proofs.YtdemgfbolcmcdaaW.PrintWords Go.Proofs.YtdemgfbolcmcdaaW.PrintLast Go.Proofs.YtdemgfbolcmcdaaW.PrintMore
attribute [local go_sem] max2_int min2_int max_two min_two max_three min_three max_four min_four
set_option linter.unusedVariables false
set_option linter.unusedSimpArgs false
attribute [local go_sem high] eqA91
set_option maxHeartbeats 8000000 in
set_option maxRecDepth 100000 in
theorem agatelaw13_OpsTell.calls (k : Nat) (a0_0 : ByteArray) (P0_1_ : Nat → Prop) (A0_1 : Option Addr) (c0_1 : Nat) (l0_1 : List ByteArray) (a0_2 : ByteArray) (P0_3_ : Nat → Prop) (A0_3 : Option Addr) (c0_3 : Nat) (l0_3 : List (S35)) (a1 : Int) (a2 : ByteArray) (r : Bool) (w : World) (hs0_1 : Kd.V Kd.string 9 w w.heap.size (fun k_ => P0_1_ k_) (.slice A0_1 l0_1.length c0_1) l0_1) (hs0_3 : Kd.V k35 35 w w.heap.size (fun k_ => P0_3_ k_) (.slice A0_3 l0_3.length c0_3) l0_3) (h : agatelaw13_OpsTell.f k a0_0 l0_1 a0_2 l0_3 a1 a2 = some r) :
  Calls Try.prog 6 #[.agg #[.string a0_0, .slice A0_1 l0_1.length c0_1, .string a0_2, .slice A0_3 l0_3.length c0_3], .int .i64 a1, .string a2] w fun e w' => e = .returned (.bool r) ∧ Below w.heap.size w w' := by
 have hu33 := Try.underlying33
 have hu26 := Try.underlying26
 have hu86 := Try.underlying86
 have hu72 := Try.underlying72
 have hu90 := Try.underlying90
 have hu91 := Try.underlying91
 have HO0_1 := Aside0.mk (show Kd.V Kd.string 9 w w.heap.size (fun k_ => ((P0_1_ k_ ∨ P0_3_ k_) ∨ w.heap.size ≤ k_)) (.slice A0_1 l0_1.length c0_1) l0_1 from Kd.V_mono hs0_1 (fun k_ hk => .inl (.inl hk)))
 have HO0_3 := Aside0.mk (show Kd.V k35 35 w w.heap.size (fun k_ => ((P0_1_ k_ ∨ P0_3_ k_) ∨ w.heap.size ≤ k_)) (.slice A0_3 l0_3.length c0_3) l0_3 from Kd.V_mono hs0_3 (fun k_ hk => .inl (.inr hk)))
 have HB := Aside0.mk (Below.refl w.heap.size w)
 have H : ((agatelaw10_Small.f 0 ([] : List (S79)) ([] : List (S79)) ([] : List (S51)) (([(⟨a0_0, l0_1, a0_2, l0_3⟩ : S33)] : List (S33)))).bind fun t105 => (if t105 = true then (agatelaw13_OpsTell.j0 k a1 a2 (decide ((a2.size : Int) > 100)) a0_0 l0_1 a0_2 l0_3) else (agatelaw13_OpsTell.j0 k a1 a2 true a0_0 l0_1 a0_2 l0_3))) = some r := h
 clear h
 have HC4 := Aside0.mk H
 clear H
 go_enter Try.func6, Try.ntmps6
 go_upto_region 1 with (first | ((with_reducible refine gate_dst (N := 3) rfl ?_); (try (refine gate_guard (by rfl) ?_; dsimp only)); refine box_event ?hg (N := 3) ?hd (cs := #[.string a0_0, .slice A0_1 l0_1.length c0_1, .string a0_2, .slice A0_3 l0_3.length c0_3]) (t := 33) ?hr ?_; (case hd => rfl); (case hg => rfl); (case hr => first | (go_simp; done) | (go_simp; rfl)); intro gb101 hg w5 hbox hb; have n0_ := Aside0.mk (Kd.V_below (Kd.V_elderB (by (with_reducible repeat (first | apply Kd.V_alloc | apply Kd.V_drewN | apply Kd.V_drew)); exact HO0_1.out) gb101 (Nat.le_of_eq hg.symm)) hb); have n1_ := Aside0.mk (Kd.V_below (Kd.V_elderB (by (with_reducible repeat (first | apply Kd.V_alloc | apply Kd.V_drewN | apply Kd.V_drew)); exact HO0_3.out) gb101 (Nat.le_of_eq hg.symm)) hb); have n2_ := Aside0.mk (below_step (hbA HB) hb); have n3_ := Aside0.mk (hbox); have n4_ := Aside0.mk ((by rw [hg]; exact (below_size (hbA HB)) : w.heap.size ≤ gb101)); have n5_ := Aside0.mk ((by rw [hg]; exact (below_size (hbA HB)) : w.heap.size ≤ gb101)); clear HO0_1; clear HO0_3; clear HB; have HO0_1 := n0_; have HO0_3 := n1_; have HB := n2_; have BK101 := n3_; have GW101 := n4_; have GE101 := n5_; clear n0_ n1_ n2_ n3_ n4_ n5_; clear hb hbox hg))
 (try simp only [Act.put, List.setIfInBounds_toArray, List.set_cons_zero, List.set_cons_succ])
 go_cut [27] (fun v27 wc => ∃ (kq : Nat) (x27_3 : Bool), v27 = .bool x27_3 ∧ Aside0 (agatelaw13_OpsTell.j0 kq a1 a2 x27_3 a0_0 l0_1 a0_2 l0_3 = some r) ∧ Aside0 (kq ≤ k) ∧ Aside0 (Kd.V Kd.string 9 wc w.heap.size (fun k_ => ((P0_1_ k_ ∨ P0_3_ k_) ∨ w.heap.size ≤ k_) ∧ k_ ≠ gb101) (.slice A0_1 l0_1.length c0_1) l0_1) ∧ Aside0 (Kd.V k35 35 wc w.heap.size (fun k_ => ((P0_1_ k_ ∨ P0_3_ k_) ∨ w.heap.size ≤ k_) ∧ k_ ≠ gb101) (.slice A0_3 l0_3.length c0_3) l0_3) ∧ Aside0 (wc.heap[gb101]? = some (.cells #[.string a0_0, (.slice A0_1 l0_1.length c0_1), .string a0_2, (.slice A0_3 l0_3.length c0_3)] 33 (0, 0))) ∧ Aside0 (Below w.heap.size w wc))
 case first =>
  have H := HC4.out; clear HC4
  obtain ⟨y102, hy102⟩ : ∃ y_ : List (S33), y_ = (([(⟨a0_0, l0_1, a0_2, l0_3⟩ : S33)] : List (S33))) := ⟨_, rfl⟩
  replace H : ((agatelaw10_Small.f 0 ([] : List (S79)) ([] : List (S79)) ([] : List (S51)) y102).bind fun t105 => (if t105 = true then (agatelaw13_OpsTell.j0 k a1 a2 (decide ((a2.size : Int) > 100)) a0_0 l0_1 a0_2 l0_3) else (agatelaw13_OpsTell.j0 k a1 a2 true a0_0 l0_1 a0_2 l0_3))) = some r := by first | (rw [hy102]; with_reducible exact H) | (have H2_ := (Option.bind_some _ _).symm.trans H; rw [hy102]; with_reducible exact H2_) | (have H2_ := (Option.bind_some _ _).symm.trans H; with_reducible exact H2_) | with_reducible exact H | (rw [hy102]; exact H) | exact H
  have Ny102 := Aside0.mk hy102
  clear hy102
  replace H := Option.bind_eq_some_iff.mp H
  obtain ⟨t105, A60, H⟩ := H
  replace H : (if t105 = true then (agatelaw13_OpsTell.j0 k a1 a2 (decide ((a2.size : Int) > 100)) a0_0 l0_1 a0_2 l0_3) else (agatelaw13_OpsTell.j0 k a1 a2 true a0_0 l0_1 a0_2 l0_3)) = some r := H
  have A6 := Aside0.mk A60
  clear A60
  by_cases c7 : t105 = true
  ·
   subst c7
   have H1 : (agatelaw13_OpsTell.j0 k a1 a2 (decide ((a2.size : Int) > 100)) a0_0 l0_1 a0_2 l0_3) = some r := by rw [if_pos rfl] at H; exact H
   clear H
   have H := H1
   clear H1
   have H' := Aside0.mk H
   clear H; have hcz8_0 : w5.cell? ⟨gb101, 0, none⟩ = some (.string a0_0) := bcA BK101 0; have hcz8_1 : w5.cell? ⟨gb101, 1, none⟩ = some (.slice A0_1 l0_1.length c0_1) := bcA BK101 1; have hcz8_2 : w5.cell? ⟨gb101, 2, none⟩ = some (.string a0_2) := bcA BK101 2; have hcz8_3 : w5.cell? ⟨gb101, 3, none⟩ = some (.slice A0_3 l0_3.length c0_3) := bcA BK101 3; have hfz8_0 := blk_frozen BK101.out 0; have hfz8_1 := blk_frozen BK101.out 1; have hfz8_2 := blk_frozen BK101.out 2; have hfz8_3 := blk_frozen BK101.out 3
   go_wp2_with (first | ((with_reducible refine gate_dst (N := 19) rfl ?_); (try (refine gate_guard (by rfl) ?_; dsimp only)); refine Kd.N_lit k33 _ 33 ?hg (N' := 19) ?hd (xs := ([(⟨a0_0, l0_1, a0_2, l0_3⟩ : S33)] : List (S33))) (inner := [.string a0_0, .slice A0_1 l0_1.length c0_1, .string a0_2, .slice A0_3 l0_3.length c0_3]) (ok := (fun k_ => ((P0_1_ k_ ∨ P0_3_ k_) ∨ w.heap.size ≤ k_) ∧ k_ ≠ gb101)) (okp := (fun k_ => ((P0_1_ k_ ∨ P0_3_ k_) ∨ w.heap.size ≤ k_) ∧ k_ ≠ gb101)) ?hr ?hp (fun _ hk => hk) ((show ∀ k_, w5.heap.size ≤ k_ → (fun k_ => ((P0_1_ k_ ∨ P0_3_ k_) ∨ w.heap.size ≤ k_) ∧ k_ ≠ gb101) k_ from fun k_ hk => ⟨(.inr (Nat.le_trans (below_size (hbA HB)) hk)), Kd.freshB (g := gb101) (bkA BK101) k_ hk⟩) _ (Nat.le_refl _)) (Below.refl _ _) (Nat.le_refl _) (by simp) ?_; (case hd => rfl); (case hg => rfl); (case hr => first | (go_simp; done) | (go_simp; rfl)); (case hp => exact (Reps.c4 (show Kd.FK k33 _ _ (⟨a0_0, l0_1, a0_2, l0_3⟩ : S33) [.string a0_0, .slice A0_1 l0_1.length c0_1, .string a0_2, .slice A0_3 l0_3.length c0_3] from (k33_mkF _ _ (⟨a0_0, l0_1, a0_2, l0_3⟩ : S33) (Kd.V_reads' (Kd.V_mono (ok' := (fun k_ => ((P0_1_ k_ ∨ P0_3_ k_) ∨ w.heap.size ≤ k_) ∧ k_ ≠ gb101)) (HO0_1.out) (fun k_ hk => ⟨hk.1, hk.2⟩))).2.1 (Kd.V_F (Kd.V_mono (ok' := (fun k_ => ((P0_1_ k_ ∨ P0_3_ k_) ∨ w.heap.size ≤ k_) ∧ k_ ≠ gb101)) (HO0_1.out) (fun k_ hk => ⟨hk.1, hk.2⟩))) (Kd.V_reads' (Kd.V_mono (ok' := (fun k_ => ((P0_1_ k_ ∨ P0_3_ k_) ∨ w.heap.size ≤ k_) ∧ k_ ≠ gb101)) (HO0_3.out) (fun k_ hk => ⟨hk.1, hk.2⟩))).2.1 (Kd.V_F (Kd.V_mono (ok' := (fun k_ => ((P0_1_ k_ ∨ P0_3_ k_) ∨ w.heap.size ≤ k_) ∧ k_ ≠ gb101)) (HO0_3.out) (fun k_ hk => ⟨hk.1, hk.2⟩))))) (Reps.none _ _))); intro v103 w9 ho10 hb hg_ hnew_; clear hg_ hnew_; (first | rw [← Ny102.out] at ho10 | (simp only [Int.reduceToNat] at ho10; rw [← Ny102.out] at ho10)); have n0_ := Aside0.mk (Kd.V_elder' (by (with_reducible repeat (first | apply Kd.V_alloc | apply Kd.V_drewN | apply Kd.V_drew)); exact HO0_1.out) (Kd.N_base ho10) hb); have n1_ := Aside0.mk (Kd.V_elder' (by (with_reducible repeat (first | apply Kd.V_alloc | apply Kd.V_drewN | apply Kd.V_drew)); exact HO0_3.out) (Kd.N_base ho10) hb); have n2_ := Aside0.mk (Kd.N_lower ho10 (below_size (hbA HB))); have n3_ := Aside0.mk (blk_below (g := gb101) (bkA BK101) hb); have n4_ := Aside0.mk (below_step (hbA HB) hb); clear HO0_1; clear HO0_3; clear BK101; clear HB; have HO0_1 := n0_; have HO0_3 := n1_; have HO104 := n2_; have BK101 := n3_; have HB := n4_; clear n0_ n1_ n2_ n3_ n4_; clear hb ho10; obtain ⟨Ao11, co11, eo11⟩ := Kd.N_slice HO104.out; subst eo11) | ((with_reducible refine gate_callee (f := 7) rfl ?_); refine goesL_ (some 21) rfl rfl Try.func7 (by kernel_rfl) rfl #[.agg #[.int .i64 0, .slice none 0 0, .slice none 0 0, .slice none 0 0, .slice Ao11 y102.length co11]] rfl (by (try simp only [List.map_toArray, List.map_cons, List.map_nil]); first | done | rfl | (simp only [List.length_drop, List.length_take]; rfl)) ?_; (refine (agatelaw10_Small.calls 0 _ _ ([] : List (S79)) _ _ ([] : List (S79)) _ _ ([] : List (S51)) _ _ y102 true _ ?side1 ?side2 ?side3 ?side4 ?side5 ?side6 ?side7 ?side8 A6.out).mono ?_); (case side1 => exact Kd.C_nil _ _); (case side2 => exact Nat.le_refl _); (case side3 => exact Kd.C_nil _ _); (case side4 => exact Nat.le_refl _); (case side5 => exact Kd.C_nil _ _); (case side6 => exact Nat.le_refl _); (case side7 => repeat (first | exact (Kd.N_reads' HO104.out).2.2 | (with_reducible refine Kd.C_alloc ?_ _) | (with_reducible refine Kd.C_drewN ?_ _) | (with_reducible refine Kd.C_drew ?_))); (case side8 => exact (Kd.N_reads' HO104.out).2.1); rintro e w12 ⟨rfl, hb⟩; refine ⟨_, rfl, ?_⟩; have n0_ := Aside0.mk (Kd.V_below (by (with_reducible repeat (first | apply Kd.V_alloc | apply Kd.V_drewN | apply Kd.V_drew)); exact HO0_1.out) hb); have n1_ := Aside0.mk (Kd.V_below (by (with_reducible repeat (first | apply Kd.V_alloc | apply Kd.V_drewN | apply Kd.V_drew)); exact HO0_3.out) hb); have n2_ := Aside0.mk (Kd.N_below (by (with_reducible repeat (first | apply Kd.N_alloc | apply Kd.N_drewN | apply Kd.N_drew)); exact HO104.out) hb); have n3_ := Aside0.mk (blk_below (g := gb101) (bkA BK101) hb); have n4_ := Aside0.mk (below_step (hbA HB) hb); clear HO0_1; clear HO0_3; clear HO104; clear BK101; clear HB; have HO0_1 := n0_; have HO0_3 := n1_; have HO104 := n2_; have BK101 := n3_; have HB := n4_; clear n0_ n1_ n2_ n3_ n4_; (try clear hb); (try clear hb2); (try clear hk); (try clear hi)))
   go_meet
   case rel => exact ⟨_, (decide ((a2.size : Int) > 100)), (by first | rfl | (simp; done) | (simp [*]; done)), H', ⟨by first | omega | exact Nat.le_refl _⟩, ⟨by (with_reducible repeat (first | apply Kd.V_alloc | apply Kd.V_drewN | apply Kd.V_drew)); exact Kd.V_mono HO0_1.out (fun _ hk => ⟨hk.1.1, hk.1.2⟩)⟩, ⟨by (with_reducible repeat (first | apply Kd.V_alloc | apply Kd.V_drewN | apply Kd.V_drew)); exact Kd.V_mono HO0_3.out (fun _ hk => ⟨hk.1.1, hk.1.2⟩)⟩, ⟨bkA BK101⟩, ⟨hbA HB⟩⟩
  ·
   replace c7 := Bool.eq_false_iff.mpr c7
   subst c7
   have H1 : (agatelaw13_OpsTell.j0 k a1 a2 true a0_0 l0_1 a0_2 l0_3) = some r := by rw [if_neg (show ¬ (false = true) by decide)] at H; exact H
   clear H
   have H := H1
   clear H1
   have H' := Aside0.mk H
   clear H; have hcz13_0 : w5.cell? ⟨gb101, 0, none⟩ = some (.string a0_0) := bcA BK101 0; have hcz13_1 : w5.cell? ⟨gb101, 1, none⟩ = some (.slice A0_1 l0_1.length c0_1) := bcA BK101 1; have hcz13_2 : w5.cell? ⟨gb101, 2, none⟩ = some (.string a0_2) := bcA BK101 2; have hcz13_3 : w5.cell? ⟨gb101, 3, none⟩ = some (.slice A0_3 l0_3.length c0_3) := bcA BK101 3; have hfz13_0 := blk_frozen BK101.out 0; have hfz13_1 := blk_frozen BK101.out 1; have hfz13_2 := blk_frozen BK101.out 2; have hfz13_3 := blk_frozen BK101.out 3
   go_wp2_with (first | ((with_reducible refine gate_dst (N := 19) rfl ?_); (try (refine gate_guard (by rfl) ?_; dsimp only)); refine Kd.N_lit k33 _ 33 ?hg (N' := 19) ?hd (xs := ([(⟨a0_0, l0_1, a0_2, l0_3⟩ : S33)] : List (S33))) (inner := [.string a0_0, .slice A0_1 l0_1.length c0_1, .string a0_2, .slice A0_3 l0_3.length c0_3]) (ok := (fun k_ => ((P0_1_ k_ ∨ P0_3_ k_) ∨ w.heap.size ≤ k_) ∧ k_ ≠ gb101)) (okp := (fun k_ => ((P0_1_ k_ ∨ P0_3_ k_) ∨ w.heap.size ≤ k_) ∧ k_ ≠ gb101)) ?hr ?hp (fun _ hk => hk) ((show ∀ k_, w5.heap.size ≤ k_ → (fun k_ => ((P0_1_ k_ ∨ P0_3_ k_) ∨ w.heap.size ≤ k_) ∧ k_ ≠ gb101) k_ from fun k_ hk => ⟨(.inr (Nat.le_trans (below_size (hbA HB)) hk)), Kd.freshB (g := gb101) (bkA BK101) k_ hk⟩) _ (Nat.le_refl _)) (Below.refl _ _) (Nat.le_refl _) (by simp) ?_; (case hd => rfl); (case hg => rfl); (case hr => first | (go_simp; done) | (go_simp; rfl)); (case hp => exact (Reps.c4 (show Kd.FK k33 _ _ (⟨a0_0, l0_1, a0_2, l0_3⟩ : S33) [.string a0_0, .slice A0_1 l0_1.length c0_1, .string a0_2, .slice A0_3 l0_3.length c0_3] from (k33_mkF _ _ (⟨a0_0, l0_1, a0_2, l0_3⟩ : S33) (Kd.V_reads' (Kd.V_mono (ok' := (fun k_ => ((P0_1_ k_ ∨ P0_3_ k_) ∨ w.heap.size ≤ k_) ∧ k_ ≠ gb101)) (HO0_1.out) (fun k_ hk => ⟨hk.1, hk.2⟩))).2.1 (Kd.V_F (Kd.V_mono (ok' := (fun k_ => ((P0_1_ k_ ∨ P0_3_ k_) ∨ w.heap.size ≤ k_) ∧ k_ ≠ gb101)) (HO0_1.out) (fun k_ hk => ⟨hk.1, hk.2⟩))) (Kd.V_reads' (Kd.V_mono (ok' := (fun k_ => ((P0_1_ k_ ∨ P0_3_ k_) ∨ w.heap.size ≤ k_) ∧ k_ ≠ gb101)) (HO0_3.out) (fun k_ hk => ⟨hk.1, hk.2⟩))).2.1 (Kd.V_F (Kd.V_mono (ok' := (fun k_ => ((P0_1_ k_ ∨ P0_3_ k_) ∨ w.heap.size ≤ k_) ∧ k_ ≠ gb101)) (HO0_3.out) (fun k_ hk => ⟨hk.1, hk.2⟩))))) (Reps.none _ _))); intro v103 w14 ho15 hb hg_ hnew_; clear hg_ hnew_; (first | rw [← Ny102.out] at ho15 | (simp only [Int.reduceToNat] at ho15; rw [← Ny102.out] at ho15)); have n0_ := Aside0.mk (Kd.V_elder' (by (with_reducible repeat (first | apply Kd.V_alloc | apply Kd.V_drewN | apply Kd.V_drew)); exact HO0_1.out) (Kd.N_base ho15) hb); have n1_ := Aside0.mk (Kd.V_elder' (by (with_reducible repeat (first | apply Kd.V_alloc | apply Kd.V_drewN | apply Kd.V_drew)); exact HO0_3.out) (Kd.N_base ho15) hb); have n2_ := Aside0.mk (Kd.N_lower ho15 (below_size (hbA HB))); have n3_ := Aside0.mk (blk_below (g := gb101) (bkA BK101) hb); have n4_ := Aside0.mk (below_step (hbA HB) hb); clear HO0_1; clear HO0_3; clear BK101; clear HB; have HO0_1 := n0_; have HO0_3 := n1_; have HO104 := n2_; have BK101 := n3_; have HB := n4_; clear n0_ n1_ n2_ n3_ n4_; clear hb ho15; obtain ⟨Ao16, co16, eo16⟩ := Kd.N_slice HO104.out; subst eo16) | ((with_reducible refine gate_callee (f := 7) rfl ?_); refine goesL_ (some 21) rfl rfl Try.func7 (by kernel_rfl) rfl #[.agg #[.int .i64 0, .slice none 0 0, .slice none 0 0, .slice none 0 0, .slice Ao16 y102.length co16]] rfl (by (try simp only [List.map_toArray, List.map_cons, List.map_nil]); first | done | rfl | (simp only [List.length_drop, List.length_take]; rfl)) ?_; (refine (agatelaw10_Small.calls 0 _ _ ([] : List (S79)) _ _ ([] : List (S79)) _ _ ([] : List (S51)) _ _ y102 false _ ?side1 ?side2 ?side3 ?side4 ?side5 ?side6 ?side7 ?side8 A6.out).mono ?_); (case side1 => exact Kd.C_nil _ _); (case side2 => exact Nat.le_refl _); (case side3 => exact Kd.C_nil _ _); (case side4 => exact Nat.le_refl _); (case side5 => exact Kd.C_nil _ _); (case side6 => exact Nat.le_refl _); (case side7 => repeat (first | exact (Kd.N_reads' HO104.out).2.2 | (with_reducible refine Kd.C_alloc ?_ _) | (with_reducible refine Kd.C_drewN ?_ _) | (with_reducible refine Kd.C_drew ?_))); (case side8 => exact (Kd.N_reads' HO104.out).2.1); rintro e w17 ⟨rfl, hb⟩; refine ⟨_, rfl, ?_⟩; have n0_ := Aside0.mk (Kd.V_below (by (with_reducible repeat (first | apply Kd.V_alloc | apply Kd.V_drewN | apply Kd.V_drew)); exact HO0_1.out) hb); have n1_ := Aside0.mk (Kd.V_below (by (with_reducible repeat (first | apply Kd.V_alloc | apply Kd.V_drewN | apply Kd.V_drew)); exact HO0_3.out) hb); have n2_ := Aside0.mk (Kd.N_below (by (with_reducible repeat (first | apply Kd.N_alloc | apply Kd.N_drewN | apply Kd.N_drew)); exact HO104.out) hb); have n3_ := Aside0.mk (blk_below (g := gb101) (bkA BK101) hb); have n4_ := Aside0.mk (below_step (hbA HB) hb); clear HO0_1; clear HO0_3; clear HO104; clear BK101; clear HB; have HO0_1 := n0_; have HO0_3 := n1_; have HO104 := n2_; have BK101 := n3_; have HB := n4_; clear n0_ n1_ n2_ n3_ n4_; (try clear hb); (try clear hb2); (try clear hk); (try clear hi)))
   go_meet
   case rel => exact ⟨_, (true), (by first | rfl | (simp; done) | (simp [*]; done)), H', ⟨by first | omega | exact Nat.le_refl _⟩, ⟨by (with_reducible repeat (first | apply Kd.V_alloc | apply Kd.V_drewN | apply Kd.V_drew)); exact Kd.V_mono HO0_1.out (fun _ hk => ⟨hk.1.1, hk.1.2⟩)⟩, ⟨by (with_reducible repeat (first | apply Kd.V_alloc | apply Kd.V_drewN | apply Kd.V_drew)); exact Kd.V_mono HO0_3.out (fun _ hk => ⟨hk.1.1, hk.1.2⟩)⟩, ⟨bkA BK101⟩, ⟨hbA HB⟩⟩
 case rest =>
  clear HC4; try clear c4; try clear c7; try clear hcz13_0; try clear hcz13_1; try clear hcz13_2; try clear hcz13_3; try clear hcz8_0; try clear hcz8_1; try clear hcz8_2; try clear hcz8_3; try clear hfz13_0; try clear hfz13_1; try clear hfz13_2; try clear hfz13_3; try clear hfz8_0; try clear hfz8_1; try clear hfz8_2; try clear hfz8_3
  obtain ⟨kq, x27_3, rfl, HA, HJ3, HO_102001, HO_102003, BK101, HB⟩ := hcut
  cases kq with
  | zero => exact absurd HA.out (by simp [agatelaw13_OpsTell.j0])
  | succ kj3 =>
   have H := HA.out; clear HA
   simp only [agatelaw13_OpsTell.j0] at H
   by_cases c18 : x27_3 = true
   ·
    subst c18
    have H1 : ((agatelaw13_Awake.f kj3).bind fun t121 => (some t121)) = some r := by rw [if_pos rfl] at H; exact H
    clear H
    have H := H1
    clear H1
    replace H := Option.bind_eq_some_iff.mp H
    obtain ⟨t121, A190, H⟩ := H
    replace H : (some t121) = some r := H
    have A19 := Aside0.mk A190
    clear A190
    obtain rfl := Option.some.inj H
    go_wp2_with (first | ((with_reducible refine gate_callee (f := 26) rfl ?_); refine goesL_ (some 28) rfl rfl Try.func26 (by kernel_rfl) rfl #[] rfl (by (try simp only [List.map_toArray, List.map_cons, List.map_nil]); first | done | rfl | (simp only [List.length_drop, List.length_take]; rfl)) ?_; (with_reducible refine (agatelaw13_Awake.calls kj3  t121 _ A19.out).mono ?_); rintro e w20 ⟨rfl, hb⟩; refine ⟨_, rfl, ?_⟩; have n0_ := Aside0.mk (Kd.V_below (by (with_reducible repeat (first | apply Kd.V_alloc | apply Kd.V_drewN | apply Kd.V_drew)); exact HO_102001.out) hb); have n1_ := Aside0.mk (Kd.V_below (by (with_reducible repeat (first | apply Kd.V_alloc | apply Kd.V_drewN | apply Kd.V_drew)); exact HO_102003.out) hb); have n2_ := Aside0.mk (blk_below (g := gb101) (bkA BK101) hb); have n3_ := Aside0.mk (below_step (hbA HB) hb); clear HO_102001; clear HO_102003; clear BK101; clear HB; have HO_102001 := n0_; have HO_102003 := n1_; have BK101 := n2_; have HB := n3_; clear n0_ n1_ n2_ n3_; (try clear hb); (try clear hb2); (try clear hk); (try clear hi)))
    go_ret
    exact ⟨by first | rfl | (simp [errW_none, errW_some] <;> rfl) | (simp [*, errW_none, errW_some] <;> rfl), hbA HB⟩
   ·
    replace c18 := Bool.eq_false_iff.mpr c18
    subst c18
    have H1 : ((ops_Check.f kj3 a0_0 l0_1 a0_2 l0_3 a1).bind fun t135 => ((agatelaw10_Node.f kj3 a0_0 l0_1 a0_2 l0_3).bind fun bt136 => ((agateref13_Check.f kj3 bt136.1 bt136.2.1 bt136.2.2.1 bt136.2.2.2 a1).bind fun t144 => (if t135 = t144 then ((some (([a2, a0_0] : List ByteArray) : List ByteArray)).bind fun y148 => (agatelaw13_OpsTell.l0 kj3 a1 y148 (y148.length : Int) 0)) else (none))))) = some r := by rw [if_neg (show ¬ (false = true) by decide)] at H; exact H
    clear H
    have H := H1
    clear H1
    replace H := Option.bind_eq_some_iff.mp H
    obtain ⟨t135, A210, H⟩ := H
    replace H : ((agatelaw10_Node.f kj3 a0_0 l0_1 a0_2 l0_3).bind fun bt136 => ((agateref13_Check.f kj3 bt136.1 bt136.2.1 bt136.2.2.1 bt136.2.2.2 a1).bind fun t144 => (if t135 = t144 then ((some (([a2, a0_0] : List ByteArray) : List ByteArray)).bind fun y148 => (agatelaw13_OpsTell.l0 kj3 a1 y148 (y148.length : Int) 0)) else (none)))) = some r := H
    have A21 := Aside0.mk A210
    clear A210
    replace H := Option.bind_eq_some_iff.mp H
    obtain ⟨⟨t136, t137, t140, t141⟩, A220, H⟩ := H
    replace H : ((agateref13_Check.f kj3 t136 t137 t140 t141 a1).bind fun t144 => (if t135 = t144 then ((some (([a2, a0_0] : List ByteArray) : List ByteArray)).bind fun y148 => (agatelaw13_OpsTell.l0 kj3 a1 y148 (y148.length : Int) 0)) else (none))) = some r := H
    have A22 := Aside0.mk A220
    clear A220
    replace H := Option.bind_eq_some_iff.mp H
    obtain ⟨t144, A230, H⟩ := H
    replace H : (if t135 = t144 then ((some (([a2, a0_0] : List ByteArray) : List ByteArray)).bind fun y148 => (agatelaw13_OpsTell.l0 kj3 a1 y148 (y148.length : Int) 0)) else (none)) = some r := H
    have A23 := Aside0.mk A230
    clear A230
    by_cases c24 : t135 = t144
    ·
     rw [if_pos c24] at H
     have c24b0 : (t135 == t144) = true := beq_iff_eq.mpr c24
     have c24b1 : (t135 != t144) = false := bne_eq_false_iff_eq.mpr c24
     clear c24
     obtain ⟨y148, hy148⟩ : ∃ y_ : List ByteArray, y_ = (([a2, a0_0] : List ByteArray)) := ⟨_, rfl⟩
     replace H : (agatelaw13_OpsTell.l0 kj3 a1 y148 (y148.length : Int) 0) = some r := by first | (rw [hy148]; with_reducible exact H) | (have H2_ := (Option.bind_some _ _).symm.trans H; rw [hy148]; with_reducible exact H2_) | (have H2_ := (Option.bind_some _ _).symm.trans H; with_reducible exact H2_) | with_reducible exact H | (rw [hy148]; exact H) | exact H
     have Ny148 := Aside0.mk hy148
     clear hy148
     have H' := Aside0.mk H
     clear H
     try go_wp2
     have n0_ := Aside0.mk (Kd.V_drew HO_102001.out)
     have n1_ := Aside0.mk (Kd.V_drew HO_102003.out)
     have n2_ := Aside0.mk (blk_drew BK101.out)
     have n3_ := Aside0.mk (below_drew1 HB.out)
     clear HO_102001; clear HO_102003; clear BK101; clear HB; have HO_102001 := n0_; have HO_102003 := n1_; have BK101 := n2_; have HB := n3_; clear n0_ n1_ n2_ n3_
     refine start_ (n := 8) (S := fun w' => w'.cell? ⟨gb101, 0, none⟩ = some (.string a0_0) ∧ w'.cell? ⟨gb101, 1, none⟩ = some (.slice A0_1 l0_1.length c0_1) ∧ w'.cell? ⟨gb101, 2, none⟩ = some (.string a0_2) ∧ w'.cell? ⟨gb101, 3, none⟩ = some (.slice A0_3 l0_3.length c0_3)) (ds := []) #[false, false, false, false, false, false, false, false] (by kernel_rfl) rfl rfl ⟨bcA BK101 0, bcA BK101 1, bcA BK101 2, bcA BK101 3⟩ (fun hHeld => ?_); refine with_tabW agatelaw13_OpsTell.tab3 agatelaw13_OpsTell.bits3 (fun HT_ HW_ => ?_)
     generalize wc.drew = w25 at HO_102001 HO_102003 BK101 HB hHeld ⊢
     refine pure_ (i := 1) (N := some 30) (v := ?_) (a' := ?_) #[false, true, false, false, false, false, false, false] rfl rfl (any_of HT_.out (by kernel_rfl)) (fun _ _ _ h => h) (Or.inl ⟨by rfl, ?_⟩) ?_ ?_
     rotate_left
     ·
      intro w'
      go_simp
      with_reducible rfl
     rotate_left
     ·
      simp only [Act.put, List.setIfInBounds_toArray, List.set_cons_zero, List.set_cons_succ, i64_w, i32_w]
      rfl
     refine pure_ (i := 5) (N := some 34) (v := ?_) (a' := ?_) #[false, true, false, false, false, true, false, false] rfl rfl (any_of HT_.out (by kernel_rfl)) (fun _ _ _ h => h) (Or.inl ⟨by rfl, ?_⟩) ?_ ?_
     rotate_left
     ·
      intro w'
      go_simp
      with_reducible rfl
     rotate_left
     ·
      simp only [Act.put, List.setIfInBounds_toArray, List.set_cons_zero, List.set_cons_succ, i64_w, i32_w]
      rfl
     refine take_ (i := 0) (N := some 29) (v := ?_) (a' := ?_) #[true, true, false, false, false, true, false, false] rfl rfl (take_ofW HT_.out HW_.out (by kernel_rfl)) (fun _ _ _ h => h) (Or.inl ⟨by rfl, ?_⟩) hHeld ?_ ?_
     rotate_left
     ·
      rintro w' ⟨s0, s1, s2, s3⟩
      go_simp
      with_reducible rfl
     rotate_left
     ·
      simp only [Act.put, List.setIfInBounds_toArray, List.set_cons_zero, List.set_cons_succ, i64_w, i32_w]
      rfl
     refine take_ (i := 3) (N := some 32) (v := ?_) (a' := ?_) #[true, true, false, true, false, true, false, false] rfl rfl (take_ofW HT_.out HW_.out (by kernel_rfl)) (fun _ _ _ h => h) (Or.inl ⟨by rfl, ?_⟩) hHeld ?_ ?_
     rotate_left
     ·
      rintro w' ⟨s0, s1, s2, s3⟩
      go_simp
      with_reducible rfl
     rotate_left
     ·
      simp only [Act.put, List.setIfInBounds_toArray, List.set_cons_zero, List.set_cons_succ, i64_w, i32_w]
      rfl
     refine one_ (i := 2) (N := some 31) #[true, true, true, true, false, true, false, false] rfl rfl (one_of HT_.out (by kernel_rfl)) (by decide) (fun K hK => ?_)
     refine goes_ Try.func30 (by kernel_rfl) rfl #[.agg #[.string a0_0, .slice A0_1 l0_1.length c0_1, .string a0_2, .slice A0_3 l0_3.length c0_3], .int .i64 a1] (by rfl) rfl rfl (by (try simp only [List.map_toArray, List.map_cons, List.map_nil]); first | done | rfl | (simp only [List.length_drop, List.length_take]; rfl)) ?_
     with_reducible refine (ops_Check.calls kj3 a0_0 _ _ l0_1 a0_2 _ _ l0_3 a1 t135 _ ?side1 ?side2 ?side3 ?side4 A21.out).mono ?_
     (case side1 => repeat (first | exact (Kd.V_reads' HO_102001.out).2.2 | (with_reducible refine Kd.C_alloc ?_ _) | (with_reducible refine Kd.C_drewN ?_ _) | (with_reducible refine Kd.C_drew ?_)))
     (case side2 => exact (Kd.V_reads' HO_102001.out).2.1)
     (case side3 => repeat (first | exact (Kd.V_reads' HO_102003.out).2.2 | (with_reducible refine Kd.C_alloc ?_ _) | (with_reducible refine Kd.C_drewN ?_ _) | (with_reducible refine Kd.C_drew ?_)))
     (case side4 => exact (Kd.V_reads' HO_102003.out).2.1)
     rintro e w26 ⟨rfl, hb⟩
     refine ⟨_, rfl, ?_⟩
     have n0_ := Aside0.mk (Kd.V_below (by (with_reducible repeat (first | apply Kd.V_alloc | apply Kd.V_drewN | apply Kd.V_drew)); exact HO_102001.out) hb)
     have n1_ := Aside0.mk (Kd.V_below (by (with_reducible repeat (first | apply Kd.V_alloc | apply Kd.V_drewN | apply Kd.V_drew)); exact HO_102003.out) hb)
     have n2_ := Aside0.mk (blk_below (g := gb101) (bkA BK101) hb); have n3_ := Aside0.mk (below_step (hbA HB) hb); clear HO_102001; clear HO_102003; clear BK101; clear HB; have HO_102001 := n0_; have HO_102003 := n1_; have BK101 := n2_; have HB := n3_; clear n0_ n1_ n2_ n3_; try clear hb; try clear hk
     refine hK.out _ _ ⟨bcA BK101 0, bcA BK101 1, bcA BK101 2, bcA BK101 3⟩ (fun hHeld => ?_)
     clear hK K
     refine norm_ (a' := ?_) ?_ ?_
     rotate_left
     ·
      show Act.put _ (some 31) _ = _
      simp only [Act.put, List.setIfInBounds_toArray, List.set_cons_zero, List.set_cons_succ, i64_w, i32_w]
      rfl
     refine one_ (i := 4) (N := some 33) #[true, true, true, true, true, true, false, false] rfl rfl (one_of HT_.out (by kernel_rfl)) (by decide) (fun K hK => ?_)
     refine goes_ Try.func11 (by kernel_rfl) rfl #[.agg #[.string a0_0, .slice A0_1 l0_1.length c0_1, .string a0_2, .slice A0_3 l0_3.length c0_3]] (by rfl) rfl rfl (by (try simp only [List.map_toArray, List.map_cons, List.map_nil]); first | done | rfl | (simp only [List.length_drop, List.length_take]; rfl)) ?_
     with_reducible refine (agatelaw10_Node.calls kj3 a0_0 (fun k_ => (((P0_1_ k_ ∨ P0_3_ k_) ∨ w.heap.size ≤ k_) ∧ k_ ≠ gb101)) _ _ l0_1 a0_2 (fun k_ => (((P0_1_ k_ ∨ P0_3_ k_) ∨ w.heap.size ≤ k_) ∧ k_ ≠ gb101)) _ _ l0_3 t136 t137 t140 t141 _ ?side1 ?side2 A22.out).mono ?_
     (case side1 => exact HO_102001.out)
     (case side2 => exact HO_102003.out)
     rintro e w27 ⟨v138, v142, rfl, ho0, ho1, hb⟩
     refine ⟨_, rfl, ?_⟩
     have n0_ := Aside0.mk (Kd.V_elder' (by (with_reducible repeat (first | apply Kd.V_alloc | apply Kd.V_drewN | apply Kd.V_drew)); exact HO_102001.out) (Kd.N_base ho1) hb)
     have n1_ := Aside0.mk (Kd.V_elder' (by (with_reducible repeat (first | apply Kd.V_alloc | apply Kd.V_drewN | apply Kd.V_drew)); exact HO_102003.out) (Kd.N_base ho1) hb)
     have n2_ := Aside0.mk (Kd.V_lower (Kd.V_mono (ok' := fun k_ => ((P0_1_ k_ ∨ P0_3_ k_) ∨ w.heap.size ≤ k_) ∧ some k_ ≠ (v142 : Value).ownBlock ∧ k_ ≠ gb101) ho0 (fun k_ hk_ => ⟨Or.elim hk_.1 (fun hs_ => Or.elim hs_ (fun hs_ => hs_.1) (fun hs_ => hs_.1)) (fun hn_ => (.inr (Nat.le_trans (below_size (hbA HB)) hn_))), hk_.2, Or.elim hk_.1 (fun hs_ => Or.elim hs_ (fun hs_ => hs_.2) (fun hs_ => hs_.2)) (fun hn_ => (Kd.freshB (g := gb101) (bkA BK101) k_ hn_))⟩)) (below_size (hbA HB)))
     have n3_ := Aside0.mk (Kd.N_lower (Kd.N_mono (ok' := fun k_ => ((P0_1_ k_ ∨ P0_3_ k_) ∨ w.heap.size ≤ k_) ∧ k_ ≠ gb101) ho1 (fun k_ hk_ => ⟨Or.elim hk_ (fun hs_ => Or.elim hs_ (fun hs_ => hs_.1) (fun hs_ => hs_.1)) (fun hn_ => (.inr (Nat.le_trans (below_size (hbA HB)) hn_))), Or.elim hk_ (fun hs_ => Or.elim hs_ (fun hs_ => hs_.2) (fun hs_ => hs_.2)) (fun hn_ => (Kd.freshB (g := gb101) (bkA BK101) k_ hn_))⟩)) (below_size (hbA HB)))
     have n4_ := Aside0.mk (blk_below (g := gb101) (bkA BK101) hb); have n5_ := Aside0.mk (below_step (hbA HB) hb); clear HO_102001; clear HO_102003; clear BK101; clear HB; have HO_102001 := n0_; have HO_102003 := n1_; have HO139 := n2_; have HO143 := n3_; have BK101 := n4_; have HB := n5_; clear n0_ n1_ n2_ n3_ n4_ n5_; try clear hb; try clear hk; try clear ho0; try clear ho1
     obtain ⟨Ao28, co28, eo28⟩ := Kd.V_slice HO139.out
     (first | subst eo28 | (injection eo28 with f1_ f2_ f3_; have f4_ := f1_.symm; have f5_ := f3_.symm; clear f1_ f2_ f3_; subst f4_; subst f5_))
     obtain ⟨Ao29, co29, eo29⟩ := Kd.N_slice HO143.out
     (first | subst eo29 | (injection eo29 with f1_ f2_ f3_; have f4_ := f1_.symm; have f5_ := f3_.symm; clear f1_ f2_ f3_; subst f4_; subst f5_))
     refine hK.out _ _ ⟨bcA BK101 0, bcA BK101 1, bcA BK101 2, bcA BK101 3⟩ (fun hHeld => ?_)
     clear hK K
     refine norm_ (a' := ?_) ?_ ?_
     rotate_left
     ·
      show Act.put _ (some 33) _ = _
      simp only [Act.put, List.setIfInBounds_toArray, List.set_cons_zero, List.set_cons_succ, i64_w, i32_w]
      rfl
     refine one_ (i := 6) (N := some 35) #[true, true, true, true, true, true, true, false] rfl rfl (one_of HT_.out (by kernel_rfl)) (by decide) (fun K hK => ?_)
     refine goes_ Try.func31 (by kernel_rfl) rfl #[.agg #[.string t136, .slice Ao28 t137.length co28, .string t140, .slice Ao29 t141.length co29], .int .i64 a1] (by rfl) rfl rfl (by (try simp only [List.map_toArray, List.map_cons, List.map_nil]); first | done | rfl | (simp only [List.length_drop, List.length_take]; rfl)) ?_
     with_reducible refine (agateref13_Check.calls kj3 t136 _ _ t137 t140 _ _ t141 a1 t144 _ ?side1 ?side2 ?side3 ?side4 A23.out).mono ?_
     (case side1 => repeat (first | exact (Kd.V_reads' HO139.out).2.2 | (with_reducible refine Kd.C_alloc ?_ _) | (with_reducible refine Kd.C_drewN ?_ _) | (with_reducible refine Kd.C_drew ?_)))
     (case side2 => exact (Kd.V_reads' HO139.out).2.1)
     (case side3 => repeat (first | exact (Kd.N_reads' HO143.out).2.2 | (with_reducible refine Kd.C_alloc ?_ _) | (with_reducible refine Kd.C_drewN ?_ _) | (with_reducible refine Kd.C_drew ?_)))
     (case side4 => exact (Kd.N_reads' HO143.out).2.1)
     rintro e w30 ⟨rfl, hb⟩
     refine ⟨_, rfl, ?_⟩
     have n0_ := Aside0.mk (Kd.V_below (by (with_reducible repeat (first | apply Kd.V_alloc | apply Kd.V_drewN | apply Kd.V_drew)); exact HO_102001.out) hb)
     have n1_ := Aside0.mk (Kd.V_below (by (with_reducible repeat (first | apply Kd.V_alloc | apply Kd.V_drewN | apply Kd.V_drew)); exact HO_102003.out) hb)
     have n2_ := Aside0.mk (Kd.V_below (by (with_reducible repeat (first | apply Kd.V_alloc | apply Kd.V_drewN | apply Kd.V_drew)); exact HO139.out) hb)
     have n3_ := Aside0.mk (Kd.N_below (by (with_reducible repeat (first | apply Kd.N_alloc | apply Kd.N_drewN | apply Kd.N_drew)); exact HO143.out) hb)
     have n4_ := Aside0.mk (blk_below (g := gb101) (bkA BK101) hb); have n5_ := Aside0.mk (below_step (hbA HB) hb); clear HO_102001; clear HO_102003; clear HO139; clear HO143; clear BK101; clear HB; have HO_102001 := n0_; have HO_102003 := n1_; have HO139 := n2_; have HO143 := n3_; have BK101 := n4_; have HB := n5_; clear n0_ n1_ n2_ n3_ n4_ n5_; try clear hb; try clear hk
     refine hK.out _ _ ⟨bcA BK101 0, bcA BK101 1, bcA BK101 2, bcA BK101 3⟩ (fun hHeld => ?_)
     clear hK K
     refine norm_ (a' := ?_) ?_ ?_
     rotate_left
     ·
      show Act.put _ (some 35) _ = _
      simp only [Act.put, List.setIfInBounds_toArray, List.set_cons_zero, List.set_cons_succ, i64_w, i32_w]
      rfl
     refine pure_ (i := 7) (N := some 36) (v := ?_) (a' := ?_) #[true, true, true, true, true, true, true, true] rfl rfl (any_of HT_.out (by kernel_rfl)) (fun _ _ _ h => h) (Or.inl ⟨by rfl, ?_⟩) ?_ ?_
     rotate_left
     ·
      intro w'
      go_simp
      with_reducible rfl
     rotate_left
     ·
      simp only [Act.put, List.setIfInBounds_toArray, List.set_cons_zero, List.set_cons_succ, i64_w, i32_w]
      rfl
     refine done_ (done_of HT_.out (by kernel_rfl)) ?_
     have hcz31_0 : w30.cell? ⟨gb101, 0, none⟩ = some (.string a0_0) := bcA BK101 0; have hcz31_1 : w30.cell? ⟨gb101, 1, none⟩ = some (.slice A0_1 l0_1.length c0_1) := bcA BK101 1; have hcz31_2 : w30.cell? ⟨gb101, 2, none⟩ = some (.string a0_2) := bcA BK101 2; have hcz31_3 : w30.cell? ⟨gb101, 3, none⟩ = some (.slice A0_3 l0_3.length c0_3) := bcA BK101 3; have hfz31_0 := blk_frozen BK101.out 0; have hfz31_1 := blk_frozen BK101.out 1; have hfz31_2 := blk_frozen BK101.out 2; have hfz31_3 := blk_frozen BK101.out 3
     try go_wp2_with (first | ((with_reducible refine gate_dst (N := 40) rfl ?_); (try (refine gate_guard (by rfl) ?_; dsimp only)); refine Kd.R_lit Kd.string _ 9 ?hg (N := 40) ?hd (xs := ([a2, a0_0] : List ByteArray)) (inner := [.string a2, .string a0_0]) (ok := fun _ => True) (okp := fun _ => True) ?hr ?hp (fun _ hk => hk) trivial (Below.refl _ _) (Nat.le_refl _) (by simp) ?_; (case hd => rfl); (case hg => rfl); (case hr => first | (go_simp; done) | (go_simp; rfl)); (case hp => exact (Reps.one (show Kd.M Kd.string _ _ _ a2 [.string a2] from rfl) (Reps.one (show Kd.M Kd.string _ _ _ a0_0 [.string a0_0] from rfl) (Reps.none _ _)))); intro v149 w32 ho33 hb hg_ hnew_; clear hg_ hnew_; (first | rw [← Ny148.out] at ho33 | (simp only [Int.reduceToNat] at ho33; rw [← Ny148.out] at ho33)); have n0_ := Aside0.mk (Kd.V_elder' (by (with_reducible repeat (first | apply Kd.V_alloc | apply Kd.V_drewN | apply Kd.V_drew)); exact HO_102001.out) (Kd.R_base ho33) hb); have n1_ := Aside0.mk (Kd.V_elder' (by (with_reducible repeat (first | apply Kd.V_alloc | apply Kd.V_drewN | apply Kd.V_drew)); exact HO_102003.out) (Kd.R_base ho33) hb); have n2_ := Aside0.mk (Kd.V_elder' (by (with_reducible repeat (first | apply Kd.V_alloc | apply Kd.V_drewN | apply Kd.V_drew)); exact HO139.out) (Kd.R_base ho33) hb); have n3_ := Aside0.mk (Kd.N_elder' (by (with_reducible repeat (first | apply Kd.N_alloc | apply Kd.N_drewN | apply Kd.N_drew)); exact HO143.out) (Kd.R_base ho33) hb); have n4_ := Aside0.mk (Kd.R_lower (Kd.R_newM (M := fun k_ => (w.heap.size ≤ k_)) ho33 (below_size (hbA HB)) (fun k_ h_ => h_)) (below_size (hbA HB))); have n5_ := Aside0.mk (blk_below (g := gb101) (bkA BK101) hb); have n6_ := Aside0.mk (below_step (hbA HB) hb); clear HO_102001; clear HO_102003; clear HO139; clear HO143; clear BK101; clear HB; have HO_102001 := n0_; have HO_102003 := n1_; have HO139 := n2_; have HO143 := n3_; have HO150 := n4_; have BK101 := n5_; have HB := n6_; clear n0_ n1_ n2_ n3_ n4_ n5_ n6_; clear hb ho33; obtain ⟨Ao34, co34, eo34⟩ := Kd.R_slice HO150.out; subst eo34))
     go_loopg [42] kj3 (fun kq v42 w' => ∃ (x42_2 : Int), v42 = .int .i64 x42_2 ∧ Aside0 (agatelaw13_OpsTell.l0 kq a1 y148 (y148.length : Int) x42_2 = some r) ∧ Aside0 (kq ≤ kj3) ∧ Aside0 (Kd.R Kd.string 9 w' w.heap.size (fun k_ => (w.heap.size ≤ k_)) (.slice Ao34 y148.length co34) y148) ∧ Aside0 (Kd.V Kd.string 9 w' w.heap.size (fun k_ => ((P0_1_ k_ ∨ P0_3_ k_) ∨ w.heap.size ≤ k_) ∧ some k_ ≠ ((.slice Ao34 y148.length co34) : Value).ownBlock ∧ k_ ≠ gb101) (.slice A0_1 l0_1.length c0_1) l0_1) ∧ Aside0 (Kd.V k35 35 w' w.heap.size (fun k_ => ((P0_1_ k_ ∨ P0_3_ k_) ∨ w.heap.size ≤ k_) ∧ some k_ ≠ ((.slice Ao34 y148.length co34) : Value).ownBlock ∧ k_ ≠ gb101) (.slice A0_3 l0_3.length c0_3) l0_3) ∧ Aside0 (w'.heap[gb101]? = some (.cells #[.string a0_0, (.slice A0_1 l0_1.length c0_1), .string a0_2, (.slice A0_3 l0_3.length c0_3)] 33 (0, 0))) ∧ Aside0 (Below w.heap.size w w'))
     case atStart => exact ⟨(0), (by first | rfl | (simp; done) | (simp [*]; done)), H', ⟨Nat.le_refl _⟩, ⟨by (with_reducible repeat (first | apply Kd.R_alloc | apply Kd.R_drewN | apply Kd.R_drew)); exact Kd.R_mono HO150.out (fun _ hk => hk.1)⟩, ⟨by (with_reducible repeat (first | apply Kd.V_alloc | apply Kd.V_drewN | apply Kd.V_drew)); exact Kd.V_mono HO_102001.out (fun _ hk => ⟨hk.1.1.1, ⟨hk.2, hk.1.1.2⟩⟩)⟩, ⟨by (with_reducible repeat (first | apply Kd.V_alloc | apply Kd.V_drewN | apply Kd.V_drew)); exact Kd.V_mono HO_102003.out (fun _ hk => ⟨hk.1.1.1, ⟨hk.2, hk.1.1.2⟩⟩)⟩, ⟨bkA BK101⟩, ⟨hbA HB⟩⟩
     case round =>
      clear H'
      obtain ⟨x42_2, rfl, HA, HK2, HO_40, HO_102001, HO_102003, BK101, HB⟩ := hrel
      cases gk with
      | zero => exact absurd HA.out (by simp [agatelaw13_OpsTell.l0])
      | succ k2 =>
       have H := HA.out; clear HA
       simp only [agatelaw13_OpsTell.l0] at H
       by_cases c35 : x42_2 < (y148.length : Int)
       ·
        rw [if_pos c35] at H
        have c35b0 : decide (x42_2 < (y148.length : Int)) = true := decide_eq_true c35
        clear c35
        by_cases c36 : 0 ≤ x42_2
        ·
         rw [if_pos c36] at H
         have c36b0 : decide (0 ≤ x42_2) = true := decide_eq_true c36
         clear c36
         by_cases c37 : x42_2 < (y148.length : Int)
         ·
          rw [if_pos c37] at H
          have c37b0 : decide (x42_2 < (y148.length : Int)) = true := decide_eq_true c37
          clear c37
          replace H := Option.bind_eq_some_iff.mp H
          obtain ⟨⟨t170, t171, t172, t175⟩, A380, H⟩ := H
          replace H : ((agateref13_Find.f k2 (rdOf ByteArray.empty y148 x42_2) a1).bind fun bt177 => (if (t175 != bt177.2.2.2.2.2.2) = true then (none) else (if t170 = bt177.2.2.2.1 then (if t171 = bt177.2.2.2.2.1 then (if (t172.length : Int) = (bt177.2.2.2.2.2.1.length : Int) then (agatelaw13_OpsTell.l1 k2 a1 (rdOf ByteArray.empty y148 x42_2) y148 (y148.length : Int) x42_2 t172 (t172.length : Int) 0 bt177.1 bt177.2.1 bt177.2.2.1 bt177.2.2.2.1 bt177.2.2.2.2.1 bt177.2.2.2.2.2.1) else (none)) else (none)) else (none)))) = some r := H
          have A38 := Aside0.mk A380
          clear A380
          replace H := Option.bind_eq_some_iff.mp H
          obtain ⟨⟨t177, t178, t179, t180, t181, t182, t185⟩, A390, H⟩ := H
          replace H : (if (t175 != t185) = true then (none) else (if t170 = t180 then (if t171 = t181 then (if (t172.length : Int) = (t182.length : Int) then (agatelaw13_OpsTell.l1 k2 a1 (rdOf ByteArray.empty y148 x42_2) y148 (y148.length : Int) x42_2 t172 (t172.length : Int) 0 t177 t178 t179 t180 t181 t182) else (none)) else (none)) else (none))) = some r := H
          have A39 := Aside0.mk A390
          clear A390
          by_cases c40 : (t175 != t185) = true
          ·
           rw [if_pos c40] at H
           exact absurd H (by simp)
          ·
           rw [if_neg c40] at H
           have c40b0 : (t175 != t185) = false := by simpa using c40
           (try (have c40b1 : decide (t175 = t185) = true := by simpa using c40))
           (try (have c40b2 : (t175 == t185) = true := by simpa using c40))
           clear c40
           by_cases c41 : t170 = t180
           ·
            rw [if_pos c41] at H
            have c41b0 : (t170 == t180) = true := beq_iff_eq.mpr c41
            have c41b1 : (t170 != t180) = false := bne_eq_false_iff_eq.mpr c41
            clear c41
            by_cases c42 : t171 = t181
            ·
             rw [if_pos c42] at H
             have c42b0 : (t171 == t181) = true := beq_iff_eq.mpr c42
             have c42b1 : (t171 != t181) = false := bne_eq_false_iff_eq.mpr c42
             clear c42
             by_cases c43 : (t172.length : Int) = (t182.length : Int)
             ·
              rw [if_pos c43] at H
              have c43b0 : ((t172.length : Int) == (t182.length : Int)) = true := beq_iff_eq.mpr c43
              have c43b1 : ((t172.length : Int) != (t182.length : Int)) = false := bne_eq_false_iff_eq.mpr c43
              have c43b2 : (t172.length == t182.length) = true := by first | simpa using c43 | (simp at c43 ⊢; omega)
              clear c43
              have H' := Aside0.mk H
              clear H
              have p169 : 0 ≤ (x42_2 : Int) := of_decide_eq_true (by first | (with_reducible assumption) | assumption)
              have q169 : x42_2 < (y148.length : Int) := of_decide_eq_true (by first | (with_reducible assumption) | assumption)
              obtain ⟨ad169, e169, hx169_0⟩ := Kd.at_string (Kd.R_reads' HO_40.out).2.2 x42_2 p169 q169
              cases e169
              replace p169 := eq_true p169
              replace q169 := eq_true q169
              go_wp2_with (first | ((with_reducible refine gate_callee (f := 32) rfl ?_); refine goesL_ (some 49) rfl rfl Try.func32 (by kernel_rfl) rfl #[.string (rdOf ByteArray.empty y148 x42_2), .int .i64 a1] rfl (by (try simp only [List.map_toArray, List.map_cons, List.map_nil]); first | done | rfl | (simp only [List.length_drop, List.length_take]; rfl)) ?_; (with_reducible refine (ops_Find.calls k2 (rdOf ByteArray.empty y148 x42_2) a1 t170 t171 t172 t175 _ A38.out).mono ?_); rintro e w44 ⟨v173, rfl, ho0, hb⟩; refine ⟨_, rfl, ?_⟩; have n0_ := Aside0.mk (Kd.R_below (krA HO_40) hb); have n1_ := Aside0.mk (Kd.V_below (by (with_reducible repeat (first | apply Kd.V_alloc | apply Kd.V_drewN | apply Kd.V_drew)); exact HO_102001.out) hb); have n2_ := Aside0.mk (Kd.V_below (by (with_reducible repeat (first | apply Kd.V_alloc | apply Kd.V_drewN | apply Kd.V_drew)); exact HO_102003.out) hb); have n3_ := Aside0.mk (Kd.V_lower (Kd.V_mono (ok' := fun k_ => ((P0_1_ k_ ∨ P0_3_ k_) ∨ w.heap.size ≤ k_) ∧ some k_ ≠ (.slice (some ad169) y148.length co34 : Value).ownBlock ∧ k_ ≠ gb101) ho0 (fun k_ hk_ => ⟨(.inr (Nat.le_trans (below_size (hbA HB)) hk_)), (Kd.fresh' (Kd.R_lt (krA HO_40)) k_ hk_), (Kd.freshB (g := gb101) (bkA BK101) k_ hk_)⟩)) (below_size (hbA HB))); have n4_ := Aside0.mk (blk_below (g := gb101) (bkA BK101) hb); have n5_ := Aside0.mk (below_step (hbA HB) hb); clear HO_40; clear HO_102001; clear HO_102003; clear BK101; clear HB; have HO_40 := n0_; have HO_102001 := n1_; have HO_102003 := n2_; have HO174 := n3_; have BK101 := n4_; have HB := n5_; clear n0_ n1_ n2_ n3_ n4_ n5_; (try clear hb); (try clear hb2); (try clear hk); (try clear hi); (try clear ho0)) | ((with_reducible refine gate_dst (N := 9) rfl ?_); (try (refine gate_guard (by rfl) ?_; dsimp only)); refine box_event ?hg (N := 9) ?hd (cs := #[.int .i64 0, .int .i64 0, .slice none 0 0]) (t := 86) ?hr ?_; (case hd => rfl); (case hg => rfl); (case hr => first | (go_simp; done) | (go_simp; rfl)); intro gb176 hg w45 hbox hb; have n0_ := Aside0.mk (Kd.R_below (krA HO_40) hb); have n1_ := Aside0.mk (Kd.V_below (Kd.V_elderB (by (with_reducible repeat (first | apply Kd.V_alloc | apply Kd.V_drewN | apply Kd.V_drew)); exact HO_102001.out) gb176 (Nat.le_of_eq hg.symm)) hb); have n2_ := Aside0.mk (Kd.V_below (Kd.V_elderB (by (with_reducible repeat (first | apply Kd.V_alloc | apply Kd.V_drewN | apply Kd.V_drew)); exact HO_102003.out) gb176 (Nat.le_of_eq hg.symm)) hb); have n3_ := Aside0.mk (Kd.V_below (Kd.V_elderB (by (with_reducible repeat (first | apply Kd.V_alloc | apply Kd.V_drewN | apply Kd.V_drew)); exact HO174.out) gb176 (Nat.le_of_eq hg.symm)) hb); have n4_ := Aside0.mk (blk_below (g := gb101) (bkA BK101) hb); have n5_ := Aside0.mk (below_step (hbA HB) hb); have n6_ := Aside0.mk (hbox); have n7_ := Aside0.mk ((by rw [hg]; exact (below_size (hbA HB)) : w.heap.size ≤ gb176)); have n8_ := Aside0.mk ((by rw [hg]; exact (below_size (hbA HB)) : w.heap.size ≤ gb176)); have n9_ := Aside0.mk ((by rw [hg]; exact Nat.ne_of_lt (blk_lt (g := gb101) (bkA BK101)) : gb101 ≠ gb176)); have n10_ := Aside0.mk ((by rw [hg]; exact Nat.ne_of_gt (blk_lt (g := gb101) (bkA BK101)) : gb176 ≠ gb101)); clear HO_40; clear HO_102001; clear HO_102003; clear HO174; clear BK101; clear HB; have HO_40 := n0_; have HO_102001 := n1_; have HO_102003 := n2_; have HO174 := n3_; have BK101 := n4_; have HB := n5_; have BK176 := n6_; have GW176 := n7_; have GE176 := n8_; have NB101_176 := n9_; have NB176_101 := n10_; clear n0_ n1_ n2_ n3_ n4_ n5_ n6_ n7_ n8_ n9_ n10_; clear hb hbox hg; have hnb46 := NB176_101.out; have hnc46 := NB101_176.out; have hcz47_0 : w45.cell? ⟨gb176, 0, none⟩ = some (.int .i64 0) := bcA BK176 0; have hcz47_1 : w45.cell? ⟨gb176, 1, none⟩ = some (.int .i64 0) := bcA BK176 1; have hcz47_2 : w45.cell? ⟨gb176, 2, none⟩ = some (.slice none 0 0) := bcA BK176 2; have hfz47_0 := blk_frozen BK176.out 0; have hfz47_1 := blk_frozen BK176.out 1; have hfz47_2 := blk_frozen BK176.out 2; obtain ⟨Ao48, co48, eo48⟩ := Kd.V_slice HO174.out; subst eo48) | ((with_reducible refine gate_callee (f := 25) rfl ?_); refine goesL_ (some 55) rfl rfl Try.func25 (by kernel_rfl) rfl #[.string (rdOf ByteArray.empty y148 x42_2), .int .i64 a1] rfl (by (try simp only [List.map_toArray, List.map_cons, List.map_nil]); first | done | rfl | (simp only [List.length_drop, List.length_take]; rfl)) ?_; (with_reducible refine (agateref13_Find.calls k2 (rdOf ByteArray.empty y148 x42_2) a1 t177 t178 t179 t180 t181 t182 t185 _ A39.out).mono ?_); rintro e w49 ⟨v183, rfl, ho0, hb⟩; refine ⟨_, rfl, ?_⟩; have n0_ := Aside0.mk (Kd.R_below (by (with_reducible repeat (first | apply Kd.R_alloc | apply Kd.R_drewN | apply Kd.R_drew)); exact (Kd.R_mono (Kd.R_far (p := ⟨gb176, 2, none⟩) (Kd.R_far (p := ⟨gb176, 1, none⟩) (Kd.R_far (p := ⟨gb176, 0, none⟩) (Kd.R_types HO_40.out BK176.out (by decide)) (fun _ hk => hk.2) (.int .i64 t170)) (fun _ hk => hk.2) (.int .i64 t171)) (fun _ hk => hk.2) (.slice Ao48 t172.length co48)) (fun _ h_ => h_.1))) hb); have n1_ := Aside0.mk (Kd.V_below (by (with_reducible repeat (first | apply Kd.V_alloc | apply Kd.V_drewN | apply Kd.V_drew)); exact (Kd.V_mono (Kd.V_far (p := ⟨gb176, 2, none⟩) (Kd.V_far (p := ⟨gb176, 1, none⟩) (Kd.V_far (p := ⟨gb176, 0, none⟩) (Kd.V_mono HO_102001.out (fun k_ hk => (⟨hk, hk.2⟩ : _ ∧ k_ ≠ gb176))) (fun _ hk => hk.2) (.int .i64 t170)) (fun _ hk => hk.2) (.int .i64 t171)) (fun _ hk => hk.2) (.slice Ao48 t172.length co48)) (fun _ h_ => h_.1))) hb); have n2_ := Aside0.mk (Kd.V_below (by (with_reducible repeat (first | apply Kd.V_alloc | apply Kd.V_drewN | apply Kd.V_drew)); exact (Kd.V_mono (Kd.V_far (p := ⟨gb176, 2, none⟩) (Kd.V_far (p := ⟨gb176, 1, none⟩) (Kd.V_far (p := ⟨gb176, 0, none⟩) (Kd.V_mono HO_102003.out (fun k_ hk => (⟨hk, hk.2⟩ : _ ∧ k_ ≠ gb176))) (fun _ hk => hk.2) (.int .i64 t170)) (fun _ hk => hk.2) (.int .i64 t171)) (fun _ hk => hk.2) (.slice Ao48 t172.length co48)) (fun _ h_ => h_.1))) hb); have n3_ := Aside0.mk (Kd.V_below (by (with_reducible repeat (first | apply Kd.V_alloc | apply Kd.V_drewN | apply Kd.V_drew)); exact (Kd.V_mono (Kd.V_far (p := ⟨gb176, 2, none⟩) (Kd.V_far (p := ⟨gb176, 1, none⟩) (Kd.V_far (p := ⟨gb176, 0, none⟩) (Kd.V_mono HO174.out (fun k_ hk => (⟨hk, hk.2⟩ : _ ∧ k_ ≠ gb176))) (fun _ hk => hk.2) (.int .i64 t170)) (fun _ hk => hk.2) (.int .i64 t171)) (fun _ hk => hk.2) (.slice Ao48 t172.length co48)) (fun _ h_ => h_.1))) hb); have n4_ := Aside0.mk (Kd.V_lower (Kd.V_mono (ok' := fun k_ => ((P0_1_ k_ ∨ P0_3_ k_) ∨ w.heap.size ≤ k_) ∧ some k_ ≠ (.slice (some ad169) y148.length co34 : Value).ownBlock ∧ k_ ≠ gb101 ∧ k_ ≠ gb176) ho0 (fun k_ hk_ => ⟨(.inr (Nat.le_trans (below_size (hbA HB)) hk_)), (Kd.fresh' (Kd.R_lt (by (with_reducible repeat (first | apply Kd.R_alloc | apply Kd.R_drewN | apply Kd.R_drew)); exact (Kd.R_mono (Kd.R_far (p := ⟨gb176, 2, none⟩) (Kd.R_far (p := ⟨gb176, 1, none⟩) (Kd.R_far (p := ⟨gb176, 0, none⟩) (Kd.R_types HO_40.out BK176.out (by decide)) (fun _ hk => hk.2) (.int .i64 t170)) (fun _ hk => hk.2) (.int .i64 t171)) (fun _ hk => hk.2) (.slice Ao48 t172.length co48)) (fun _ h_ => h_.1)))) k_ hk_), (Kd.freshB (g := gb101) (o := .cells #[.string a0_0, .slice A0_1 l0_1.length c0_1, .string a0_2, .slice A0_3 l0_3.length c0_3] 33 (0, 0)) (by (with_reducible repeat (first | refine blk_drewN ?_ _ | refine blk_drew ?_ | refine blk_alloc ?_ _)); refine blk_far ?_ NB101_176.out _; (with_reducible repeat (first | refine blk_drewN ?_ _ | refine blk_drew ?_ | refine blk_alloc ?_ _)); refine blk_far ?_ NB101_176.out _; (with_reducible repeat (first | refine blk_drewN ?_ _ | refine blk_drew ?_ | refine blk_alloc ?_ _)); refine blk_far ?_ NB101_176.out _; (with_reducible repeat (first | refine blk_drewN ?_ _ | refine blk_drew ?_ | refine blk_alloc ?_ _)); exact BK101.out) k_ hk_), (Kd.freshB (g := gb176) (o := .cells #[.int .i64 t170, .int .i64 t171, .slice Ao48 t172.length co48] 86 (0, 0)) (by (with_reducible repeat (first | refine blk_drewN ?_ _ | refine blk_drew ?_ | refine blk_alloc ?_ _)); refine blk_put (cs := #[.int .i64 t170, .int .i64 t171, .slice none 0 0]) ?_ 2 _ rfl; (with_reducible repeat (first | refine blk_drewN ?_ _ | refine blk_drew ?_ | refine blk_alloc ?_ _)); refine blk_put (cs := #[.int .i64 t170, .int .i64 0, .slice none 0 0]) ?_ 1 _ rfl; (with_reducible repeat (first | refine blk_drewN ?_ _ | refine blk_drew ?_ | refine blk_alloc ?_ _)); refine blk_put (cs := #[.int .i64 0, .int .i64 0, .slice none 0 0]) ?_ 0 _ rfl; (with_reducible repeat (first | refine blk_drewN ?_ _ | refine blk_drew ?_ | refine blk_alloc ?_ _)); exact BK176.out) k_ hk_)⟩)) (below_size (hbA HB))); have n5_ := Aside0.mk (blk_below (g := gb101) (o := .cells #[.string a0_0, .slice A0_1 l0_1.length c0_1, .string a0_2, .slice A0_3 l0_3.length c0_3] 33 (0, 0)) (by (with_reducible repeat (first | refine blk_drewN ?_ _ | refine blk_drew ?_ | refine blk_alloc ?_ _)); refine blk_far ?_ NB101_176.out _; (with_reducible repeat (first | refine blk_drewN ?_ _ | refine blk_drew ?_ | refine blk_alloc ?_ _)); refine blk_far ?_ NB101_176.out _; (with_reducible repeat (first | refine blk_drewN ?_ _ | refine blk_drew ?_ | refine blk_alloc ?_ _)); refine blk_far ?_ NB101_176.out _; (with_reducible repeat (first | refine blk_drewN ?_ _ | refine blk_drew ?_ | refine blk_alloc ?_ _)); exact BK101.out) hb); have n6_ := Aside0.mk (blk_below (g := gb176) (o := .cells #[.int .i64 t170, .int .i64 t171, .slice Ao48 t172.length co48] 86 (0, 0)) (by (with_reducible repeat (first | refine blk_drewN ?_ _ | refine blk_drew ?_ | refine blk_alloc ?_ _)); refine blk_put (cs := #[.int .i64 t170, .int .i64 t171, .slice none 0 0]) ?_ 2 _ rfl; (with_reducible repeat (first | refine blk_drewN ?_ _ | refine blk_drew ?_ | refine blk_alloc ?_ _)); refine blk_put (cs := #[.int .i64 t170, .int .i64 0, .slice none 0 0]) ?_ 1 _ rfl; (with_reducible repeat (first | refine blk_drewN ?_ _ | refine blk_drew ?_ | refine blk_alloc ?_ _)); refine blk_put (cs := #[.int .i64 0, .int .i64 0, .slice none 0 0]) ?_ 0 _ rfl; (with_reducible repeat (first | refine blk_drewN ?_ _ | refine blk_drew ?_ | refine blk_alloc ?_ _)); exact BK176.out) hb); have n7_ := Aside0.mk (below_step (hbA HB) hb); clear HO_40; clear HO_102001; clear HO_102003; clear HO174; clear BK101; clear BK176; clear HB; have HO_40 := n0_; have HO_102001 := n1_; have HO_102003 := n2_; have HO174 := n3_; have HO184 := n4_; have BK101 := n5_; have BK176 := n6_; have HB := n7_; clear n0_ n1_ n2_ n3_ n4_ n5_ n6_ n7_; (try clear hb); (try clear hb2); (try clear hk); (try clear hi); (try clear ho0)) | ((with_reducible refine gate_dst (N := 11) rfl ?_); (try (refine gate_guard (by rfl) ?_; dsimp only)); refine box_event ?hg (N := 11) ?hd (cs := #[.string (⟨#[]⟩ : ByteArray), .int .i64 0, .int .i64 0, .int .i64 0, .int .i64 0, .slice none 0 0]) (t := 72) ?hr ?_; (case hd => rfl); (case hg => rfl); (case hr => first | (go_simp; done) | (go_simp; rfl)); intro gb186 hg w50 hbox hb; have n0_ := Aside0.mk (Kd.R_below (krA HO_40) hb); have n1_ := Aside0.mk (Kd.V_below (Kd.V_elderB (by (with_reducible repeat (first | apply Kd.V_alloc | apply Kd.V_drewN | apply Kd.V_drew)); exact HO_102001.out) gb186 (Nat.le_of_eq hg.symm)) hb); have n2_ := Aside0.mk (Kd.V_below (Kd.V_elderB (by (with_reducible repeat (first | apply Kd.V_alloc | apply Kd.V_drewN | apply Kd.V_drew)); exact HO_102003.out) gb186 (Nat.le_of_eq hg.symm)) hb); have n3_ := Aside0.mk (Kd.V_below (Kd.V_elderB (by (with_reducible repeat (first | apply Kd.V_alloc | apply Kd.V_drewN | apply Kd.V_drew)); exact HO174.out) gb186 (Nat.le_of_eq hg.symm)) hb); have n4_ := Aside0.mk (Kd.V_below (Kd.V_elderB (by (with_reducible repeat (first | apply Kd.V_alloc | apply Kd.V_drewN | apply Kd.V_drew)); exact HO184.out) gb186 (Nat.le_of_eq hg.symm)) hb); have n5_ := Aside0.mk (blk_below (g := gb101) (bkA BK101) hb); have n6_ := Aside0.mk (blk_below (g := gb176) (bkA BK176) hb); have n7_ := Aside0.mk (below_step (hbA HB) hb); have n8_ := Aside0.mk (hbox); have n9_ := Aside0.mk ((by rw [hg]; exact (below_size (hbA HB)) : w.heap.size ≤ gb186)); have n10_ := Aside0.mk ((by rw [hg]; exact (below_size (hbA HB)) : w.heap.size ≤ gb186)); have n11_ := Aside0.mk ((by rw [hg]; exact Nat.ne_of_lt (blk_lt (g := gb101) (bkA BK101)) : gb101 ≠ gb186)); have n12_ := Aside0.mk ((by rw [hg]; exact Nat.ne_of_gt (blk_lt (g := gb101) (bkA BK101)) : gb186 ≠ gb101)); have n13_ := Aside0.mk ((by rw [hg]; exact Nat.ne_of_lt (blk_lt (g := gb176) (bkA BK176)) : gb176 ≠ gb186)); have n14_ := Aside0.mk ((by rw [hg]; exact Nat.ne_of_gt (blk_lt (g := gb176) (bkA BK176)) : gb186 ≠ gb176)); clear HO_40; clear HO_102001; clear HO_102003; clear HO174; clear HO184; clear BK101; clear BK176; clear HB; have HO_40 := n0_; have HO_102001 := n1_; have HO_102003 := n2_; have HO174 := n3_; have HO184 := n4_; have BK101 := n5_; have BK176 := n6_; have HB := n7_; have BK186 := n8_; have GW186 := n9_; have GE186 := n10_; have NB101_186 := n11_; have NB186_101 := n12_; have NB176_186 := n13_; have NB186_176 := n14_; clear n0_ n1_ n2_ n3_ n4_ n5_ n6_ n7_ n8_ n9_ n10_ n11_ n12_ n13_ n14_; clear hb hbox hg; have hnb51 := NB186_101.out; have hnc51 := NB101_186.out; have hnb52 := NB186_176.out; have hnc52 := NB176_186.out; have hcz53_0 : w50.cell? ⟨gb186, 0, none⟩ = some (.string (⟨#[]⟩ : ByteArray)) := bcA BK186 0; have hcz53_1 : w50.cell? ⟨gb186, 1, none⟩ = some (.int .i64 0) := bcA BK186 1; have hcz53_2 : w50.cell? ⟨gb186, 2, none⟩ = some (.int .i64 0) := bcA BK186 2; have hcz53_3 : w50.cell? ⟨gb186, 3, none⟩ = some (.int .i64 0) := bcA BK186 3; have hcz53_4 : w50.cell? ⟨gb186, 4, none⟩ = some (.int .i64 0) := bcA BK186 4; have hcz53_5 : w50.cell? ⟨gb186, 5, none⟩ = some (.slice none 0 0) := bcA BK186 5; have hfz53_0 := blk_frozen BK186.out 0; have hfz53_1 := blk_frozen BK186.out 1; have hfz53_2 := blk_frozen BK186.out 2; have hfz53_3 := blk_frozen BK186.out 3; have hfz53_4 := blk_frozen BK186.out 4; have hfz53_5 := blk_frozen BK186.out 5; obtain ⟨Ao54, co54, eo54⟩ := Kd.V_slice HO184.out; subst eo54; have hcz55_0 : w50.cell? ⟨gb176, 0, none⟩ = some (.int .i64 t170) := bcA BK176 0; have hcz55_1 : w50.cell? ⟨gb176, 1, none⟩ = some (.int .i64 t171) := bcA BK176 1; have hcz55_2 : w50.cell? ⟨gb176, 2, none⟩ = some (.slice Ao48 t172.length co48) := bcA BK176 2; have hfz55_0 := blk_frozen BK176.out 0; have hfz55_1 := blk_frozen BK176.out 1; have hfz55_2 := blk_frozen BK176.out 2))
              go_loopg [87] k2 (fun kq v87 w' => ∃ (x87_3 : Int), v87 = .int .i64 x87_3 ∧ Aside0 (agatelaw13_OpsTell.l1 kq a1 (rdOf ByteArray.empty y148 x42_2) y148 (y148.length : Int) x42_2 t172 (t172.length : Int) x87_3 t177 t178 t179 t180 t181 t182 = some r) ∧ Aside0 (kq ≤ k2) ∧ Aside0 (Kd.R Kd.string 9 w' w.heap.size (fun k_ => (w.heap.size ≤ k_)) (.slice (some ad169) y148.length co34) y148) ∧ Aside0 (Kd.V k90 90 w' w.heap.size (fun k_ => ((P0_1_ k_ ∨ P0_3_ k_) ∨ w.heap.size ≤ k_) ∧ some k_ ≠ ((.slice (some ad169) y148.length co34) : Value).ownBlock ∧ k_ ≠ gb101 ∧ k_ ≠ gb176 ∧ k_ ≠ gb186) (.slice Ao48 t172.length co48) t172) ∧ Aside0 (Kd.V Kd.string 9 w' w.heap.size (fun k_ => ((P0_1_ k_ ∨ P0_3_ k_) ∨ w.heap.size ≤ k_) ∧ some k_ ≠ ((.slice (some ad169) y148.length co34) : Value).ownBlock ∧ k_ ≠ gb101 ∧ k_ ≠ gb176 ∧ k_ ≠ gb186) (.slice A0_1 l0_1.length c0_1) l0_1) ∧ Aside0 (Kd.V k35 35 w' w.heap.size (fun k_ => ((P0_1_ k_ ∨ P0_3_ k_) ∨ w.heap.size ≤ k_) ∧ some k_ ≠ ((.slice (some ad169) y148.length co34) : Value).ownBlock ∧ k_ ≠ gb101 ∧ k_ ≠ gb176 ∧ k_ ≠ gb186) (.slice A0_3 l0_3.length c0_3) l0_3) ∧ Aside0 (Kd.V k90 90 w' w.heap.size (fun k_ => ((P0_1_ k_ ∨ P0_3_ k_) ∨ w.heap.size ≤ k_) ∧ some k_ ≠ ((.slice (some ad169) y148.length co34) : Value).ownBlock ∧ k_ ≠ gb101 ∧ k_ ≠ gb176 ∧ k_ ≠ gb186) (.slice Ao48 t172.length co48) t172) ∧ Aside0 (Kd.V k91 91 w' w.heap.size (fun k_ => ((P0_1_ k_ ∨ P0_3_ k_) ∨ w.heap.size ≤ k_) ∧ some k_ ≠ ((.slice (some ad169) y148.length co34) : Value).ownBlock ∧ k_ ≠ gb101 ∧ k_ ≠ gb176 ∧ k_ ≠ gb186) (.slice Ao54 t182.length co54) t182) ∧ Aside0 (w'.heap[gb101]? = some (.cells #[.string a0_0, (.slice A0_1 l0_1.length c0_1), .string a0_2, (.slice A0_3 l0_3.length c0_3)] 33 (0, 0))) ∧ Aside0 (w'.heap[gb176]? = some (.cells #[.int .i64 t170, .int .i64 t171, (.slice Ao48 t172.length co48)] 86 (0, 0))) ∧ Aside0 (w'.heap[gb186]? = some (.cells #[.string t177, .int .i64 t178, .int .i64 t179, .int .i64 t180, .int .i64 t181, (.slice Ao54 t182.length co54)] 72 (0, 0))) ∧ Aside0 (Below w.heap.size w w'))
              case atStart => exact ⟨(0), (by first | rfl | (simp; done) | (simp [*]; done)), H', ⟨Nat.le_refl _⟩, ⟨by (with_reducible repeat (first | apply Kd.R_alloc | apply Kd.R_drewN | apply Kd.R_drew)); exact Kd.R_mono (Kd.R_far (p := ⟨gb186, 5, none⟩) (Kd.R_far (p := ⟨gb186, 4, none⟩) (Kd.R_far (p := ⟨gb186, 3, none⟩) (Kd.R_far (p := ⟨gb186, 2, none⟩) (Kd.R_far (p := ⟨gb186, 1, none⟩) (Kd.R_far (p := ⟨gb186, 0, none⟩) (Kd.R_types HO_40.out BK186.out (by decide)) (fun _ hk => hk.2) (.string t177)) (fun _ hk => hk.2) (.int .i64 t178)) (fun _ hk => hk.2) (.int .i64 t179)) (fun _ hk => hk.2) (.int .i64 t180)) (fun _ hk => hk.2) (.int .i64 t181)) (fun _ hk => hk.2) (.slice Ao54 t182.length co54)) (fun _ hk => hk.1)⟩, ⟨by (with_reducible repeat (first | apply Kd.V_alloc | apply Kd.V_drewN | apply Kd.V_drew)); exact Kd.V_mono (Kd.V_far (p := ⟨gb186, 5, none⟩) (Kd.V_far (p := ⟨gb186, 4, none⟩) (Kd.V_far (p := ⟨gb186, 3, none⟩) (Kd.V_far (p := ⟨gb186, 2, none⟩) (Kd.V_far (p := ⟨gb186, 1, none⟩) (Kd.V_far (p := ⟨gb186, 0, none⟩) (Kd.V_mono HO174.out (fun k_ hk => (⟨hk, hk.2⟩ : _ ∧ k_ ≠ gb186))) (fun _ hk => hk.2) (.string t177)) (fun _ hk => hk.2) (.int .i64 t178)) (fun _ hk => hk.2) (.int .i64 t179)) (fun _ hk => hk.2) (.int .i64 t180)) (fun _ hk => hk.2) (.int .i64 t181)) (fun _ hk => hk.2) (.slice Ao54 t182.length co54)) (fun _ hk => ⟨hk.1.1.1.1, ⟨hk.1.1.1.2.1, ⟨hk.1.1.1.2.2, ⟨hk.1.1.2, hk.1.2⟩⟩⟩⟩)⟩, ⟨by (with_reducible repeat (first | apply Kd.V_alloc | apply Kd.V_drewN | apply Kd.V_drew)); exact Kd.V_mono (Kd.V_far (p := ⟨gb186, 5, none⟩) (Kd.V_far (p := ⟨gb186, 4, none⟩) (Kd.V_far (p := ⟨gb186, 3, none⟩) (Kd.V_far (p := ⟨gb186, 2, none⟩) (Kd.V_far (p := ⟨gb186, 1, none⟩) (Kd.V_far (p := ⟨gb186, 0, none⟩) (Kd.V_mono HO_102001.out (fun k_ hk => (⟨hk, hk.2⟩ : _ ∧ k_ ≠ gb186))) (fun _ hk => hk.2) (.string t177)) (fun _ hk => hk.2) (.int .i64 t178)) (fun _ hk => hk.2) (.int .i64 t179)) (fun _ hk => hk.2) (.int .i64 t180)) (fun _ hk => hk.2) (.int .i64 t181)) (fun _ hk => hk.2) (.slice Ao54 t182.length co54)) (fun _ hk => ⟨hk.1.1.1.1, ⟨hk.1.1.1.2.1, ⟨hk.1.1.1.2.2, ⟨hk.1.1.2, hk.1.2⟩⟩⟩⟩)⟩, ⟨by (with_reducible repeat (first | apply Kd.V_alloc | apply Kd.V_drewN | apply Kd.V_drew)); exact Kd.V_mono (Kd.V_far (p := ⟨gb186, 5, none⟩) (Kd.V_far (p := ⟨gb186, 4, none⟩) (Kd.V_far (p := ⟨gb186, 3, none⟩) (Kd.V_far (p := ⟨gb186, 2, none⟩) (Kd.V_far (p := ⟨gb186, 1, none⟩) (Kd.V_far (p := ⟨gb186, 0, none⟩) (Kd.V_mono HO_102003.out (fun k_ hk => (⟨hk, hk.2⟩ : _ ∧ k_ ≠ gb186))) (fun _ hk => hk.2) (.string t177)) (fun _ hk => hk.2) (.int .i64 t178)) (fun _ hk => hk.2) (.int .i64 t179)) (fun _ hk => hk.2) (.int .i64 t180)) (fun _ hk => hk.2) (.int .i64 t181)) (fun _ hk => hk.2) (.slice Ao54 t182.length co54)) (fun _ hk => ⟨hk.1.1.1.1, ⟨hk.1.1.1.2.1, ⟨hk.1.1.1.2.2, ⟨hk.1.1.2, hk.1.2⟩⟩⟩⟩)⟩, ⟨by (with_reducible repeat (first | apply Kd.V_alloc | apply Kd.V_drewN | apply Kd.V_drew)); exact Kd.V_mono (Kd.V_far (p := ⟨gb186, 5, none⟩) (Kd.V_far (p := ⟨gb186, 4, none⟩) (Kd.V_far (p := ⟨gb186, 3, none⟩) (Kd.V_far (p := ⟨gb186, 2, none⟩) (Kd.V_far (p := ⟨gb186, 1, none⟩) (Kd.V_far (p := ⟨gb186, 0, none⟩) (Kd.V_mono HO174.out (fun k_ hk => (⟨hk, hk.2⟩ : _ ∧ k_ ≠ gb186))) (fun _ hk => hk.2) (.string t177)) (fun _ hk => hk.2) (.int .i64 t178)) (fun _ hk => hk.2) (.int .i64 t179)) (fun _ hk => hk.2) (.int .i64 t180)) (fun _ hk => hk.2) (.int .i64 t181)) (fun _ hk => hk.2) (.slice Ao54 t182.length co54)) (fun _ hk => ⟨hk.1.1.1.1, ⟨hk.1.1.1.2.1, ⟨hk.1.1.1.2.2, ⟨hk.1.1.2, hk.1.2⟩⟩⟩⟩)⟩, ⟨by (with_reducible repeat (first | apply Kd.V_alloc | apply Kd.V_drewN | apply Kd.V_drew)); exact Kd.V_mono (Kd.V_far (p := ⟨gb186, 5, none⟩) (Kd.V_far (p := ⟨gb186, 4, none⟩) (Kd.V_far (p := ⟨gb186, 3, none⟩) (Kd.V_far (p := ⟨gb186, 2, none⟩) (Kd.V_far (p := ⟨gb186, 1, none⟩) (Kd.V_far (p := ⟨gb186, 0, none⟩) (Kd.V_mono HO184.out (fun k_ hk => (⟨hk, hk.2⟩ : _ ∧ k_ ≠ gb186))) (fun _ hk => hk.2) (.string t177)) (fun _ hk => hk.2) (.int .i64 t178)) (fun _ hk => hk.2) (.int .i64 t179)) (fun _ hk => hk.2) (.int .i64 t180)) (fun _ hk => hk.2) (.int .i64 t181)) (fun _ hk => hk.2) (.slice Ao54 t182.length co54)) (fun _ hk => ⟨hk.1.1.1, ⟨hk.1.1.2.1, ⟨hk.1.1.2.2.1, ⟨hk.1.1.2.2.2, hk.1.2⟩⟩⟩⟩)⟩, ⟨by (with_reducible repeat (first | refine blk_drewN ?_ _ | refine blk_drew ?_ | refine blk_alloc ?_ _)); refine blk_far ?_ NB101_186.out _; (with_reducible repeat (first | refine blk_drewN ?_ _ | refine blk_drew ?_ | refine blk_alloc ?_ _)); refine blk_far ?_ NB101_186.out _; (with_reducible repeat (first | refine blk_drewN ?_ _ | refine blk_drew ?_ | refine blk_alloc ?_ _)); refine blk_far ?_ NB101_186.out _; (with_reducible repeat (first | refine blk_drewN ?_ _ | refine blk_drew ?_ | refine blk_alloc ?_ _)); refine blk_far ?_ NB101_186.out _; (with_reducible repeat (first | refine blk_drewN ?_ _ | refine blk_drew ?_ | refine blk_alloc ?_ _)); refine blk_far ?_ NB101_186.out _; (with_reducible repeat (first | refine blk_drewN ?_ _ | refine blk_drew ?_ | refine blk_alloc ?_ _)); refine blk_far ?_ NB101_186.out _; (with_reducible repeat (first | refine blk_drewN ?_ _ | refine blk_drew ?_ | refine blk_alloc ?_ _)); exact BK101.out⟩, ⟨by (with_reducible repeat (first | refine blk_drewN ?_ _ | refine blk_drew ?_ | refine blk_alloc ?_ _)); refine blk_far ?_ NB176_186.out _; (with_reducible repeat (first | refine blk_drewN ?_ _ | refine blk_drew ?_ | refine blk_alloc ?_ _)); refine blk_far ?_ NB176_186.out _; (with_reducible repeat (first | refine blk_drewN ?_ _ | refine blk_drew ?_ | refine blk_alloc ?_ _)); refine blk_far ?_ NB176_186.out _; (with_reducible repeat (first | refine blk_drewN ?_ _ | refine blk_drew ?_ | refine blk_alloc ?_ _)); refine blk_far ?_ NB176_186.out _; (with_reducible repeat (first | refine blk_drewN ?_ _ | refine blk_drew ?_ | refine blk_alloc ?_ _)); refine blk_far ?_ NB176_186.out _; (with_reducible repeat (first | refine blk_drewN ?_ _ | refine blk_drew ?_ | refine blk_alloc ?_ _)); refine blk_far ?_ NB176_186.out _; (with_reducible repeat (first | refine blk_drewN ?_ _ | refine blk_drew ?_ | refine blk_alloc ?_ _)); exact BK176.out⟩, ⟨by (with_reducible repeat (first | refine blk_drewN ?_ _ | refine blk_drew ?_ | refine blk_alloc ?_ _)); refine blk_put (cs := #[.string t177, .int .i64 t178, .int .i64 t179, .int .i64 t180, .int .i64 t181, .slice none 0 0]) ?_ 5 _ rfl; (with_reducible repeat (first | refine blk_drewN ?_ _ | refine blk_drew ?_ | refine blk_alloc ?_ _)); refine blk_put (cs := #[.string t177, .int .i64 t178, .int .i64 t179, .int .i64 t180, .int .i64 0, .slice none 0 0]) ?_ 4 _ rfl; (with_reducible repeat (first | refine blk_drewN ?_ _ | refine blk_drew ?_ | refine blk_alloc ?_ _)); refine blk_put (cs := #[.string t177, .int .i64 t178, .int .i64 t179, .int .i64 0, .int .i64 0, .slice none 0 0]) ?_ 3 _ rfl; (with_reducible repeat (first | refine blk_drewN ?_ _ | refine blk_drew ?_ | refine blk_alloc ?_ _)); refine blk_put (cs := #[.string t177, .int .i64 t178, .int .i64 0, .int .i64 0, .int .i64 0, .slice none 0 0]) ?_ 2 _ rfl; (with_reducible repeat (first | refine blk_drewN ?_ _ | refine blk_drew ?_ | refine blk_alloc ?_ _)); refine blk_put (cs := #[.string t177, .int .i64 0, .int .i64 0, .int .i64 0, .int .i64 0, .slice none 0 0]) ?_ 1 _ rfl; (with_reducible repeat (first | refine blk_drewN ?_ _ | refine blk_drew ?_ | refine blk_alloc ?_ _)); refine blk_put (cs := #[.string (⟨#[]⟩ : ByteArray), .int .i64 0, .int .i64 0, .int .i64 0, .int .i64 0, .slice none 0 0]) ?_ 0 _ rfl; (with_reducible repeat (first | refine blk_drewN ?_ _ | refine blk_drew ?_ | refine blk_alloc ?_ _)); exact BK186.out⟩, ⟨hbA HB⟩⟩
              case round =>
               clear H'
               obtain ⟨x87_3, rfl, HA, HK3, HO_40, HO_85, HO_102001, HO_102003, HO_177002, HO_187005, BK101, BK176, BK186, HB⟩ := hrel
               cases gk with
               | zero => exact absurd HA.out (by simp [agatelaw13_OpsTell.l1])
               | succ k3 =>
                have H := HA.out; clear HA
                simp only [agatelaw13_OpsTell.l1] at H
                by_cases c56 : x87_3 < (t172.length : Int)
                ·
                 rw [if_pos c56] at H
                 have c56b0 : decide (x87_3 < (t172.length : Int)) = true := decide_eq_true c56
                 clear c56
                 by_cases c57 : 0 ≤ x87_3
                 ·
                  rw [if_pos c57] at H
                  have c57b0 : decide (0 ≤ x87_3) = true := decide_eq_true c57
                  clear c57
                  by_cases c58 : x87_3 < (t172.length : Int)
                  ·
                   rw [if_pos c58] at H
                   have c58b0 : decide (x87_3 < (t172.length : Int)) = true := decide_eq_true c58
                   clear c58
                   by_cases c59 : x87_3 < (t182.length : Int)
                   ·
                    rw [if_pos c59] at H
                    have c59b0 : decide (x87_3 < (t182.length : Int)) = true := decide_eq_true c59
                    clear c59
                    by_cases c60 : (!((((rd_T90 t172 x87_3).f0).toList) == (((rd_T91 t182 x87_3).f0).toList)) || (!(((rd_T90 t172 x87_3).f1) == ((rd_T91 t182 x87_3).f1)) || (!(((rd_T90 t172 x87_3).f2) == ((rd_T91 t182 x87_3).f2))))) = true
                    ·
                     rw [if_pos c60] at H
                     exact absurd H (by simp)
                    ·
                     rw [if_neg c60] at H
                     have c60b0 : (!((((rd_T90 t172 x87_3).f0).toList) == (((rd_T91 t182 x87_3).f0).toList)) || (!(((rd_T90 t172 x87_3).f1) == ((rd_T91 t182 x87_3).f1)) || (!(((rd_T90 t172 x87_3).f2) == ((rd_T91 t182 x87_3).f2))))) = false := by simpa using c60
                     clear c60
                     have H' := Aside0.mk H
                     clear H
                     have p190 : 0 ≤ (x87_3 : Int) := of_decide_eq_true (by first | (with_reducible assumption) | assumption)
                     have q190 : x87_3 < (t172.length : Int) := of_decide_eq_true (by first | (with_reducible assumption) | assumption)
                     obtain ⟨ad190, e190, hx190_0, hx190_1, hx190_2⟩ := at_T90 (Kd.V_reads' HO_85.out).2.2 x87_3 p190 q190
                     cases e190
                     replace p190 := eq_true p190
                     replace q190 := eq_true q190
                     try go_wp2_with (first | ((with_reducible refine gate_dst (N := 14) rfl ?_); (try (refine gate_guard (by rfl) ?_; dsimp only)); refine box_event ?hg (N := 14) ?hd (cs := #[.string (⟨#[]⟩ : ByteArray), .bool false, .bool false]) (t := 90) ?hr ?_; (case hd => rfl); (case hg => rfl); (case hr => first | (go_simp; done) | (go_simp; rfl)); intro gb191 hg w61 hbox hb; have n0_ := Aside0.mk (Kd.R_below (krA HO_40) hb); have n1_ := Aside0.mk (Kd.V_below (Kd.V_elderB (by (with_reducible repeat (first | apply Kd.V_alloc | apply Kd.V_drewN | apply Kd.V_drew)); exact HO_85.out) gb191 (Nat.le_of_eq hg.symm)) hb); have n2_ := Aside0.mk (Kd.V_below (Kd.V_elderB (by (with_reducible repeat (first | apply Kd.V_alloc | apply Kd.V_drewN | apply Kd.V_drew)); exact HO_102001.out) gb191 (Nat.le_of_eq hg.symm)) hb); have n3_ := Aside0.mk (Kd.V_below (Kd.V_elderB (by (with_reducible repeat (first | apply Kd.V_alloc | apply Kd.V_drewN | apply Kd.V_drew)); exact HO_102003.out) gb191 (Nat.le_of_eq hg.symm)) hb); have n4_ := Aside0.mk (Kd.V_below (Kd.V_elderB (by (with_reducible repeat (first | apply Kd.V_alloc | apply Kd.V_drewN | apply Kd.V_drew)); exact HO_177002.out) gb191 (Nat.le_of_eq hg.symm)) hb); have n5_ := Aside0.mk (Kd.V_below (Kd.V_elderB (by (with_reducible repeat (first | apply Kd.V_alloc | apply Kd.V_drewN | apply Kd.V_drew)); exact HO_187005.out) gb191 (Nat.le_of_eq hg.symm)) hb); have n6_ := Aside0.mk (blk_below (g := gb101) (bkA BK101) hb); have n7_ := Aside0.mk (blk_below (g := gb176) (bkA BK176) hb); have n8_ := Aside0.mk (blk_below (g := gb186) (bkA BK186) hb); have n9_ := Aside0.mk (below_step (hbA HB) hb); have n10_ := Aside0.mk (hbox); have n11_ := Aside0.mk ((by rw [hg]; exact (below_size (hbA HB)) : w.heap.size ≤ gb191)); have n12_ := Aside0.mk ((by rw [hg]; exact (below_size (hbA HB)) : w.heap.size ≤ gb191)); have n13_ := Aside0.mk ((by rw [hg]; exact Nat.ne_of_lt (blk_lt (g := gb101) (bkA BK101)) : gb101 ≠ gb191)); have n14_ := Aside0.mk ((by rw [hg]; exact Nat.ne_of_gt (blk_lt (g := gb101) (bkA BK101)) : gb191 ≠ gb101)); have n15_ := Aside0.mk ((by rw [hg]; exact Nat.ne_of_lt (blk_lt (g := gb176) (bkA BK176)) : gb176 ≠ gb191)); have n16_ := Aside0.mk ((by rw [hg]; exact Nat.ne_of_gt (blk_lt (g := gb176) (bkA BK176)) : gb191 ≠ gb176)); have n17_ := Aside0.mk ((by rw [hg]; exact Nat.ne_of_lt (blk_lt (g := gb186) (bkA BK186)) : gb186 ≠ gb191)); have n18_ := Aside0.mk ((by rw [hg]; exact Nat.ne_of_gt (blk_lt (g := gb186) (bkA BK186)) : gb191 ≠ gb186)); clear HO_40; clear HO_85; clear HO_102001; clear HO_102003; clear HO_177002; clear HO_187005; clear BK101; clear BK176; clear BK186; clear HB; have HO_40 := n0_; have HO_85 := n1_; have HO_102001 := n2_; have HO_102003 := n3_; have HO_177002 := n4_; have HO_187005 := n5_; have BK101 := n6_; have BK176 := n7_; have BK186 := n8_; have HB := n9_; have BK191 := n10_; have GW191 := n11_; have GE191 := n12_; have NB101_191 := n13_; have NB191_101 := n14_; have NB176_191 := n15_; have NB191_176 := n16_; have NB186_191 := n17_; have NB191_186 := n18_; clear n0_ n1_ n2_ n3_ n4_ n5_ n6_ n7_ n8_ n9_ n10_ n11_ n12_ n13_ n14_ n15_ n16_ n17_ n18_; clear hb hbox hg; have hnb62 := NB191_101.out; have hnc62 := NB101_191.out; have hnb63 := NB191_176.out; have hnc63 := NB176_191.out; have hnb64 := NB191_186.out; have hnc64 := NB186_191.out; have hcz65_0 : w61.cell? ⟨gb191, 0, none⟩ = some (.string (⟨#[]⟩ : ByteArray)) := bcA BK191 0; have hcz65_1 : w61.cell? ⟨gb191, 1, none⟩ = some (.bool false) := bcA BK191 1; have hcz65_2 : w61.cell? ⟨gb191, 2, none⟩ = some (.bool false) := bcA BK191 2; have hfz65_0 := blk_frozen BK191.out 0; have hfz65_1 := blk_frozen BK191.out 1; have hfz65_2 := blk_frozen BK191.out 2))
                     have n0_ : Aside0 (Kd.R Kd.string 9 (((w61.setCell ⟨gb191, 0, none⟩ (.string ((rd_T90 t172 x87_3).f0))).setCell ⟨gb191, 1, none⟩ (.bool ((rd_T90 t172 x87_3).f1))).setCell ⟨gb191, 2, none⟩ (.bool ((rd_T90 t172 x87_3).f2))) w.heap.size (fun k_ => (w.heap.size ≤ k_)) (.slice (some ad169) y148.length co34) y148) := ⟨by (with_reducible repeat (first | apply Kd.R_alloc | apply Kd.R_drewN | apply Kd.R_drew)); exact Kd.R_mono (Kd.R_far (p := ⟨gb191, 2, none⟩) (Kd.R_far (p := ⟨gb191, 1, none⟩) (Kd.R_far (p := ⟨gb191, 0, none⟩) (Kd.R_types HO_40.out BK191.out (by decide)) (fun _ hk => hk.2) (.string ((rd_T90 t172 x87_3).f0))) (fun _ hk => hk.2) (.bool ((rd_T90 t172 x87_3).f1))) (fun _ hk => hk.2) (.bool ((rd_T90 t172 x87_3).f2))) (fun _ hk => hk.1)⟩
                     have n1_ : Aside0 (Kd.V k90 90 (((w61.setCell ⟨gb191, 0, none⟩ (.string ((rd_T90 t172 x87_3).f0))).setCell ⟨gb191, 1, none⟩ (.bool ((rd_T90 t172 x87_3).f1))).setCell ⟨gb191, 2, none⟩ (.bool ((rd_T90 t172 x87_3).f2))) w.heap.size (fun k_ => ((P0_1_ k_ ∨ P0_3_ k_) ∨ w.heap.size ≤ k_) ∧ some k_ ≠ (.slice (some ad169) y148.length co34 : Value).ownBlock ∧ k_ ≠ gb101 ∧ k_ ≠ gb176 ∧ k_ ≠ gb186 ∧ k_ ≠ gb191) (.slice (some ad190) t172.length co48) t172) := ⟨by (with_reducible repeat (first | apply Kd.V_alloc | apply Kd.V_drewN | apply Kd.V_drew)); exact Kd.V_mono (Kd.V_far (p := ⟨gb191, 2, none⟩) (Kd.V_far (p := ⟨gb191, 1, none⟩) (Kd.V_far (p := ⟨gb191, 0, none⟩) (Kd.V_mono HO_85.out (fun k_ hk => (⟨hk, hk.2⟩ : _ ∧ k_ ≠ gb191))) (fun _ hk => hk.2) (.string ((rd_T90 t172 x87_3).f0))) (fun _ hk => hk.2) (.bool ((rd_T90 t172 x87_3).f1))) (fun _ hk => hk.2) (.bool ((rd_T90 t172 x87_3).f2))) (fun _ hk => ⟨hk.1.1.1, ⟨hk.1.1.2.1, ⟨hk.1.1.2.2.1, ⟨hk.1.1.2.2.2.1, ⟨hk.1.1.2.2.2.2, hk.1.2⟩⟩⟩⟩⟩)⟩
                     have n2_ : Aside0 (Kd.V Kd.string 9 (((w61.setCell ⟨gb191, 0, none⟩ (.string ((rd_T90 t172 x87_3).f0))).setCell ⟨gb191, 1, none⟩ (.bool ((rd_T90 t172 x87_3).f1))).setCell ⟨gb191, 2, none⟩ (.bool ((rd_T90 t172 x87_3).f2))) w.heap.size (fun k_ => ((P0_1_ k_ ∨ P0_3_ k_) ∨ w.heap.size ≤ k_) ∧ some k_ ≠ (.slice (some ad169) y148.length co34 : Value).ownBlock ∧ k_ ≠ gb101 ∧ k_ ≠ gb176 ∧ k_ ≠ gb186 ∧ k_ ≠ gb191) (.slice A0_1 l0_1.length c0_1) l0_1) := ⟨by (with_reducible repeat (first | apply Kd.V_alloc | apply Kd.V_drewN | apply Kd.V_drew)); exact Kd.V_mono (Kd.V_far (p := ⟨gb191, 2, none⟩) (Kd.V_far (p := ⟨gb191, 1, none⟩) (Kd.V_far (p := ⟨gb191, 0, none⟩) (Kd.V_mono HO_102001.out (fun k_ hk => (⟨hk, hk.2⟩ : _ ∧ k_ ≠ gb191))) (fun _ hk => hk.2) (.string ((rd_T90 t172 x87_3).f0))) (fun _ hk => hk.2) (.bool ((rd_T90 t172 x87_3).f1))) (fun _ hk => hk.2) (.bool ((rd_T90 t172 x87_3).f2))) (fun _ hk => ⟨hk.1.1.1, ⟨hk.1.1.2.1, ⟨hk.1.1.2.2.1, ⟨hk.1.1.2.2.2.1, ⟨hk.1.1.2.2.2.2, hk.1.2⟩⟩⟩⟩⟩)⟩
                     have n3_ : Aside0 (Kd.V k35 35 (((w61.setCell ⟨gb191, 0, none⟩ (.string ((rd_T90 t172 x87_3).f0))).setCell ⟨gb191, 1, none⟩ (.bool ((rd_T90 t172 x87_3).f1))).setCell ⟨gb191, 2, none⟩ (.bool ((rd_T90 t172 x87_3).f2))) w.heap.size (fun k_ => ((P0_1_ k_ ∨ P0_3_ k_) ∨ w.heap.size ≤ k_) ∧ some k_ ≠ (.slice (some ad169) y148.length co34 : Value).ownBlock ∧ k_ ≠ gb101 ∧ k_ ≠ gb176 ∧ k_ ≠ gb186 ∧ k_ ≠ gb191) (.slice A0_3 l0_3.length c0_3) l0_3) := ⟨by (with_reducible repeat (first | apply Kd.V_alloc | apply Kd.V_drewN | apply Kd.V_drew)); exact Kd.V_mono (Kd.V_far (p := ⟨gb191, 2, none⟩) (Kd.V_far (p := ⟨gb191, 1, none⟩) (Kd.V_far (p := ⟨gb191, 0, none⟩) (Kd.V_mono HO_102003.out (fun k_ hk => (⟨hk, hk.2⟩ : _ ∧ k_ ≠ gb191))) (fun _ hk => hk.2) (.string ((rd_T90 t172 x87_3).f0))) (fun _ hk => hk.2) (.bool ((rd_T90 t172 x87_3).f1))) (fun _ hk => hk.2) (.bool ((rd_T90 t172 x87_3).f2))) (fun _ hk => ⟨hk.1.1.1, ⟨hk.1.1.2.1, ⟨hk.1.1.2.2.1, ⟨hk.1.1.2.2.2.1, ⟨hk.1.1.2.2.2.2, hk.1.2⟩⟩⟩⟩⟩)⟩
                     have n4_ : Aside0 (Kd.V k90 90 (((w61.setCell ⟨gb191, 0, none⟩ (.string ((rd_T90 t172 x87_3).f0))).setCell ⟨gb191, 1, none⟩ (.bool ((rd_T90 t172 x87_3).f1))).setCell ⟨gb191, 2, none⟩ (.bool ((rd_T90 t172 x87_3).f2))) w.heap.size (fun k_ => ((P0_1_ k_ ∨ P0_3_ k_) ∨ w.heap.size ≤ k_) ∧ some k_ ≠ (.slice (some ad169) y148.length co34 : Value).ownBlock ∧ k_ ≠ gb101 ∧ k_ ≠ gb176 ∧ k_ ≠ gb186 ∧ k_ ≠ gb191) (.slice (some ad190) t172.length co48) t172) := ⟨by (with_reducible repeat (first | apply Kd.V_alloc | apply Kd.V_drewN | apply Kd.V_drew)); exact Kd.V_mono (Kd.V_far (p := ⟨gb191, 2, none⟩) (Kd.V_far (p := ⟨gb191, 1, none⟩) (Kd.V_far (p := ⟨gb191, 0, none⟩) (Kd.V_mono HO_177002.out (fun k_ hk => (⟨hk, hk.2⟩ : _ ∧ k_ ≠ gb191))) (fun _ hk => hk.2) (.string ((rd_T90 t172 x87_3).f0))) (fun _ hk => hk.2) (.bool ((rd_T90 t172 x87_3).f1))) (fun _ hk => hk.2) (.bool ((rd_T90 t172 x87_3).f2))) (fun _ hk => ⟨hk.1.1.1, ⟨hk.1.1.2.1, ⟨hk.1.1.2.2.1, ⟨hk.1.1.2.2.2.1, ⟨hk.1.1.2.2.2.2, hk.1.2⟩⟩⟩⟩⟩)⟩
                     have n5_ : Aside0 (Kd.V k91 91 (((w61.setCell ⟨gb191, 0, none⟩ (.string ((rd_T90 t172 x87_3).f0))).setCell ⟨gb191, 1, none⟩ (.bool ((rd_T90 t172 x87_3).f1))).setCell ⟨gb191, 2, none⟩ (.bool ((rd_T90 t172 x87_3).f2))) w.heap.size (fun k_ => ((P0_1_ k_ ∨ P0_3_ k_) ∨ w.heap.size ≤ k_) ∧ some k_ ≠ (.slice (some ad169) y148.length co34 : Value).ownBlock ∧ k_ ≠ gb101 ∧ k_ ≠ gb176 ∧ k_ ≠ gb186 ∧ k_ ≠ gb191) (.slice Ao54 t182.length co54) t182) := ⟨by (with_reducible repeat (first | apply Kd.V_alloc | apply Kd.V_drewN | apply Kd.V_drew)); exact Kd.V_mono (Kd.V_far (p := ⟨gb191, 2, none⟩) (Kd.V_far (p := ⟨gb191, 1, none⟩) (Kd.V_far (p := ⟨gb191, 0, none⟩) (Kd.V_mono HO_187005.out (fun k_ hk => (⟨hk, hk.2⟩ : _ ∧ k_ ≠ gb191))) (fun _ hk => hk.2) (.string ((rd_T90 t172 x87_3).f0))) (fun _ hk => hk.2) (.bool ((rd_T90 t172 x87_3).f1))) (fun _ hk => hk.2) (.bool ((rd_T90 t172 x87_3).f2))) (fun _ hk => ⟨hk.1.1.1, ⟨hk.1.1.2.1, ⟨hk.1.1.2.2.1, ⟨hk.1.1.2.2.2.1, ⟨hk.1.1.2.2.2.2, hk.1.2⟩⟩⟩⟩⟩)⟩
                     have n6_ : Aside0 ((((w61.setCell ⟨gb191, 0, none⟩ (.string ((rd_T90 t172 x87_3).f0))).setCell ⟨gb191, 1, none⟩ (.bool ((rd_T90 t172 x87_3).f1))).setCell ⟨gb191, 2, none⟩ (.bool ((rd_T90 t172 x87_3).f2))).heap[gb101]? = some (.cells #[.string a0_0, .slice A0_1 l0_1.length c0_1, .string a0_2, .slice A0_3 l0_3.length c0_3] 33 (0, 0))) := ⟨by (with_reducible repeat (first | refine blk_drewN ?_ _ | refine blk_drew ?_ | refine blk_alloc ?_ _)); refine blk_far ?_ NB101_191.out _; (with_reducible repeat (first | refine blk_drewN ?_ _ | refine blk_drew ?_ | refine blk_alloc ?_ _)); refine blk_far ?_ NB101_191.out _; (with_reducible repeat (first | refine blk_drewN ?_ _ | refine blk_drew ?_ | refine blk_alloc ?_ _)); refine blk_far ?_ NB101_191.out _; (with_reducible repeat (first | refine blk_drewN ?_ _ | refine blk_drew ?_ | refine blk_alloc ?_ _)); exact BK101.out⟩
                     have n7_ : Aside0 ((((w61.setCell ⟨gb191, 0, none⟩ (.string ((rd_T90 t172 x87_3).f0))).setCell ⟨gb191, 1, none⟩ (.bool ((rd_T90 t172 x87_3).f1))).setCell ⟨gb191, 2, none⟩ (.bool ((rd_T90 t172 x87_3).f2))).heap[gb176]? = some (.cells #[.int .i64 t170, .int .i64 t171, .slice (some ad190) t172.length co48] 86 (0, 0))) := ⟨by (with_reducible repeat (first | refine blk_drewN ?_ _ | refine blk_drew ?_ | refine blk_alloc ?_ _)); refine blk_far ?_ NB176_191.out _; (with_reducible repeat (first | refine blk_drewN ?_ _ | refine blk_drew ?_ | refine blk_alloc ?_ _)); refine blk_far ?_ NB176_191.out _; (with_reducible repeat (first | refine blk_drewN ?_ _ | refine blk_drew ?_ | refine blk_alloc ?_ _)); refine blk_far ?_ NB176_191.out _; (with_reducible repeat (first | refine blk_drewN ?_ _ | refine blk_drew ?_ | refine blk_alloc ?_ _)); exact BK176.out⟩
                     have n8_ : Aside0 ((((w61.setCell ⟨gb191, 0, none⟩ (.string ((rd_T90 t172 x87_3).f0))).setCell ⟨gb191, 1, none⟩ (.bool ((rd_T90 t172 x87_3).f1))).setCell ⟨gb191, 2, none⟩ (.bool ((rd_T90 t172 x87_3).f2))).heap[gb186]? = some (.cells #[.string t177, .int .i64 t178, .int .i64 t179, .int .i64 t180, .int .i64 t181, .slice Ao54 t182.length co54] 72 (0, 0))) := ⟨by (with_reducible repeat (first | refine blk_drewN ?_ _ | refine blk_drew ?_ | refine blk_alloc ?_ _)); refine blk_far ?_ NB186_191.out _; (with_reducible repeat (first | refine blk_drewN ?_ _ | refine blk_drew ?_ | refine blk_alloc ?_ _)); refine blk_far ?_ NB186_191.out _; (with_reducible repeat (first | refine blk_drewN ?_ _ | refine blk_drew ?_ | refine blk_alloc ?_ _)); refine blk_far ?_ NB186_191.out _; (with_reducible repeat (first | refine blk_drewN ?_ _ | refine blk_drew ?_ | refine blk_alloc ?_ _)); exact BK186.out⟩
                     have n9_ : Aside0 ((((w61.setCell ⟨gb191, 0, none⟩ (.string ((rd_T90 t172 x87_3).f0))).setCell ⟨gb191, 1, none⟩ (.bool ((rd_T90 t172 x87_3).f1))).setCell ⟨gb191, 2, none⟩ (.bool ((rd_T90 t172 x87_3).f2))).heap[gb191]? = some (.cells #[.string ((rd_T90 t172 x87_3).f0), .bool ((rd_T90 t172 x87_3).f1), .bool ((rd_T90 t172 x87_3).f2)] 90 (0, 0))) := ⟨by (with_reducible repeat (first | refine blk_drewN ?_ _ | refine blk_drew ?_ | refine blk_alloc ?_ _)); refine blk_put (cs := #[.string ((rd_T90 t172 x87_3).f0), .bool ((rd_T90 t172 x87_3).f1), .bool false]) ?_ 2 _ rfl; (with_reducible repeat (first | refine blk_drewN ?_ _ | refine blk_drew ?_ | refine blk_alloc ?_ _)); refine blk_put (cs := #[.string ((rd_T90 t172 x87_3).f0), .bool false, .bool false]) ?_ 1 _ rfl; (with_reducible repeat (first | refine blk_drewN ?_ _ | refine blk_drew ?_ | refine blk_alloc ?_ _)); refine blk_put (cs := #[.string (⟨#[]⟩ : ByteArray), .bool false, .bool false]) ?_ 0 _ rfl; (with_reducible repeat (first | refine blk_drewN ?_ _ | refine blk_drew ?_ | refine blk_alloc ?_ _)); exact BK191.out⟩
                     have n10_ : Aside0 (Below w.heap.size w (((w61.setCell ⟨gb191, 0, none⟩ (.string ((rd_T90 t172 x87_3).f0))).setCell ⟨gb191, 1, none⟩ (.bool ((rd_T90 t172 x87_3).f1))).setCell ⟨gb191, 2, none⟩ (.bool ((rd_T90 t172 x87_3).f2)))) := ⟨hbA HB⟩
                     generalize (((w61.setCell ⟨gb191, 0, none⟩ (.string ((rd_T90 t172 x87_3).f0))).setCell ⟨gb191, 1, none⟩ (.bool ((rd_T90 t172 x87_3).f1))).setCell ⟨gb191, 2, none⟩ (.bool ((rd_T90 t172 x87_3).f2))) = w66 at n0_ n1_ n2_ n3_ n4_ n5_ n6_ n7_ n8_ n9_ n10_ ⊢
                     have HO_40 := n0_; have HO_85 := n1_; have HO_102001 := n2_; have HO_102003 := n3_; have HO_177002 := n4_; have HO_187005 := n5_; have BK101 := n6_; have BK176 := n7_; have BK186 := n8_; have BK191 := n9_; have HB := n10_; clear n0_ n1_ n2_ n3_ n4_ n5_ n6_ n7_ n8_ n9_ n10_
                     have n0_ := Aside0.mk (Kd.R_drew HO_40.out)
                     have n1_ := Aside0.mk (Kd.V_drew HO_85.out)
                     have n2_ := Aside0.mk (Kd.V_drew HO_102001.out)
                     have n3_ := Aside0.mk (Kd.V_drew HO_102003.out)
                     have n4_ := Aside0.mk (Kd.V_drew HO_177002.out)
                     have n5_ := Aside0.mk (Kd.V_drew HO_187005.out)
                     have n6_ := Aside0.mk (blk_drew BK101.out)
                     have n7_ := Aside0.mk (blk_drew BK176.out)
                     have n8_ := Aside0.mk (blk_drew BK186.out)
                     have n9_ := Aside0.mk (blk_drew BK191.out)
                     have n10_ := Aside0.mk (below_drew1 HB.out)
                     clear HO_40; clear HO_85; clear HO_102001; clear HO_102003; clear HO_177002; clear HO_187005; clear BK101; clear BK176; clear BK186; clear BK191; clear HB; have HO_40 := n0_; have HO_85 := n1_; have HO_102001 := n2_; have HO_102003 := n3_; have HO_177002 := n4_; have HO_187005 := n5_; have BK101 := n6_; have BK176 := n7_; have BK186 := n8_; have BK191 := n9_; have HB := n10_; clear n0_ n1_ n2_ n3_ n4_ n5_ n6_ n7_ n8_ n9_ n10_
                     have p192 : 0 ≤ (x87_3 : Int) := of_decide_eq_true (by first | (with_reducible assumption) | assumption)
                     have q192 : x87_3 < (t182.length : Int) := of_decide_eq_true (by first | (with_reducible assumption) | assumption)
                     obtain ⟨ad192, e192, hx192_0, hx192_1, hx192_2⟩ := at_T91 (Kd.V_reads' HO_187005.out).2.2 x87_3 p192 q192
                     cases e192
                     replace p192 := eq_true p192
                     replace q192 := eq_true q192
                     refine start_ (n := 7) (S := fun w' => w'.cell? ⟨gb191, 0, none⟩ = some (.string ((rd_T90 t172 x87_3).f0)) ∧ w'.cell? ⟨gb191, 1, none⟩ = some (.bool ((rd_T90 t172 x87_3).f1)) ∧ w'.cell? ⟨gb191, 2, none⟩ = some (.bool ((rd_T90 t172 x87_3).f2)) ∧ w'.cell? ⟨gb186, 0, none⟩ = some (.string t177) ∧ w'.cell? ⟨gb186, 1, none⟩ = some (.int .i64 t178) ∧ w'.cell? ⟨gb186, 2, none⟩ = some (.int .i64 t179) ∧ w'.cell? ⟨gb186, 3, none⟩ = some (.int .i64 t180) ∧ w'.cell? ⟨gb186, 4, none⟩ = some (.int .i64 t181) ∧ w'.cell? ⟨gb186, 5, none⟩ = some (.slice (some ad192) t182.length co54) ∧ w'.cell? (ad192.add ((x87_3).toNat * 3)) = some (.string ((rd_T91 t182 x87_3).f0)) ∧ w'.cell? ⟨(ad192.add ((x87_3).toNat * 3)).block, (ad192.add ((x87_3).toNat * 3)).off + 1, none⟩ = some (.bool ((rd_T91 t182 x87_3).f1)) ∧ w'.cell? ⟨(ad192.add ((x87_3).toNat * 3)).block, (ad192.add ((x87_3).toNat * 3)).off + 2, none⟩ = some (.bool ((rd_T91 t182 x87_3).f2))) (ds := []) #[false, false, false, false, false, false, false] (by kernel_rfl) rfl rfl ⟨bcA BK191 0, bcA BK191 1, bcA BK191 2, bcA BK186 0, bcA BK186 1, bcA BK186 2, bcA BK186 3, bcA BK186 4, bcA BK186 5, hx192_0, hx192_1, hx192_2⟩ (fun hHeld => ?_)
                     generalize w66.drew = w67 at HO_40 HO_85 HO_102001 HO_102003 HO_177002 HO_187005 BK101 BK176 BK186 BK191 HB hx192_0 hx192_1 hx192_2 hHeld ⊢
                     refine pure_ (i := 1) (N := some 93) (v := ?_) (a' := ?_) #[false, true, false, false, false, false, false] rfl rfl (by kernel_rfl) (fun _ _ _ h => h) (Or.inl ⟨by rfl, ?_⟩) ?_ ?_
                     rotate_left
                     ·
                      intro w'
                      go_simp
                      with_reducible rfl
                     rotate_left
                     ·
                      simp only [Act.put, List.setIfInBounds_toArray, List.set_cons_zero, List.set_cons_succ, i64_w, i32_w]
                      rfl
                     refine pure_ (i := 3) (N := some 95) (v := ?_) (a' := ?_) #[false, true, false, true, false, false, false] rfl rfl (by kernel_rfl) (fun _ _ _ h => h) (Or.inl ⟨by rfl, ?_⟩) ?_ ?_
                     rotate_left
                     ·
                      intro w'
                      go_simp
                      with_reducible rfl
                     rotate_left
                     ·
                      simp only [Act.put, List.setIfInBounds_toArray, List.set_cons_zero, List.set_cons_succ, i64_w, i32_w]
                      rfl
                     refine take_ (i := 0) (N := some 92) (v := ?_) (a' := ?_) #[true, true, false, true, false, false, false] rfl rfl (by kernel_rfl) (fun _ _ _ h => h) (Or.inl ⟨by rfl, ?_⟩) hHeld ?_ ?_
                     rotate_left
                     ·
                      rintro w' ⟨s0, s1, s2, s3, s4, s5, s6, s7, s8, s9, s10, s11⟩
                      go_simp
                      with_reducible rfl
                     rotate_left
                     ·
                      simp only [Act.put, List.setIfInBounds_toArray, List.set_cons_zero, List.set_cons_succ, i64_w, i32_w]
                      rfl
                     refine take_ (i := 2) (N := some 94) (v := ?_) (a' := ?_) #[true, true, true, true, false, false, false] rfl rfl (by kernel_rfl) (fun _ _ _ h => h) (Or.inl ⟨by rfl, ?_⟩) hHeld ?_ ?_
                     rotate_left
                     ·
                      rintro w' ⟨s0, s1, s2, s3, s4, s5, s6, s7, s8, s9, s10, s11⟩
                      go_simp
                      with_reducible rfl
                     rotate_left
                     ·
                      simp only [Act.put, List.setIfInBounds_toArray, List.set_cons_zero, List.set_cons_succ, i64_w, i32_w]
                      rfl
                     refine pure_ (i := 4) (N := some 96) (v := ?_) (a' := ?_) #[true, true, true, true, true, false, false] rfl rfl (by kernel_rfl) (fun _ _ _ h => h) (Or.inl ⟨by rfl, ?_⟩) ?_ ?_
                     rotate_left
                     ·
                      intro w'
                      go_simp
                      with_reducible rfl
                     rotate_left
                     ·
                      simp only [Act.put, List.setIfInBounds_toArray, List.set_cons_zero, List.set_cons_succ, i64_w, i32_w]
                      rfl
                     refine take_ (i := 5) (N := some 97) (v := ?_) (a' := ?_) #[true, true, true, true, true, true, false] rfl rfl (by kernel_rfl) (fun _ _ _ h => h) (Or.inl ⟨by rfl, ?_⟩) hHeld ?_ ?_
                     rotate_left
                     ·
                      rintro w' ⟨s0, s1, s2, s3, s4, s5, s6, s7, s8, s9, s10, s11⟩
                      go_simp
                      with_reducible rfl
                     rotate_left
                     ·
                      simp only [Act.put, List.setIfInBounds_toArray, List.set_cons_zero, List.set_cons_succ, i64_w, i32_w]
                      rfl
                     refine pure_ (i := 6) (N := some 98) (v := ?_) (a' := ?_) #[true, true, true, true, true, true, true] rfl rfl (by kernel_rfl) (fun _ _ _ h => h) (Or.inl ⟨by rfl, ?_⟩) ?_ ?_
                     rotate_left
                     ·
                      intro w'
                      go_simp
                      with_reducible rfl
                     rotate_left
                     ·
                      simp only [Act.put, List.setIfInBounds_toArray, List.set_cons_zero, List.set_cons_succ, i64_w, i32_w]
                      rfl
                     refine done_ (by kernel_rfl) ?_
                     try go_wp2
                     go_roundg k3
                     case measure => have := HJ3.out; have := HK2.out; have := HK3.out; omega
                     case rel => exact ⟨(wrap64 (x87_3 + 1)), (by first | rfl | (simp; done) | (simp [*]; done)), H', ⟨by have := HJ3.out; have := HK2.out; have := HK3.out; omega⟩, ⟨krA HO_40⟩, ⟨by (with_reducible repeat (first | apply Kd.V_alloc | apply Kd.V_drewN | apply Kd.V_drew)); exact Kd.V_mono HO_85.out (fun _ hk => ⟨hk.1, ⟨hk.2.1, ⟨hk.2.2.1, ⟨hk.2.2.2.1, hk.2.2.2.2.1⟩⟩⟩⟩)⟩, ⟨by (with_reducible repeat (first | apply Kd.V_alloc | apply Kd.V_drewN | apply Kd.V_drew)); exact Kd.V_mono HO_102001.out (fun _ hk => ⟨hk.1, ⟨hk.2.1, ⟨hk.2.2.1, ⟨hk.2.2.2.1, hk.2.2.2.2.1⟩⟩⟩⟩)⟩, ⟨by (with_reducible repeat (first | apply Kd.V_alloc | apply Kd.V_drewN | apply Kd.V_drew)); exact Kd.V_mono HO_102003.out (fun _ hk => ⟨hk.1, ⟨hk.2.1, ⟨hk.2.2.1, ⟨hk.2.2.2.1, hk.2.2.2.2.1⟩⟩⟩⟩)⟩, ⟨by (with_reducible repeat (first | apply Kd.V_alloc | apply Kd.V_drewN | apply Kd.V_drew)); exact Kd.V_mono HO_177002.out (fun _ hk => ⟨hk.1, ⟨hk.2.1, ⟨hk.2.2.1, ⟨hk.2.2.2.1, hk.2.2.2.2.1⟩⟩⟩⟩)⟩, ⟨by (with_reducible repeat (first | apply Kd.V_alloc | apply Kd.V_drewN | apply Kd.V_drew)); exact Kd.V_mono HO_187005.out (fun _ hk => ⟨hk.1, ⟨hk.2.1, ⟨hk.2.2.1, ⟨hk.2.2.2.1, hk.2.2.2.2.1⟩⟩⟩⟩)⟩, ⟨bkA BK101⟩, ⟨bkA BK176⟩, ⟨bkA BK186⟩, ⟨hbA HB⟩⟩
                   ·
                    rw [if_neg c59] at H
                    exact absurd H (by simp)
                  ·
                   exact absurd (of_decide_eq_true c56b0) c58
                 ·
                  rw [if_neg c57] at H
                  exact absurd H (by simp)
                ·
                 rw [if_neg c56] at H
                 have c56b0 : decide (x87_3 < (t172.length : Int)) = false := decide_eq_false c56
                 clear c56
                 replace H := Option.bind_eq_some_iff.mp H
                 obtain ⟨t199, A680, H⟩ := H
                 replace H : ((agateref13_Rows.f k3 (rdOf ByteArray.empty y148 x42_2) a1).bind fun t202 => (if (t199.length : Int) = (t202.length : Int) then (agatelaw13_OpsTell.l2 k3 a1 t199 t202 y148 (y148.length : Int) x42_2 (t199.length : Int) 0) else (none))) = some r := H
                 have A68 := Aside0.mk A680
                 clear A680
                 replace H := Option.bind_eq_some_iff.mp H
                 obtain ⟨t202, A690, H⟩ := H
                 replace H : (if (t199.length : Int) = (t202.length : Int) then (agatelaw13_OpsTell.l2 k3 a1 t199 t202 y148 (y148.length : Int) x42_2 (t199.length : Int) 0) else (none)) = some r := H
                 have A69 := Aside0.mk A690
                 clear A690
                 by_cases c70 : (t199.length : Int) = (t202.length : Int)
                 ·
                  rw [if_pos c70] at H
                  have c70b0 : ((t199.length : Int) == (t202.length : Int)) = true := beq_iff_eq.mpr c70
                  have c70b1 : ((t199.length : Int) != (t202.length : Int)) = false := bne_eq_false_iff_eq.mpr c70
                  have c70b2 : (t199.length == t202.length) = true := by first | simpa using c70 | (simp at c70 ⊢; omega)
                  clear c70
                  have H' := Aside0.mk H
                  clear H
                  go_wp2_with (first | ((with_reducible refine gate_callee (f := 33) rfl ?_); refine goesL_ (some 102) rfl rfl Try.func33 (by kernel_rfl) rfl #[.string (rdOf ByteArray.empty y148 x42_2), .int .i64 a1] rfl (by (try simp only [List.map_toArray, List.map_cons, List.map_nil]); first | done | rfl | (simp only [List.length_drop, List.length_take]; rfl)) ?_; (with_reducible refine (ops_Rows.calls k3 (rdOf ByteArray.empty y148 x42_2) a1 t199 _ A68.out).mono ?_); rintro e w71 ⟨v200, rfl, ho0, hb⟩; refine ⟨_, rfl, ?_⟩; have n0_ := Aside0.mk (Kd.R_below (krA HO_40) hb); have n1_ := Aside0.mk (Kd.V_elder' (by (with_reducible repeat (first | apply Kd.V_alloc | apply Kd.V_drewN | apply Kd.V_drew)); exact HO_85.out) (Kd.R_base ho0) hb); have n2_ := Aside0.mk (Kd.V_elder' (by (with_reducible repeat (first | apply Kd.V_alloc | apply Kd.V_drewN | apply Kd.V_drew)); exact HO_102001.out) (Kd.R_base ho0) hb); have n3_ := Aside0.mk (Kd.V_elder' (by (with_reducible repeat (first | apply Kd.V_alloc | apply Kd.V_drewN | apply Kd.V_drew)); exact HO_102003.out) (Kd.R_base ho0) hb); have n4_ := Aside0.mk (Kd.V_elder' (by (with_reducible repeat (first | apply Kd.V_alloc | apply Kd.V_drewN | apply Kd.V_drew)); exact HO_177002.out) (Kd.R_base ho0) hb); have n5_ := Aside0.mk (Kd.V_elder' (by (with_reducible repeat (first | apply Kd.V_alloc | apply Kd.V_drewN | apply Kd.V_drew)); exact HO_187005.out) (Kd.R_base ho0) hb); have n6_ := Aside0.mk (Kd.R_lower (Kd.R_newM (M := fun k_ => (w.heap.size ≤ k_)) ho0 (below_size (hbA HB)) (fun k_ h_ => h_)) (below_size (hbA HB))); have n7_ := Aside0.mk (blk_below (g := gb101) (bkA BK101) hb); have n8_ := Aside0.mk (blk_below (g := gb176) (bkA BK176) hb); have n9_ := Aside0.mk (blk_below (g := gb186) (bkA BK186) hb); have n10_ := Aside0.mk (below_step (hbA HB) hb); clear HO_40; clear HO_85; clear HO_102001; clear HO_102003; clear HO_177002; clear HO_187005; clear BK101; clear BK176; clear BK186; clear HB; have HO_40 := n0_; have HO_85 := n1_; have HO_102001 := n2_; have HO_102003 := n3_; have HO_177002 := n4_; have HO_187005 := n5_; have HO201 := n6_; have BK101 := n7_; have BK176 := n8_; have BK186 := n9_; have HB := n10_; clear n0_ n1_ n2_ n3_ n4_ n5_ n6_ n7_ n8_ n9_ n10_; (try clear hb); (try clear hb2); (try clear hk); (try clear hi); (try clear ho0)) | ((with_reducible refine gate_callee (f := 34) rfl ?_); refine goesL_ (some 105) rfl rfl Try.func34 (by kernel_rfl) rfl #[.string (rdOf ByteArray.empty y148 x42_2), .int .i64 a1] rfl (by (try simp only [List.map_toArray, List.map_cons, List.map_nil]); first | done | rfl | (simp only [List.length_drop, List.length_take]; rfl)) ?_; (with_reducible refine (agateref13_Rows.calls k3 (rdOf ByteArray.empty y148 x42_2) a1 t202 _ A69.out).mono ?_); rintro e w72 ⟨v203, rfl, ho0, hb⟩; refine ⟨_, rfl, ?_⟩; have n0_ := Aside0.mk (Kd.R_below (krA HO_40) hb); have n1_ := Aside0.mk (Kd.V_elder' (by (with_reducible repeat (first | apply Kd.V_alloc | apply Kd.V_drewN | apply Kd.V_drew)); exact HO_85.out) (Kd.R_base ho0) hb); have n2_ := Aside0.mk (Kd.V_elder' (by (with_reducible repeat (first | apply Kd.V_alloc | apply Kd.V_drewN | apply Kd.V_drew)); exact HO_102001.out) (Kd.R_base ho0) hb); have n3_ := Aside0.mk (Kd.V_elder' (by (with_reducible repeat (first | apply Kd.V_alloc | apply Kd.V_drewN | apply Kd.V_drew)); exact HO_102003.out) (Kd.R_base ho0) hb); have n4_ := Aside0.mk (Kd.V_elder' (by (with_reducible repeat (first | apply Kd.V_alloc | apply Kd.V_drewN | apply Kd.V_drew)); exact HO_177002.out) (Kd.R_base ho0) hb); have n5_ := Aside0.mk (Kd.V_elder' (by (with_reducible repeat (first | apply Kd.V_alloc | apply Kd.V_drewN | apply Kd.V_drew)); exact HO_187005.out) (Kd.R_base ho0) hb); have n6_ := Aside0.mk (Kd.R_elder' (krA HO201) (Kd.R_base ho0) hb); have n7_ := Aside0.mk (Kd.R_lower (Kd.R_new' (Kd.R_newM (M := fun k_ => (w.heap.size ≤ k_)) ho0 (below_size (hbA HB)) (fun k_ h_ => h_)) (Kd.R_lt (krA HO201))) (below_size (hbA HB))); have n8_ := Aside0.mk (blk_below (g := gb101) (bkA BK101) hb); have n9_ := Aside0.mk (blk_below (g := gb176) (bkA BK176) hb); have n10_ := Aside0.mk (blk_below (g := gb186) (bkA BK186) hb); have n11_ := Aside0.mk (below_step (hbA HB) hb); clear HO_40; clear HO_85; clear HO_102001; clear HO_102003; clear HO_177002; clear HO_187005; clear HO201; clear BK101; clear BK176; clear BK186; clear HB; have HO_40 := n0_; have HO_85 := n1_; have HO_102001 := n2_; have HO_102003 := n3_; have HO_177002 := n4_; have HO_187005 := n5_; have HO201 := n6_; have HO204 := n7_; have BK101 := n8_; have BK176 := n9_; have BK186 := n10_; have HB := n11_; clear n0_ n1_ n2_ n3_ n4_ n5_ n6_ n7_ n8_ n9_ n10_ n11_; (try clear hb); (try clear hb2); (try clear hk); (try clear hi); (try clear ho0); obtain ⟨Ao73, co73, eo73⟩ := Kd.R_slice HO201.out; subst eo73; obtain ⟨Ao74, co74, eo74⟩ := Kd.R_slice HO204.out; subst eo74))
                  go_loopg [113] k3 (fun kq v113 w' => ∃ (x113_4 : Int), v113 = .int .i64 x113_4 ∧ Aside0 (agatelaw13_OpsTell.l2 kq a1 t199 t202 y148 (y148.length : Int) x42_2 (t199.length : Int) x113_4 = some r) ∧ Aside0 (kq ≤ k3) ∧ Aside0 (Kd.R (Kd.int .i64) 3 w' w.heap.size (fun k_ => (w.heap.size ≤ k_) ∧ some k_ ≠ ((.slice Ao74 t202.length co74) : Value).ownBlock) (.slice Ao73 t199.length co73) t199) ∧ Aside0 (Kd.R (Kd.int .i64) 3 w' w.heap.size (fun k_ => (w.heap.size ≤ k_) ∧ some k_ ≠ ((.slice Ao73 t199.length co73) : Value).ownBlock) (.slice Ao74 t202.length co74) t202) ∧ Aside0 (Kd.R Kd.string 9 w' w.heap.size (fun k_ => (w.heap.size ≤ k_)) (.slice (some ad169) y148.length co34) y148) ∧ Aside0 (Kd.V Kd.string 9 w' w.heap.size (fun k_ => ((P0_1_ k_ ∨ P0_3_ k_) ∨ w.heap.size ≤ k_) ∧ some k_ ≠ ((.slice Ao73 t199.length co73) : Value).ownBlock ∧ some k_ ≠ ((.slice Ao74 t202.length co74) : Value).ownBlock ∧ some k_ ≠ ((.slice (some ad169) y148.length co34) : Value).ownBlock ∧ k_ ≠ gb101 ∧ k_ ≠ gb176 ∧ k_ ≠ gb186) (.slice A0_1 l0_1.length c0_1) l0_1) ∧ Aside0 (Kd.V k35 35 w' w.heap.size (fun k_ => ((P0_1_ k_ ∨ P0_3_ k_) ∨ w.heap.size ≤ k_) ∧ some k_ ≠ ((.slice Ao73 t199.length co73) : Value).ownBlock ∧ some k_ ≠ ((.slice Ao74 t202.length co74) : Value).ownBlock ∧ some k_ ≠ ((.slice (some ad169) y148.length co34) : Value).ownBlock ∧ k_ ≠ gb101 ∧ k_ ≠ gb176 ∧ k_ ≠ gb186) (.slice A0_3 l0_3.length c0_3) l0_3) ∧ Aside0 (Kd.V k90 90 w' w.heap.size (fun k_ => ((P0_1_ k_ ∨ P0_3_ k_) ∨ w.heap.size ≤ k_) ∧ some k_ ≠ ((.slice Ao73 t199.length co73) : Value).ownBlock ∧ some k_ ≠ ((.slice Ao74 t202.length co74) : Value).ownBlock ∧ some k_ ≠ ((.slice (some ad169) y148.length co34) : Value).ownBlock ∧ k_ ≠ gb101 ∧ k_ ≠ gb176 ∧ k_ ≠ gb186) (.slice Ao48 t172.length co48) t172) ∧ Aside0 (Kd.V k91 91 w' w.heap.size (fun k_ => ((P0_1_ k_ ∨ P0_3_ k_) ∨ w.heap.size ≤ k_) ∧ some k_ ≠ ((.slice Ao73 t199.length co73) : Value).ownBlock ∧ some k_ ≠ ((.slice Ao74 t202.length co74) : Value).ownBlock ∧ some k_ ≠ ((.slice (some ad169) y148.length co34) : Value).ownBlock ∧ k_ ≠ gb101 ∧ k_ ≠ gb176 ∧ k_ ≠ gb186) (.slice Ao54 t182.length co54) t182) ∧ Aside0 (w'.heap[gb101]? = some (.cells #[.string a0_0, (.slice A0_1 l0_1.length c0_1), .string a0_2, (.slice A0_3 l0_3.length c0_3)] 33 (0, 0))) ∧ Aside0 (w'.heap[gb176]? = some (.cells #[.int .i64 t170, .int .i64 t171, (.slice Ao48 t172.length co48)] 86 (0, 0))) ∧ Aside0 (w'.heap[gb186]? = some (.cells #[.string t177, .int .i64 t178, .int .i64 t179, .int .i64 t180, .int .i64 t181, (.slice Ao54 t182.length co54)] 72 (0, 0))) ∧ Aside0 (Below w.heap.size w w'))
                  case atStart => exact ⟨(0), (by first | rfl | (simp; done) | (simp [*]; done)), H', ⟨Nat.le_refl _⟩, ⟨by (with_reducible repeat (first | apply Kd.R_alloc | apply Kd.R_drewN | apply Kd.R_drew)); exact Kd.R_mono HO201.out (fun _ hk => ⟨hk.1.1, hk.2⟩)⟩, ⟨by (with_reducible repeat (first | apply Kd.R_alloc | apply Kd.R_drewN | apply Kd.R_drew)); exact Kd.R_mono HO204.out (fun _ hk => ⟨hk.1.1, hk.2⟩)⟩, ⟨krA HO_40⟩, ⟨by (with_reducible repeat (first | apply Kd.V_alloc | apply Kd.V_drewN | apply Kd.V_drew)); exact Kd.V_mono HO_102001.out (fun _ hk => ⟨hk.1.1.1, ⟨hk.1.2, ⟨hk.2, ⟨hk.1.1.2.1, ⟨hk.1.1.2.2.1, ⟨hk.1.1.2.2.2.1, hk.1.1.2.2.2.2⟩⟩⟩⟩⟩⟩)⟩, ⟨by (with_reducible repeat (first | apply Kd.V_alloc | apply Kd.V_drewN | apply Kd.V_drew)); exact Kd.V_mono HO_102003.out (fun _ hk => ⟨hk.1.1.1, ⟨hk.1.2, ⟨hk.2, ⟨hk.1.1.2.1, ⟨hk.1.1.2.2.1, ⟨hk.1.1.2.2.2.1, hk.1.1.2.2.2.2⟩⟩⟩⟩⟩⟩)⟩, ⟨by (with_reducible repeat (first | apply Kd.V_alloc | apply Kd.V_drewN | apply Kd.V_drew)); exact Kd.V_mono HO_177002.out (fun _ hk => ⟨hk.1.1.1, ⟨hk.1.2, ⟨hk.2, ⟨hk.1.1.2.1, ⟨hk.1.1.2.2.1, ⟨hk.1.1.2.2.2.1, hk.1.1.2.2.2.2⟩⟩⟩⟩⟩⟩)⟩, ⟨by (with_reducible repeat (first | apply Kd.V_alloc | apply Kd.V_drewN | apply Kd.V_drew)); exact Kd.V_mono HO_187005.out (fun _ hk => ⟨hk.1.1.1, ⟨hk.1.2, ⟨hk.2, ⟨hk.1.1.2.1, ⟨hk.1.1.2.2.1, ⟨hk.1.1.2.2.2.1, hk.1.1.2.2.2.2⟩⟩⟩⟩⟩⟩)⟩, ⟨bkA BK101⟩, ⟨bkA BK176⟩, ⟨bkA BK186⟩, ⟨hbA HB⟩⟩
                  case round =>
                   clear H'
                   obtain ⟨x113_4, rfl, HA, HK4, HO_15, HO_16, HO_40, HO_102001, HO_102003, HO_177002, HO_187005, BK101, BK176, BK186, HB⟩ := hrel
                   cases gk with
                   | zero => exact absurd HA.out (by simp [agatelaw13_OpsTell.l2])
                   | succ k4 =>
                    have H := HA.out; clear HA
                    simp only [agatelaw13_OpsTell.l2] at H
                    by_cases c75 : x113_4 < (t199.length : Int)
                    ·
                     rw [if_pos c75] at H
                     have c75b0 : decide (x113_4 < (t199.length : Int)) = true := decide_eq_true c75
                     clear c75
                     by_cases c76 : 0 ≤ x113_4
                     ·
                      rw [if_pos c76] at H
                      have c76b0 : decide (0 ≤ x113_4) = true := decide_eq_true c76
                      clear c76
                      by_cases c77 : x113_4 < (t199.length : Int)
                      ·
                       rw [if_pos c77] at H
                       have c77b0 : decide (x113_4 < (t199.length : Int)) = true := decide_eq_true c77
                       clear c77
                       by_cases c78 : x113_4 < (t202.length : Int)
                       ·
                        rw [if_pos c78] at H
                        have c78b0 : decide (x113_4 < (t202.length : Int)) = true := decide_eq_true c78
                        clear c78
                        by_cases c79 : (rd t199 x113_4) = (rd t202 x113_4)
                        ·
                         rw [if_pos c79] at H
                         have c79b0 : ((rd t199 x113_4) == (rd t202 x113_4)) = true := beq_iff_eq.mpr c79
                         have c79b1 : ((rd t199 x113_4) != (rd t202 x113_4)) = false := bne_eq_false_iff_eq.mpr c79
                         clear c79
                         have H' := Aside0.mk H
                         clear H
                         try go_wp2
                         have n0_ := Aside0.mk (Kd.R_drew HO_15.out)
                         have n1_ := Aside0.mk (Kd.R_drew HO_16.out)
                         have n2_ := Aside0.mk (Kd.R_drew HO_40.out)
                         have n3_ := Aside0.mk (Kd.V_drew HO_102001.out)
                         have n4_ := Aside0.mk (Kd.V_drew HO_102003.out)
                         have n5_ := Aside0.mk (Kd.V_drew HO_177002.out)
                         have n6_ := Aside0.mk (Kd.V_drew HO_187005.out)
                         have n7_ := Aside0.mk (blk_drew BK101.out)
                         have n8_ := Aside0.mk (blk_drew BK176.out)
                         have n9_ := Aside0.mk (blk_drew BK186.out)
                         have n10_ := Aside0.mk (below_drew1 HB.out)
                         clear HO_15; clear HO_16; clear HO_40; clear HO_102001; clear HO_102003; clear HO_177002; clear HO_187005; clear BK101; clear BK176; clear BK186; clear HB; have HO_15 := n0_; have HO_16 := n1_; have HO_40 := n2_; have HO_102001 := n3_; have HO_102003 := n4_; have HO_177002 := n5_; have HO_187005 := n6_; have BK101 := n7_; have BK176 := n8_; have BK186 := n9_; have HB := n10_; clear n0_ n1_ n2_ n3_ n4_ n5_ n6_ n7_ n8_ n9_ n10_
                         have p207 : 0 ≤ (x113_4 : Int) := of_decide_eq_true (by first | (with_reducible assumption) | assumption)
                         have q207 : x113_4 < (t199.length : Int) := of_decide_eq_true (by first | (with_reducible assumption) | assumption)
                         obtain ⟨ad207, e207, hx207_0⟩ := Kd.at_int (Kd.R_reads' HO_15.out).2.2 x113_4 p207 q207
                         cases e207
                         replace p207 := eq_true p207
                         replace q207 := eq_true q207
                         have p208 : 0 ≤ (x113_4 : Int) := of_decide_eq_true (by first | (with_reducible assumption) | assumption)
                         have q208 : x113_4 < (t202.length : Int) := of_decide_eq_true (by first | (with_reducible assumption) | assumption)
                         obtain ⟨ad208, e208, hx208_0⟩ := Kd.at_int (Kd.R_reads' HO_16.out).2.2 x113_4 p208 q208
                         cases e208
                         replace p208 := eq_true p208
                         replace q208 := eq_true q208
                         refine start_ (n := 9) (S := fun w' => w'.cell? (ad207.add (x113_4).toNat) = some (.int .i64 (rd t199 x113_4)) ∧ w'.cell? (ad208.add (x113_4).toNat) = some (.int .i64 (rd t202 x113_4))) (ds := []) #[false, false, false, false, false, false, false, false, false] (by kernel_rfl) rfl rfl ⟨hx207_0, hx208_0⟩ (fun hHeld => ?_); refine with_tabW agatelaw13_OpsTell.tab24 agatelaw13_OpsTell.bits24 (fun HT_ HW_ => ?_)
                         generalize wr.drew = w80 at HO_15 HO_16 HO_40 HO_102001 HO_102003 HO_177002 HO_187005 BK101 BK176 BK186 HB hx207_0 hx208_0 hHeld ⊢
                         refine pure_ (i := 0) (N := some 116) (v := ?_) (a' := ?_) #[true, false, false, false, false, false, false, false, false] rfl rfl (any_of HT_.out (by kernel_rfl)) (fun _ _ _ h => h) (Or.inl ⟨by rfl, ?_⟩) ?_ ?_
                         rotate_left
                         ·
                          intro w'
                          go_simp
                          with_reducible rfl
                         rotate_left
                         ·
                          simp only [Act.put, List.setIfInBounds_toArray, List.set_cons_zero, List.set_cons_succ, i64_w, i32_w]
                          rfl
                         refine pure_ (i := 1) (N := some 117) (v := ?_) (a' := ?_) #[true, true, false, false, false, false, false, false, false] rfl rfl (any_of HT_.out (by kernel_rfl)) (fun _ _ _ h => h) (Or.inl ⟨by rfl, ?_⟩) ?_ ?_
                         rotate_left
                         ·
                          intro w'
                          go_simp
                          with_reducible rfl
                         rotate_left
                         ·
                          simp only [Act.put, List.setIfInBounds_toArray, List.set_cons_zero, List.set_cons_succ, i64_w, i32_w]
                          rfl
                         refine pure_ (i := 2) (N := some 118) (v := ?_) (a' := ?_) #[true, true, true, false, false, false, false, false, false] rfl rfl (any_of HT_.out (by kernel_rfl)) (fun _ _ _ h => h) (Or.inl ⟨by rfl, ?_⟩) ?_ ?_
                         rotate_left
                         ·
                          intro w'
                          go_simp
                          with_reducible rfl
                         rotate_left
                         ·
                          simp only [Act.put, List.setIfInBounds_toArray, List.set_cons_zero, List.set_cons_succ, i64_w, i32_w]
                          rfl
                         refine pure_ (i := 4) (N := some 120) (v := ?_) (a' := ?_) #[true, true, true, false, true, false, false, false, false] rfl rfl (any_of HT_.out (by kernel_rfl)) (fun _ _ _ h => h) (Or.inl ⟨by rfl, ?_⟩) ?_ ?_
                         rotate_left
                         ·
                          intro w'
                          go_simp
                          with_reducible rfl
                         rotate_left
                         ·
                          simp only [Act.put, List.setIfInBounds_toArray, List.set_cons_zero, List.set_cons_succ, i64_w, i32_w]
                          rfl
                         refine pure_ (i := 5) (N := some 121) (v := ?_) (a' := ?_) #[true, true, true, false, true, true, false, false, false] rfl rfl (any_of HT_.out (by kernel_rfl)) (fun _ _ _ h => h) (Or.inl ⟨by rfl, ?_⟩) ?_ ?_
                         rotate_left
                         ·
                          intro w'
                          go_simp
                          with_reducible rfl
                         rotate_left
                         ·
                          simp only [Act.put, List.setIfInBounds_toArray, List.set_cons_zero, List.set_cons_succ, i64_w, i32_w]
                          rfl
                         refine pure_ (i := 6) (N := some 122) (v := ?_) (a' := ?_) #[true, true, true, false, true, true, true, false, false] rfl rfl (any_of HT_.out (by kernel_rfl)) (fun _ _ _ h => h) (Or.inl ⟨by rfl, ?_⟩) ?_ ?_
                         rotate_left
                         ·
                          intro w'
                          go_simp
                          with_reducible rfl
                         rotate_left
                         ·
                          simp only [Act.put, List.setIfInBounds_toArray, List.set_cons_zero, List.set_cons_succ, i64_w, i32_w]
                          rfl
                         refine take_ (i := 3) (N := some 119) (v := ?_) (a' := ?_) #[true, true, true, true, true, true, true, false, false] rfl rfl (take_ofW HT_.out HW_.out (by kernel_rfl)) (fun _ _ _ h => h) (Or.inl ⟨by rfl, ?_⟩) hHeld ?_ ?_
                         rotate_left
                         ·
                          rintro w' ⟨s0, s1⟩
                          go_simp
                          with_reducible rfl
                         rotate_left
                         ·
                          simp only [Act.put, List.setIfInBounds_toArray, List.set_cons_zero, List.set_cons_succ, i64_w, i32_w]
                          rfl
                         refine take_ (i := 7) (N := some 123) (v := ?_) (a' := ?_) #[true, true, true, true, true, true, true, true, false] rfl rfl (take_ofW HT_.out HW_.out (by kernel_rfl)) (fun _ _ _ h => h) (Or.inl ⟨by rfl, ?_⟩) hHeld ?_ ?_
                         rotate_left
                         ·
                          rintro w' ⟨s0, s1⟩
                          go_simp
                          with_reducible rfl
                         rotate_left
                         ·
                          simp only [Act.put, List.setIfInBounds_toArray, List.set_cons_zero, List.set_cons_succ, i64_w, i32_w]
                          rfl
                         refine pure_ (i := 8) (N := some 124) (v := ?_) (a' := ?_) #[true, true, true, true, true, true, true, true, true] rfl rfl (any_of HT_.out (by kernel_rfl)) (fun _ _ _ h => h) (Or.inl ⟨by rfl, ?_⟩) ?_ ?_
                         rotate_left
                         ·
                          intro w'
                          go_simp
                          with_reducible rfl
                         rotate_left
                         ·
                          simp only [Act.put, List.setIfInBounds_toArray, List.set_cons_zero, List.set_cons_succ, i64_w, i32_w]
                          rfl
                         refine done_ (done_of HT_.out (by kernel_rfl)) ?_
                         try go_wp2
                         go_roundg k4
                         case measure => have := HJ3.out; have := HK2.out; have := HK3.out; have := HK4.out; omega
                         case rel => exact ⟨(wrap64 (x113_4 + 1)), (by first | rfl | (simp; done) | (simp [*]; done)), H', ⟨by have := HJ3.out; have := HK2.out; have := HK3.out; have := HK4.out; omega⟩, ⟨krA HO_15⟩, ⟨krA HO_16⟩, ⟨krA HO_40⟩, ⟨by (with_reducible repeat (first | apply Kd.V_alloc | apply Kd.V_drewN | apply Kd.V_drew)); exact HO_102001.out⟩, ⟨by (with_reducible repeat (first | apply Kd.V_alloc | apply Kd.V_drewN | apply Kd.V_drew)); exact HO_102003.out⟩, ⟨by (with_reducible repeat (first | apply Kd.V_alloc | apply Kd.V_drewN | apply Kd.V_drew)); exact HO_177002.out⟩, ⟨by (with_reducible repeat (first | apply Kd.V_alloc | apply Kd.V_drewN | apply Kd.V_drew)); exact HO_187005.out⟩, ⟨bkA BK101⟩, ⟨bkA BK176⟩, ⟨bkA BK186⟩, ⟨hbA HB⟩⟩
                        ·
                         rw [if_neg c79] at H
                         exact absurd H (by simp)
                       ·
                        rw [if_neg c78] at H
                        exact absurd H (by simp)
                      ·
                       exact absurd (of_decide_eq_true c75b0) c77
                     ·
                      rw [if_neg c76] at H
                      exact absurd H (by simp)
                    ·
                     rw [if_neg c75] at H
                     have c75b0 : decide (x113_4 < (t199.length : Int)) = false := decide_eq_false c75
                     clear c75
                     have H' := Aside0.mk H
                     clear H
                     go_wp2
                     go_roundg k4
                     case measure => have := HJ3.out; have := HK2.out; have := HK3.out; have := HK4.out; omega
                     case rel => exact ⟨(wrap64 (x42_2 + 1)), (by first | rfl | (simp; done) | (simp [*]; done)), H', ⟨by have := HJ3.out; have := HK2.out; have := HK3.out; have := HK4.out; omega⟩, ⟨krA HO_40⟩, ⟨by (with_reducible repeat (first | apply Kd.V_alloc | apply Kd.V_drewN | apply Kd.V_drew)); exact Kd.V_mono HO_102001.out (fun _ hk => ⟨hk.1, ⟨hk.2.2.2.1, hk.2.2.2.2.1⟩⟩)⟩, ⟨by (with_reducible repeat (first | apply Kd.V_alloc | apply Kd.V_drewN | apply Kd.V_drew)); exact Kd.V_mono HO_102003.out (fun _ hk => ⟨hk.1, ⟨hk.2.2.2.1, hk.2.2.2.2.1⟩⟩)⟩, ⟨bkA BK101⟩, ⟨hbA HB⟩⟩
                 ·
                  rw [if_neg c70] at H
                  exact absurd H (by simp)
             ·
              rw [if_neg c43] at H
              exact absurd H (by simp)
            ·
             rw [if_neg c42] at H
             exact absurd H (by simp)
           ·
            rw [if_neg c41] at H
            exact absurd H (by simp)
         ·
          rw [if_neg c37] at H
          exact absurd H (by simp)
        ·
         rw [if_neg c36] at H
         exact absurd H (by simp)
       ·
        rw [if_neg c35] at H
        have c35b0 : decide (x42_2 < (y148.length : Int)) = false := decide_eq_false c35
        clear c35
        replace H := Option.bind_eq_some_iff.mp H
        obtain ⟨t210, A810, H⟩ := H
        replace H : (some t210) = some r := H
        have A81 := Aside0.mk A810
        clear A810
        obtain rfl := Option.some.inj H
        go_wp2_with (first | ((with_reducible refine gate_callee (f := 26) rfl ?_); refine goesL_ (some 127) rfl rfl Try.func26 (by kernel_rfl) rfl #[] rfl (by (try simp only [List.map_toArray, List.map_cons, List.map_nil]); first | done | rfl | (simp only [List.length_drop, List.length_take]; rfl)) ?_; (with_reducible refine (agatelaw13_Awake.calls k2  t210 _ A81.out).mono ?_); rintro e w82 ⟨rfl, hb⟩; refine ⟨_, rfl, ?_⟩; have n0_ := Aside0.mk (Kd.R_below (krA HO_40) hb); have n1_ := Aside0.mk (Kd.V_below (by (with_reducible repeat (first | apply Kd.V_alloc | apply Kd.V_drewN | apply Kd.V_drew)); exact HO_102001.out) hb); have n2_ := Aside0.mk (Kd.V_below (by (with_reducible repeat (first | apply Kd.V_alloc | apply Kd.V_drewN | apply Kd.V_drew)); exact HO_102003.out) hb); have n3_ := Aside0.mk (blk_below (g := gb101) (bkA BK101) hb); have n4_ := Aside0.mk (below_step (hbA HB) hb); clear HO_40; clear HO_102001; clear HO_102003; clear BK101; clear HB; have HO_40 := n0_; have HO_102001 := n1_; have HO_102003 := n2_; have BK101 := n3_; have HB := n4_; clear n0_ n1_ n2_ n3_ n4_; (try clear hb); (try clear hb2); (try clear hk); (try clear hi)))
        go_ret
        exact ⟨by first | rfl | (simp [errW_none, errW_some] <;> rfl) | (simp [*, errW_none, errW_some] <;> rfl), hbA HB⟩
    ·
     rw [if_neg c24] at H
     exact absurd H (by simp)
end Go.Proofs.Ytdemgfbolcmcdaa.X
