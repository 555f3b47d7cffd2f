import Derived.Test.YtdemgfbolcmcdaaMModelFinds2
import Derived.Test.YtdemgfbolcmcdaaMModelFinds13
import Derived.Test.YtdemgfbolcmcdaaMModelFinds5
import Derived.Test.YtdemgfbolcmcdaaMModelFinds3
import Derived.ChangeSlices
import Derived.SizedLaws
import Derived.ProofKit
import Derived.OpenShut
import Derived.ShutString
import Derived.ChangeOld
import Derived.Test.YtdemgfbolcmcdaaMModelFinds9
import Derived.Test.YtdemgfbolcmcdaaMModelFinds10
import Derived.Test.YtdemgfbolcmcdaaMModelFinds11
import Derived.Test.YtdemgfbolcmcdaaMModelFinds12
import Derived.Test.YtdemgfbolcmcdaaMModelFinds6
namespace Go.Proofs.Ytdemgfbolcmcdaa.X
open Go.RowKit Go.Proofs.YtdemgfbolcmcdaaW.PrintWords Go.Proofs.YtdemgfbolcmcdaaW.PrintLast Go.Proofs.YtdemgfbolcmcdaaW.PrintMore
attribute [local go_sem] max2_int min2_int max_two min_two max_three min_three max_four min_four
set_option linter.unusedVariables false
set_option linter.unusedSimpArgs false
def agateref07_Same_s.f (a0_0 : ByteArray) (a0_1 : Int) (l0_2 : List Int) (a0_3 : ByteArray) (a1_0 : ByteArray) (a1_1 : Int) (l1_2 : List Int) (a1_3 : ByteArray) : Option Bool := if l0_2.length ≤ 1000000000000000000 then some (sameR a0_0 a0_1 l0_2 a0_3 a1_0 a1_1 l1_2 a1_3) else none
theorem agateref07_Same_eval (a0_0 : ByteArray) (a0_1 : Int) (l0_2 : List Int) (a0_3 : ByteArray) (a1_0 : ByteArray) (a1_1 : Int) (l1_2 : List Int) (a1_3 : ByteArray) (hl : l0_2.length ≤ 1000000000000000000) (he : l0_2.length = l1_2.length) (d : Nat) : ∀ (k i : Nat), l0_2.length - i = d → i ≤ l0_2.length → d < k →
    agateref07_Same.l0 k (i : Int) a0_0 a0_1 l0_2 a0_3 a1_0 a1_1 l1_2 a1_3 = some (decide (l0_2.drop i = l1_2.drop i)) := by
  induction d with
  | zero =>
    intro k i hdd hi hk
    obtain ⟨k, rfl⟩ : ∃ m, k = m + 1 := ⟨k - 1, by omega⟩
    simp only [agateref07_Same.l0]
    rw [if_neg (by omega), List.drop_of_length_le (by omega), List.drop_of_length_le (by omega)]; rfl
  | succ d ih =>
    intro k i hdd hi hk
    obtain ⟨k, rfl⟩ : ∃ m, k = m + 1 := ⟨k - 1, by omega⟩
    have hlt : i < l0_2.length := by omega
    have hlt2 : i < l1_2.length := by omega
    have e0 : rd l0_2 (i : Int) = l0_2[i] := by simp [rd, hlt]
    have e1 : rd l1_2 (i : Int) = l1_2[i] := by simp [rd, hlt2]
    simp only [agateref07_Same.l0]
    rw [if_pos (by omega), if_pos (by omega), if_pos (by omega), e0, e1, List.drop_eq_getElem_cons hlt, List.drop_eq_getElem_cons hlt2]
    by_cases hx : l0_2[i] = l1_2[i]
    · rw [if_pos hx, wrap64_id (by omega) (by omega), show ((i : Int) + 1) = ((i + 1 : Nat) : Int) by omega, ih k (i + 1) (by omega) (by omega) (by omega)]
      congr 1
      exact decide_eq_decide.2 ⟨fun h => by rw [h, hx], fun h => (List.cons.inj h).2⟩
    · rw [if_neg hx, decide_eq_false (fun h => hx (List.cons.inj h).1)]
theorem agateref07_Same_s.ev (a0_0 : ByteArray) (a0_1 : Int) (l0_2 : List Int) (a0_3 : ByteArray) (a1_0 : ByteArray) (a1_1 : Int) (l1_2 : List Int) (a1_3 : ByteArray) (r) (h : agateref07_Same_s.f a0_0 a0_1 l0_2 a0_3 a1_0 a1_1 l1_2 a1_3 = some r) : ∃ k, agateref07_Same.f k a0_0 a0_1 l0_2 a0_3 a1_0 a1_1 l1_2 a1_3 = some r := by
  unfold agateref07_Same_s.f at h
  split at h
  case isFalse => cases h
  rename_i hl
  rw [← h]
  refine ⟨l0_2.length + 2, ?_⟩
  unfold agateref07_Same.f sameR
  by_cases h0 : a0_0 = a1_0
  case neg => rw [if_neg (fun e => h0 (toList_inj.1 e)), decide_eq_false (fun e => h0 e.1)]; rfl
  rw [if_pos (by rw [h0])]
  by_cases h1 : a0_1 = a1_1
  case neg => rw [if_neg h1, decide_eq_false (fun e => h1 e.2.1)]; rfl
  rw [if_pos h1]
  by_cases h3 : a0_3 = a1_3
  case neg => rw [if_neg (fun e => h3 (toList_inj.1 e)), decide_eq_false (fun e => h3 e.2.2.2)]; rfl
  rw [if_pos (by rw [h3])]
  rw [show l0_2.length + 2 = (l0_2.length + 1) + 1 from rfl]
  simp only [agateref07_Same.j0]
  by_cases he : l0_2.length = l1_2.length
  · rw [show ((l0_2.length : Int) != (l1_2.length : Int)) = false by simp [he], if_neg (by decide)]
    have := agateref07_Same_eval a0_0 a0_1 l0_2 a0_3 a1_0 a1_1 l1_2 a1_3 hl he l0_2.length (l0_2.length + 1) 0 (by omega) (by omega) (by omega)
    rw [List.drop_zero, List.drop_zero] at this
    refine this.trans ?_
    congr 1
    exact decide_eq_decide.2 ⟨fun e => ⟨h0, h1, e, h3⟩, fun e => e.2.2.1⟩
  · rw [show ((l0_2.length : Int) != (l1_2.length : Int)) = true by simp; omega, if_pos rfl, decide_eq_false (fun e => he (by rw [e.2.2.1]))]
set_option maxHeartbeats 1000000 in
theorem agateref07_Same_s.calls (a0_0 : ByteArray) (a0_1 : Int) (A0_2 : Option Addr) (c0_2 : Nat) (l0_2 : List Int) (a0_3 : ByteArray) (a1_0 : ByteArray) (a1_1 : Int) (A1_2 : Option Addr) (c1_2 : Nat) (l1_2 : List Int) (a1_3 : ByteArray) (r : Bool) (w : World) (hr0_2 : Kd.C (Kd.int .i64) w A0_2 l0_2.length l0_2) (hc0_2 : l0_2.length ≤ c0_2) (hr1_2 : Kd.C (Kd.int .i64) w A1_2 l1_2.length l1_2) (hc1_2 : l1_2.length ≤ c1_2) (h : agateref07_Same_s.f a0_0 a0_1 l0_2 a0_3 a1_0 a1_1 l1_2 a1_3 = some r) :
    Calls Try.prog 19 #[.agg #[.string a0_0, .int .i64 a0_1, .slice A0_2 l0_2.length c0_2, .string a0_3], .agg #[.string a1_0, .int .i64 a1_1, .slice A1_2 l1_2.length c1_2, .string a1_3]] w fun e w' => e = .returned (.bool r) ∧ Below w.heap.size w w' := by
  obtain ⟨k, hk⟩ := agateref07_Same_s.ev a0_0 a0_1 l0_2 a0_3 a1_0 a1_1 l1_2 a1_3 _ h
  exact agateref07_Same.calls k a0_0 a0_1 A0_2 c0_2 l0_2 a0_3 a1_0 a1_1 A1_2 c1_2 l1_2 a1_3 r w hr0_2 hc0_2 hr1_2 hc1_2 hk
end Go.Proofs.Ytdemgfbolcmcdaa.X
namespace Go.Proofs.Ytdemgfbolcmcdaa.X
open Go.RowKit Go.Proofs.YtdemgfbolcmcdaaW.PrintWords Go.Proofs.YtdemgfbolcmcdaaW.PrintLast Go.Proofs.YtdemgfbolcmcdaaW.PrintMore
attribute [local go_sem] max2_int min2_int max_two min_two max_three min_three max_four min_four
set_option linter.unusedVariables false
set_option linter.unusedSimpArgs false
open Go.ChangeShapes Go.WideShapes
structure Opens {H : Type} (enc : TypeId × Value → H) (P : Program) (W : World) (t : TypeId) {α : Type} (d : Kd α) (wf : α → Prop) : Prop where
  cells : P.cellsOf t = d.sz
  go : ∀ (fuel : Nat) (cs : List Value) (x : DataW H × List MemPlace), DataW.trod enc P W 0 (fun _ => true) true fuel t cs = some x →
    (∀ n ∈ DataW.weights P t x.1, n ≤ reachBytes) → ∃ a, d.K W a cs ∧ wf a
theorem Opens.int {H : Type} {enc : TypeId × Value → H} {P : Program} {W : World} {t : TypeId} {k : IntKind} (ht : P.underlying t = some (.int k)) (hc : P.cellsOf t = 1) :
    Opens enc P W t (Kd.int k) (fun a => (Lit.int k a).wf = true) := by
  refine ⟨hc, fun fuel cs x h _ => ?_⟩
  obtain ⟨n, rfl, _, hw⟩ := DataW.trod_int ht h
  exact ⟨n, rfl, hw⟩
theorem Opens.bool {H : Type} {enc : TypeId × Value → H} {P : Program} {W : World} {t : TypeId} (ht : P.underlying t = some .bool) (hc : P.cellsOf t = 1) :
    Opens enc P W t Kd.bool (fun _ => True) := by
  refine ⟨hc, fun fuel cs x h _ => ?_⟩
  obtain ⟨b, rfl, _⟩ := DataW.trod_bool ht h
  exact ⟨b, rfl, trivial⟩
theorem Opens.string {H : Type} {enc : TypeId × Value → H} {P : Program} {W : World} {t : TypeId} (ht : P.underlying t = some .string) (hc : P.cellsOf t = 1) :
    Opens enc P W t Kd.string (fun a => a.size ≤ 140737488351232) := by
  refine ⟨hc, fun fuel cs x h hw => ?_⟩
  obtain ⟨s, rfl, rfl, _⟩ := DataW.trod_string ht h
  refine ⟨s, rfl, ?_⟩
  have := hw s.data.toList.length (by simp [DataW.weights])
  rw [Array.length_toList] at this
  exact this
theorem weights_all_mem {H : Type} {P : Program} {e : TypeId} : ∀ {l : List (DataW H)} {y : DataW H}, y ∈ l → ∀ n ∈ DataW.weights P e y, n ∈ DataW.weightsAll P e l
  | d :: r, y, hy, n, hn => by
    simp only [DataW.weightsAll, List.mem_append]
    rcases List.mem_cons.1 hy with rfl | hy
    · exact .inl hn
    · exact .inr (weights_all_mem hy n hn)
theorem Opens.slice {H : Type} {enc : TypeId × Value → H} {P : Program} {W : World} {t e : TypeId} {α : Type} {d : Kd α} {wf : α → Prop} {B : Nat} (ht : P.underlying t = some (.slice e)) (hc : P.cellsOf t = 1) (hB : P.bytesOf e = B)
    (he : Opens enc P W e d wf) :
    Opens enc P W t (Kd.slice e d) (fun l => l.length ≤ maxLen ∧ l.length * B ≤ 140737488351232 ∧ ∀ x ∈ l, wf x) := by
  refine ⟨hc, fun fuel cs x h hw => ?_⟩
  rcases DataW.trod_slice ht h with ⟨rfl, rfl⟩ | ⟨a, len, cap, elems, rest, n, _, rfl, rfl, hb, hl, hm, hlen, hel, hsp, hns⟩
  · exact ⟨[], ⟨none, 0, rfl, Nat.le_refl _, rfl, Nat.zero_le _, fun h => absurd h (Nat.lt_irrefl 0)⟩, by simp, by simp, by simp⟩
  · have hwe : ∀ y ∈ elems, ∀ n ∈ DataW.weights P e y.1, n ≤ reachBytes := by
      intro y hy n hn
      refine hw n ?_
      simp only [DataW.weights, ht, List.mem_cons, List.mem_append]
      exact .inr (.inl (weights_all_mem (List.mem_map_of_mem hy) n hn))
    have hsize : (elems.length + rest.length) * P.bytesOf e ≤ reachBytes := by
      have := hw ((elems.length + rest.length) * P.bytesOf e) (by simp [DataW.weights, ht])
      exact this
    have each : ∀ i, i < len → ∃ y c, W.cells? 0 (a.add (i * P.cellsOf e)) (P.cellsOf e) = some c ∧ d.K W y c ∧ wf y := by
      intro i hi
      have h1 := hel i hi
      have h2 : elems[i]? = some elems[i] := List.getElem?_eq_getElem (by omega)
      rw [h2, Option.bind_eq_some_iff] at h1
      obtain ⟨c, hcs, hy⟩ := h1
      obtain ⟨y, hk, hwf⟩ := he.go n c _ hy (hwe _ (List.getElem_mem _))
      exact ⟨y, c, hcs, hk, hwf⟩
    obtain ⟨l, hll, hlp⟩ : ∃ l : List α, l.length = len ∧ ∀ i p, l[i]? = some p → ∃ c, W.cells? 0 (a.add (i * P.cellsOf e)) (P.cellsOf e) = some c ∧ d.K W p c ∧ wf p := by
      clear hel h hw hwe hsize hlen hl hsp hns hm hb ht hc
      induction len with
      | zero => exact ⟨[], rfl, by simp⟩
      | succ m ih =>
        obtain ⟨l, hll, hlp⟩ := ih (fun i hi => each i (by omega))
        obtain ⟨y, c, hcs, hk, hwf⟩ := each m (by omega)
        refine ⟨l ++ [y], by simp [hll], fun i p hp => ?_⟩
        rcases Nat.lt_or_ge i l.length with hi | hi
        · rw [List.getElem?_append_left hi] at hp
          exact hlp i p hp
        · rw [List.getElem?_append_right hi] at hp
          obtain ⟨h0, rfl⟩ : i - l.length = 0 ∧ y = p := by
            rcases hq : i - l.length with _ | q
            · rw [hq] at hp; simpa using hp
            · rw [hq] at hp; simp at hp
          obtain rfl : i = m := by omega
          exact ⟨c, hcs, hk, hwf⟩
    subst hll
    refine ⟨l, ⟨some a, cap, rfl, hl, rfl, by unfold maxLen at hm; omega, fun _ => ⟨a, rfl, fun j p hp => ?_⟩⟩, by omega, ?_, ?_⟩
    · obtain ⟨c, hcs, hk, _⟩ := hlp j p hp
      have hclen := (World.cells?_some hcs).2.1
      refine ⟨c, by rw [hclen, he.cells], hk, fun i u hu => ?_⟩
      have hi : i < P.cellsOf e := by have := (List.getElem?_eq_some_iff.1 hu).1; omega
      have := (World.cells?_some hcs).2.2 i hi
      rw [hu, Addr.add_add] at this
      rw [← he.cells]
      exact this
    · rw [hB] at hsize
      have : l.length * B ≤ (elems.length + rest.length) * B := Nat.mul_le_mul_right _ (by omega)
      exact Nat.le_trans this hsize
    · intro x hx
      obtain ⟨i, hi⟩ := List.getElem?_of_mem hx
      obtain ⟨c, _, _, hwf⟩ := hlp i x hi
      exact hwf
structure OpensF {H : Type} (enc : TypeId × Value → H) (P : Program) (W : World) (fs : List Field) (off : Nat) {α : Type} (d : Kd α) (wf : α → Prop) : Prop where
  go : ∀ (n : Nat) (cs : List Value) (xs : List (DataW H × List MemPlace)), cs.length = off + d.sz →
    (∀ (i : Nat) (f : Field), fs[i]? = some f → DataW.trod enc P W 0 (fun _ => true) true n f.type ((cs.drop f.offset).take (P.cellsOf f.type)) = xs[i]?) → xs.length = fs.length →
    (∀ n ∈ DataW.weightsEach P (fs.map (·.type)) (xs.map (·.1)), n ≤ reachBytes) → ∃ a, d.K W a (cs.drop off) ∧ wf a
theorem OpensF.one {H : Type} {enc : TypeId × Value → H} {P : Program} {W : World} {f : Field} {off : Nat} {α : Type} {d : Kd α} {wf : α → Prop} (ho : f.offset = off) (h : Opens enc P W f.type d wf) :
    OpensF enc P W [f] off d wf := by
  refine ⟨fun n cs xs hl hx hxl hw => ?_⟩
  obtain ⟨x, rfl⟩ : ∃ x, xs = [x] := by
    match xs, hxl with
    | [x], _ => exact ⟨x, rfl⟩
  have h1 := hx 0 f rfl
  rw [ho, List.take_of_length_le (by rw [List.length_drop, h.cells]; omega)] at h1
  exact h.go n _ x h1 (fun m hm => hw m (by simp [DataW.weightsEach, hm]))
theorem OpensF.more {H : Type} {enc : TypeId × Value → H} {P : Program} {W : World} {f : Field} {fs : List Field} {off : Nat} {α β : Type} {d : Kd α} {e : Kd β} {wf : α → Prop} {wg : β → Prop} (ho : f.offset = off) (h : Opens enc P W f.type d wf)
    (hs : OpensF enc P W fs (off + d.sz) e wg) : OpensF enc P W (f :: fs) off (Kd.pair d e) (fun a => wf a.1 ∧ wg a.2) := by
  refine ⟨fun n cs xs hl hx hxl hw => ?_⟩
  obtain ⟨x, xs, rfl⟩ : ∃ x ys, xs = x :: ys := by
    match xs, hxl with
    | x :: ys, _ => exact ⟨x, ys, rfl⟩
  have hsz : (Kd.pair d e).sz = d.sz + e.sz := rfl
  have h1 := hx 0 f rfl
  rw [ho, h.cells] at h1
  obtain ⟨a, hk, hwf⟩ := h.go n _ x h1 (fun m hm => hw m (by simp [DataW.weightsEach, hm]))
  obtain ⟨b, hk2, hwg⟩ := hs.go n cs xs (by omega) (fun i g hg => hx (i + 1) g (by simpa using hg)) (by simpa using hxl) (fun m hm => hw m (by simp [DataW.weightsEach, hm]))
  refine ⟨(a, b), ⟨_, _, ?_, hk, hk2⟩, hwf, hwg⟩
  rw [← List.drop_drop, List.take_append_drop]
theorem Opens.struct {H : Type} {enc : TypeId × Value → H} {P : Program} {W : World} {t : TypeId} {fs : Array Field} {α β : Type} {d : Kd α} {wf : α → Prop} {f : β → α} (mk : α → β) (hmk : ∀ a, f (mk a) = a) (ht : P.underlying t = some (.struct fs))
    (hc : P.cellsOf t = d.sz) (h : OpensF enc P W fs.toList 0 d wf) : Opens enc P W t (Kd.iso d f) (fun b => wf (f b)) := by
  refine ⟨hc, fun fuel cs x hx hw => ?_⟩
  obtain ⟨xs, n, _, rfl, hl, hxl, hf⟩ := DataW.trod_struct ht hx
  obtain ⟨a, hk, hwf⟩ := h.go n cs xs (by rw [hl, hc]; omega) (fun i g hg => hf i g (by simpa using hg)) (by simpa using hxl) (fun m hm => hw m (by simpa [DataW.weights, ht] using hm))
  refine ⟨mk a, ?_, by rw [hmk]; exact hwf⟩
  show d.K W (f (mk a)) cs
  rw [hmk]
  simpa using hk
end Go.Proofs.Ytdemgfbolcmcdaa.X
namespace Go.Proofs.Ytdemgfbolcmcdaa.X
open Go.RowKit Go.Proofs.YtdemgfbolcmcdaaW.PrintWords Go.Proofs.YtdemgfbolcmcdaaW.PrintLast Go.Proofs.YtdemgfbolcmcdaaW.PrintMore
attribute [local go_sem] max2_int min2_int max_two min_two max_three min_three max_four min_four
set_option linter.unusedVariables false
set_option linter.unusedSimpArgs false
def wf79 (b : S79) : Prop := (fun p : (ByteArray) × (Int) × (List Int) => (fun a => a.size ≤ 140737488351232) p.1 ∧ ((fun a => (Lit.int .i64 a).wf = true) p.2.1 ∧ ((fun l => l.length ≤ maxLen ∧ l.length * 8 ≤ 140737488351232 ∧ ∀ x ∈ l, (fun a => (Lit.int .i64 a).wf = true) x) p.2.2))) (b.f0, b.f1, b.f2)
theorem op79 {H : Type} (enc : TypeId × Value → H) (W : World) : Opens enc Try.prog W 79 k79 wf79 :=
  Opens.struct (fun p => ⟨p.1, p.2.1, p.2.2⟩) (fun _ => rfl) Try.underlying79 (by kernel_rfl) (OpensF.more rfl (Opens.string Try.underlying9 (by kernel_rfl)) (OpensF.more rfl (Opens.int Try.underlying49 (by kernel_rfl)) (OpensF.one rfl (Opens.slice Try.underlying27 (by kernel_rfl) (by kernel_rfl) (Opens.int Try.underlying2 (by kernel_rfl))))))
def wf51 (b : S51) : Prop := (fun p : (ByteArray) × (Int) × (List Int) × (ByteArray) => (fun a => a.size ≤ 140737488351232) p.1 ∧ ((fun a => (Lit.int .i64 a).wf = true) p.2.1 ∧ ((fun l => l.length ≤ maxLen ∧ l.length * 8 ≤ 140737488351232 ∧ ∀ x ∈ l, (fun a => (Lit.int .i64 a).wf = true) x) p.2.2.1 ∧ ((fun a => a.size ≤ 140737488351232) p.2.2.2)))) (b.f0, b.f1, b.f2, b.f3)
theorem op51 {H : Type} (enc : TypeId × Value → H) (W : World) : Opens enc Try.prog W 51 k51 wf51 :=
  Opens.struct (fun p => ⟨p.1, p.2.1, p.2.2.1, p.2.2.2⟩) (fun _ => rfl) Try.underlying51 (by kernel_rfl) (OpensF.more rfl (Opens.string Try.underlying9 (by kernel_rfl)) (OpensF.more rfl (Opens.int Try.underlying49 (by kernel_rfl)) (OpensF.more rfl (Opens.slice Try.underlying27 (by kernel_rfl) (by kernel_rfl) (Opens.int Try.underlying2 (by kernel_rfl))) (OpensF.one rfl (Opens.string Try.underlying9 (by kernel_rfl))))))
def wf35 (b : S35) : Prop := (fun p : (ByteArray) × (Bool) × (Int) × (List Int) => (fun a => a.size ≤ 140737488351232) p.1 ∧ ((fun _ => True) p.2.1 ∧ ((fun a => (Lit.int .i64 a).wf = true) p.2.2.1 ∧ ((fun l => l.length ≤ maxLen ∧ l.length * 8 ≤ 140737488351232 ∧ ∀ x ∈ l, (fun a => (Lit.int .i64 a).wf = true) x) p.2.2.2)))) (b.f0, b.f1, b.f2, b.f3)
theorem op35 {H : Type} (enc : TypeId × Value → H) (W : World) : Opens enc Try.prog W 35 k35 wf35 :=
  Opens.struct (fun p => ⟨p.1, p.2.1, p.2.2.1, p.2.2.2⟩) (fun _ => rfl) Try.underlying35 (by kernel_rfl) (OpensF.more rfl (Opens.string Try.underlying9 (by kernel_rfl)) (OpensF.more rfl (Opens.bool Try.underlying4 (by kernel_rfl)) (OpensF.more rfl (Opens.int Try.underlying2 (by kernel_rfl)) (OpensF.one rfl (Opens.slice Try.underlying27 (by kernel_rfl) (by kernel_rfl) (Opens.int Try.underlying2 (by kernel_rfl)))))))
def wf33 (b : S33) : Prop := (fun p : (ByteArray) × (List ByteArray) × (ByteArray) × (List (S35)) => (fun a => a.size ≤ 140737488351232) p.1 ∧ ((fun l => l.length ≤ maxLen ∧ l.length * 16 ≤ 140737488351232 ∧ ∀ x ∈ l, (fun a => a.size ≤ 140737488351232) x) p.2.1 ∧ ((fun a => a.size ≤ 140737488351232) p.2.2.1 ∧ ((fun l => l.length ≤ maxLen ∧ l.length * 56 ≤ 140737488351232 ∧ ∀ x ∈ l, wf35 x) p.2.2.2)))) (b.f0, b.f1, b.f2, b.f3)
theorem op33 {H : Type} (enc : TypeId × Value → H) (W : World) : Opens enc Try.prog W 33 k33 wf33 :=
  Opens.struct (fun p => ⟨p.1, p.2.1, p.2.2.1, p.2.2.2⟩) (fun _ => rfl) Try.underlying33 (by kernel_rfl) (OpensF.more rfl (Opens.string Try.underlying9 (by kernel_rfl)) (OpensF.more rfl (Opens.slice Try.underlying30 (by kernel_rfl) (by kernel_rfl) (Opens.string Try.underlying9 (by kernel_rfl))) (OpensF.more rfl (Opens.string Try.underlying9 (by kernel_rfl)) (OpensF.one rfl (Opens.slice Try.underlying31 (by kernel_rfl) (by kernel_rfl) (op35 enc W))))))
def wf26 (b : S26) : Prop := (fun p : (Int) × (List (S79)) × (List (S79)) × (List (S51)) × (List (S33)) => (fun a => (Lit.int .i64 a).wf = true) p.1 ∧ ((fun l => l.length ≤ maxLen ∧ l.length * 48 ≤ 140737488351232 ∧ ∀ x ∈ l, wf79 x) p.2.1 ∧ ((fun l => l.length ≤ maxLen ∧ l.length * 48 ≤ 140737488351232 ∧ ∀ x ∈ l, wf79 x) p.2.2.1 ∧ ((fun l => l.length ≤ maxLen ∧ l.length * 64 ≤ 140737488351232 ∧ ∀ x ∈ l, wf51 x) p.2.2.2.1 ∧ ((fun l => l.length ≤ maxLen ∧ l.length * 80 ≤ 140737488351232 ∧ ∀ x ∈ l, wf33 x) p.2.2.2.2))))) (b.f0, b.f1, b.f2, b.f3, b.f4)
theorem op26 {H : Type} (enc : TypeId × Value → H) (W : World) : Opens enc Try.prog W 26 k26 wf26 :=
  Opens.struct (fun p => ⟨p.1, p.2.1, p.2.2.1, p.2.2.2.1, p.2.2.2.2⟩) (fun _ => rfl) Try.underlying26 (by kernel_rfl) (OpensF.more rfl (Opens.int Try.underlying2 (by kernel_rfl)) (OpensF.more rfl (Opens.slice Try.underlying22 (by kernel_rfl) (by kernel_rfl) (op79 enc W)) (OpensF.more rfl (Opens.slice Try.underlying22 (by kernel_rfl) (by kernel_rfl) (op79 enc W)) (OpensF.more rfl (Opens.slice Try.underlying23 (by kernel_rfl) (by kernel_rfl) (op51 enc W)) (OpensF.one rfl (Opens.slice Try.underlying24 (by kernel_rfl) (by kernel_rfl) (op33 enc W)))))))
end Go.Proofs.Ytdemgfbolcmcdaa.X
namespace Go.Proofs.Ytdemgfbolcmcdaa.X
open Go.RowKit Go.Proofs.YtdemgfbolcmcdaaW.PrintWords Go.Proofs.YtdemgfbolcmcdaaW.PrintLast Go.Proofs.YtdemgfbolcmcdaaW.PrintMore
attribute [local go_sem] max2_int min2_int max_two min_two max_three min_three max_four min_four
set_option linter.unusedVariables false
set_option linter.unusedSimpArgs false
mutual
def agatelaw10_ModelFinds.j0 : Nat → ByteArray → Int → List Int → Bool → Int → List (S79) → List (S79) → List (S51) → List (S33) → Option (Bool)
 | 0, _, _, _, _, _, _, _, _, _ => none
 | k + 1, x1, x2, x3, x36, x102000, x102001, x102002, x102003, x102004 => if x36 = true then ((agatelaw10_Awake.f).bind fun t106 => (some t106)) else (agatelaw10_ModelFinds.l0 k x1 x2 x3 x102004 (x102004.length : Int) 0 x102000 x102001 x102002 x102003 x102004)
def agatelaw10_ModelFinds.l0 : Nat → ByteArray → Int → List Int → List (S33) → Int → Int → Int → List (S79) → List (S79) → List (S51) → List (S33) → Option (Bool)
 | 0, _, _, _, _, _, _, _, _, _, _, _ => none
 | k + 1, x1, x2, x3, x39, x40, x41, x102000, x102001, x102002, x102003, x102004 => if x41 < x40 then (if 0 ≤ x41 then (if x41 < (x39.length : Int) then ((model_Node_Attr.f ((rd_T33 x39 x41).f0) ((rd_T33 x39 x41).f1) ((rd_T33 x39 x41).f2) ((rd_T33 x39 x41).f3) x1).bind fun bt132 => ((agatelaw10_Node.f k ((rd_T33 x39 x41).f0) ((rd_T33 x39 x41).f1) ((rd_T33 x39 x41).f2) ((rd_T33 x39 x41).f3)).bind fun bt140 => ((agateref10_Find.f k bt140.2.2.2 x1).bind fun t148 => ((model_Node_Row.f ((rd_T33 x39 x41).f0) ((rd_T33 x39 x41).f1) ((rd_T33 x39 x41).f2) ((rd_T33 x39 x41).f3) x1).bind fun bt149 => ((model_Node_One.f ((rd_T33 x39 x41).f0) ((rd_T33 x39 x41).f1) ((rd_T33 x39 x41).f2) ((rd_T33 x39 x41).f3) x1 x2).bind fun t153 => (if (bt132.2.2.2.2 != (decide (t148 ≥ 0))) = true then (none) else (if t148 < 0 then (if (bt149.1.length : Int) = 0 then (if bt149.2 = true then (none) else (if t153 = x2 then (if bt132.1.toList = ([] : List UInt8) then (agatelaw10_ModelFinds.l0 k x1 x2 x3 x39 x40 (wrap64 (x41 + 1)) x102000 x102001 x102002 x102003 x102004) else (none)) else (none))) else (none)) else (if 0 ≤ t148 then (if t148 < (((rd_T33 x39 x41).f3).length : Int) then ((agateref10_Attrs.f k bt132.1 bt132.2.1 bt132.2.2.1 bt132.2.2.2.1 ((rd_T35 ((rd_T33 x39 x41).f3) t148).f0) ((rd_T35 ((rd_T33 x39 x41).f3) t148).f1) ((rd_T35 ((rd_T33 x39 x41).f3) t148).f2) ((rd_T35 ((rd_T33 x39 x41).f3) t148).f3)).bind fun t160 => (if t160 = true then (if (bt149.2 != (!((rd_T35 ((rd_T33 x39 x41).f3) t148).f1))) = true then (none) else (if bt149.2 = true then ((agatelaw03_Ints_s.f bt149.1 ((rd_T35 ((rd_T33 x39 x41).f3) t148).f3)).bind fun t161 => (if t161 = true then (if (rd_T35 ((rd_T33 x39 x41).f3) t148).f1 = true then (if t153 = ((rd_T35 ((rd_T33 x39 x41).f3) t148).f2) then (if ((rd_T35 ((rd_T33 x39 x41).f3) t148).f1 = true) then (agatelaw10_ModelFinds.j2 k x1 x2 x3 x39 x40 x41 false x102000 x102001 x102002 x102003 x102004) else (agatelaw10_ModelFinds.j2 k x1 x2 x3 x39 x40 x41 (t153 != x2) x102000 x102001 x102002 x102003 x102004)) else (none)) else (if ((rd_T35 ((rd_T33 x39 x41).f3) t148).f1 = true) then (agatelaw10_ModelFinds.j2 k x1 x2 x3 x39 x40 x41 false x102000 x102001 x102002 x102003 x102004) else (agatelaw10_ModelFinds.j2 k x1 x2 x3 x39 x40 x41 (t153 != x2) x102000 x102001 x102002 x102003 x102004))) else (none))) else (if (rd_T35 ((rd_T33 x39 x41).f3) t148).f1 = true then (if t153 = ((rd_T35 ((rd_T33 x39 x41).f3) t148).f2) then (if ((rd_T35 ((rd_T33 x39 x41).f3) t148).f1 = true) then (agatelaw10_ModelFinds.j2 k x1 x2 x3 x39 x40 x41 false x102000 x102001 x102002 x102003 x102004) else (agatelaw10_ModelFinds.j2 k x1 x2 x3 x39 x40 x41 (t153 != x2) x102000 x102001 x102002 x102003 x102004)) else (none)) else (if ((rd_T35 ((rd_T33 x39 x41).f3) t148).f1 = true) then (agatelaw10_ModelFinds.j2 k x1 x2 x3 x39 x40 x41 false x102000 x102001 x102002 x102003 x102004) else (agatelaw10_ModelFinds.j2 k x1 x2 x3 x39 x40 x41 (t153 != x2) x102000 x102001 x102002 x102003 x102004))))) else (none))) else (none)) else (none))))))))) else (none)) else (none)) else ((model_Model_Init.f x102000 x102001 x102002 x102003 x102004 x1).bind fun bt193 => ((agatelaw10_Of.f k x102000 x102001 x102002 x102003 x102004).bind fun bt201 => ((agateref10_Init.f k bt201.2.2.2.1 x1).bind fun t215 => (if (bt193.2.2.2.2 != (decide (t215 ≥ 0))) = true then (none) else (if bt193.2.2.2.2 = true then ((agatelaw07_Of.f bt193.1 bt193.2.1 bt193.2.2.1 bt193.2.2.2.1).bind fun bt216 => (if 0 ≤ t215 then (if t215 < (bt201.2.2.2.1.length : Int) then ((agateref07_Same_s.f bt216.1 bt216.2.1 bt216.2.2.1 bt216.2.2.2 ((rd_T63 bt201.2.2.2.1 t215).f0) ((rd_T63 bt201.2.2.2.1 t215).f1) ((rd_T63 bt201.2.2.2.1 t215).f2) ((rd_T63 bt201.2.2.2.1 t215).f3)).bind fun t223 => (if t223 = true then (agatelaw10_ModelFinds.j3 k x1 x2 x3 false) else (none))) else (none)) else (none))) else (agatelaw10_ModelFinds.j3 k x1 x2 x3 (bt193.1.toList != ([] : List UInt8))))))))
def agatelaw10_ModelFinds.j2 : Nat → ByteArray → Int → List Int → List (S33) → Int → Int → Bool → Int → List (S79) → List (S79) → List (S51) → List (S33) → Option (Bool)
 | 0, _, _, _, _, _, _, _, _, _, _, _, _ => none
 | k + 1, x1, x2, x3, x39, x40, x41, x133, x102000, x102001, x102002, x102003, x102004 => if x133 = true then (none) else (agatelaw10_ModelFinds.l0 k x1 x2 x3 x39 x40 (wrap64 (x41 + 1)) x102000 x102001 x102002 x102003 x102004)
def agatelaw10_ModelFinds.j3 : Nat → ByteArray → Int → List Int → Bool → Option (Bool)
 | 0, _, _, _, _ => none
 | k + 1, x1, x2, x3, x173 => if x173 = true then (none) else ((model_Number.f x1 x2).bind fun bt281 => ((model_Row.f x1 x3).bind fun bt287 => ((agatelaw10_Awake.f).bind fun t295 => (if t295 = true then (if bt281.1.toList = x1.toList then (if bt281.2.1 = true then (if bt281.2.2.1 = x2 then (if bt287.1.toList = x1.toList then (if bt287.2.1 = true then (none) else ((agatelaw03_Ints_s.f bt287.2.2.2 x3).bind fun t296 => (if t296 = true then ((model_Attr_Same.f k bt281.1 bt281.2.1 bt281.2.2.1 bt281.2.2.2 bt287.1 bt287.2.1 bt287.2.2.1 bt287.2.2.2).bind fun t297 => (if t297 = true then (none) else ((model_Attr_Same.f k bt281.1 bt281.2.1 bt281.2.2.1 bt281.2.2.2 bt281.1 bt281.2.1 bt281.2.2.1 bt281.2.2.2).bind fun t298 => (if t298 = true then ((model_Attr_Same.f k bt287.1 bt287.2.1 bt287.2.2.1 bt287.2.2.2 bt287.1 bt287.2.1 bt287.2.2.1 bt287.2.2.2).bind fun t299 => (some t299)) else (none))))) else (none)))) else (none)) else (none)) else (none)) else (none)) else (none)))))
end
def agatelaw10_ModelFinds.f (k : Nat) (a0_0 : Int) (l0_1 : List (S79)) (l0_2 : List (S79)) (l0_3 : List (S51)) (l0_4 : List (S33)) (a1 : ByteArray) (a2 : Int) (l3 : List Int) : Option (Bool) := (agatelaw10_Small.f a0_0 l0_1 l0_2 l0_3 l0_4).bind fun t102 => (if t102 = true then (if (a1.size : Int) > 200 then (agatelaw10_ModelFinds.j0 k a1 a2 l3 true a0_0 l0_1 l0_2 l0_3 l0_4) else (agatelaw10_ModelFinds.j0 k a1 a2 l3 (decide ((l3.length : Int) > 100)) a0_0 l0_1 l0_2 l0_3 l0_4)) else (agatelaw10_ModelFinds.j0 k a1 a2 l3 true a0_0 l0_1 l0_2 l0_3 l0_4))
def agatelaw10_ModelFinds.T22 : Bool × List (List Nat × List Nat) := (true, [([], []), ([], []), ([1], [1]), ([0, 2], [0, 2]), ([3], [3]), ([4], [4]), ([5, 4, 4], [4, 5]), ([6], [6]), ([7, 6, 6], [6, 7]), ([6], [6]), ([9, 6], [6, 9]), ([6], [6]), ([10, 11, 6], [6, 10, 11]), ([12, 6], [6, 12]), ([8, 13, 8, 6], [6, 8, 13]), ([14, 6], [6, 14]), ([6, 15, 4], [4, 6, 15]), ([4, 16], [4, 16]), ([17, 14], [17]), ([18], [18]), ([19, 18], [18, 19]), ([20, 18, 18], [18, 20]), ([21], [21]), ([22, 21], [21, 22]), ([23, 21], [21, 23]), ([21, 24, 18], [18, 21, 24]), ([18, 25], [18, 25])])
def agatelaw10_ModelFinds.B22 : List Nat := [0, 0, 2, 7, 15, 31, 63, 127, 255, 127, 639, 127, 3711, 7807, 16383, 32767, 65535, 131071, 262143, 524287, 1048575, 2097151, 4194303, 8388607, 16777215, 33554431, 67108863]
theorem agatelaw10_ModelFinds.tab22 : rtab .any (opsOf Try.f3 22) = agatelaw10_ModelFinds.T22 := by kernel_rfl
theorem agatelaw10_ModelFinds.bits22 : waitsOk agatelaw10_ModelFinds.T22.2 agatelaw10_ModelFinds.B22 = true := by kernel_rfl
def agatelaw10_ModelFinds.Pure : Prop := ∀ (x0 : S26) (x1 : ByteArray) (x2 : Int) (x3 : List Int), wf26 x0 → (fun a => a.size ≤ 140737488351232) x1 → (fun a => (Lit.int .i64 a).wf = true) x2 → (fun l => l.length ≤ maxLen ∧ l.length * 8 ≤ 140737488351232 ∧ ∀ x ∈ l, (fun a => (Lit.int .i64 a).wf = true) x) x3 → ∃ k, agatelaw10_ModelFinds.f k (x0.f0) (x0.f1) (x0.f2) (x0.f3) (x0.f4) x1 x2 x3 = some true
end Go.Proofs.Ytdemgfbolcmcdaa.X
namespace Go.Proofs.Ytdemgfbolcmcdaa.X
open Go.RowKit Go.Proofs.YtdemgfbolcmcdaaW.PrintWords Go.Proofs.YtdemgfbolcmcdaaW.PrintLast Go.Proofs.YtdemgfbolcmcdaaW.PrintMore
attribute [local go_sem] max2_int min2_int max_two min_two max_three min_three max_four min_four
set_option linter.unusedVariables false
set_option linter.unusedSimpArgs false
theorem bne_f {a b : Bool} (h : (a != b) = false) : (a == b) = true := by cases a <;> cases b <;> first | rfl | cases h
theorem bne_t {a b : Bool} (h : (a != b) = true) : (a == b) = false := by cases a <;> cases b <;> first | rfl | cases h
end Go.Proofs.Ytdemgfbolcmcdaa.X
namespace Go.Proofs.Ytdemgfbolcmcdaa.X
open Go.RowKit Go.Proofs.YtdemgfbolcmcdaaW.PrintWords Go.Proofs.YtdemgfbolcmcdaaW.PrintLast Go.Proofs.YtdemgfbolcmcdaaW.PrintMore
attribute [local go_sem] max2_int min2_int max_two min_two max_three min_three max_four min_four
set_option linter.unusedVariables false
set_option linter.unusedSimpArgs false
theorem isE_ne (l : List UInt8) : l.isEmpty = !(l != []) := by cases l <;> rfl
end Go.Proofs.Ytdemgfbolcmcdaa.X
