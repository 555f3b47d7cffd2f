/- The least writing of any tensor is the document's, and it is read as it was, whatever the store is: for every input. -/
import Derived.Test.YtgmggompdidcoaaGreatDoorMPbtensorWrites2
import Derived.ChangeSlices
import Derived.SizedLaws
import Derived.ProofKit
import Derived.OpenShut
import Derived.ShutString
import Derived.ChangeOld
import Derived.Test.YtgmggompdidcoaaGreatDoorRows
import Derived.Test.YtgmggompdidcoaaGreatDoorCards
import Derived.Test.YtgmggompdidcoaaGreatDoorTie
import Derived.Test.YtgmggompdidcoaaGreatDoorMPbtensorWrites22
import Derived.Test.YtgmggompdidcoaaGreatDoorMPbtensorWrites3
import Derived.WalkKit
import Derived.Below
import Derived.Carry
import Derived.Lay
import Derived.LaidOnce
import Derived.LaidMore
import Derived.SevenTiedAt
import Derived.Deep.DeepHandedRow
import Derived.Deep.CondSized
namespace Go.Proofs.YtgmggompdidcoaaGreatDoor.X
open Go.RowKit Go.Proofs.YtgmggompdidcoaaGreatDoorW.PrintWords Go.Proofs.YtgmggompdidcoaaGreatDoorW.PrintLast Go.Proofs.YtgmggompdidcoaaGreatDoorW.PrintMore
attribute [local go_sem] max2_int min2_int max_two min_two max_three min_three max_four min_four
set_option linter.unusedVariables false
set_option linter.unusedSimpArgs false
open Go.ChangeShapes Go.WideShapes
structure Opens {H : Type} (enc : TypeId × Value → H) (P : Program) (W : World) (t : TypeId) {α : Type} (d : Kd α) (wf : α → Prop) : Prop where
  cells : P.cellsOf t = d.sz
  go : ∀ (fuel : Nat) (cs : List Value) (x : DataW H × List MemPlace), DataW.trod enc P W 0 (fun _ => true) true fuel t cs = some x →
    (∀ n ∈ DataW.weights P t x.1, n ≤ reachBytes) → ∃ a, d.K W a cs ∧ wf a
theorem Opens.int {H : Type} {enc : TypeId × Value → H} {P : Program} {W : World} {t : TypeId} {k : IntKind} (ht : P.underlying t = some (.int k)) (hc : P.cellsOf t = 1) :
    Opens enc P W t (Kd.int k) (fun a => (Lit.int k a).wf = true) := by
  refine ⟨hc, fun fuel cs x h _ => ?_⟩
  obtain ⟨n, rfl, _, hw⟩ := DataW.trod_int ht h
  exact ⟨n, rfl, hw⟩
theorem Opens.bool {H : Type} {enc : TypeId × Value → H} {P : Program} {W : World} {t : TypeId} (ht : P.underlying t = some .bool) (hc : P.cellsOf t = 1) :
    Opens enc P W t Kd.bool (fun _ => True) := by
  refine ⟨hc, fun fuel cs x h _ => ?_⟩
  obtain ⟨b, rfl, _⟩ := DataW.trod_bool ht h
  exact ⟨b, rfl, trivial⟩
theorem Opens.string {H : Type} {enc : TypeId × Value → H} {P : Program} {W : World} {t : TypeId} (ht : P.underlying t = some .string) (hc : P.cellsOf t = 1) :
    Opens enc P W t Kd.string (fun a => a.size ≤ 140737488351232) := by
  refine ⟨hc, fun fuel cs x h hw => ?_⟩
  obtain ⟨s, rfl, rfl, _⟩ := DataW.trod_string ht h
  refine ⟨s, rfl, ?_⟩
  have := hw s.data.toList.length (by simp [DataW.weights])
  rw [Array.length_toList] at this
  exact this
theorem weights_all_mem {H : Type} {P : Program} {e : TypeId} : ∀ {l : List (DataW H)} {y : DataW H}, y ∈ l → ∀ n ∈ DataW.weights P e y, n ∈ DataW.weightsAll P e l
  | d :: r, y, hy, n, hn => by
    simp only [DataW.weightsAll, List.mem_append]
    rcases List.mem_cons.1 hy with rfl | hy
    · exact .inl hn
    · exact .inr (weights_all_mem hy n hn)
theorem Opens.slice {H : Type} {enc : TypeId × Value → H} {P : Program} {W : World} {t e : TypeId} {α : Type} {d : Kd α} {wf : α → Prop} {B : Nat} (ht : P.underlying t = some (.slice e)) (hc : P.cellsOf t = 1) (hB : P.bytesOf e = B)
    (he : Opens enc P W e d wf) :
    Opens enc P W t (Kd.slice e d) (fun l => l.length ≤ maxLen ∧ l.length * B ≤ 140737488351232 ∧ ∀ x ∈ l, wf x) := by
  refine ⟨hc, fun fuel cs x h hw => ?_⟩
  rcases DataW.trod_slice ht h with ⟨rfl, rfl⟩ | ⟨a, len, cap, elems, rest, n, _, rfl, rfl, hb, hl, hm, hlen, hel, hsp, hns⟩
  · exact ⟨[], ⟨none, 0, rfl, Nat.le_refl _, rfl, Nat.zero_le _, fun h => absurd h (Nat.lt_irrefl 0)⟩, by simp, by simp, by simp⟩
  · have hwe : ∀ y ∈ elems, ∀ n ∈ DataW.weights P e y.1, n ≤ reachBytes := by
      intro y hy n hn
      refine hw n ?_
      simp only [DataW.weights, ht, List.mem_cons, List.mem_append]
      exact .inr (.inl (weights_all_mem (List.mem_map_of_mem hy) n hn))
    have hsize : (elems.length + rest.length) * P.bytesOf e ≤ reachBytes := by
      have := hw ((elems.length + rest.length) * P.bytesOf e) (by simp [DataW.weights, ht])
      exact this
    have each : ∀ i, i < len → ∃ y c, W.cells? 0 (a.add (i * P.cellsOf e)) (P.cellsOf e) = some c ∧ d.K W y c ∧ wf y := by
      intro i hi
      have h1 := hel i hi
      have h2 : elems[i]? = some elems[i] := List.getElem?_eq_getElem (by omega)
      rw [h2, Option.bind_eq_some_iff] at h1
      obtain ⟨c, hcs, hy⟩ := h1
      obtain ⟨y, hk, hwf⟩ := he.go n c _ hy (hwe _ (List.getElem_mem _))
      exact ⟨y, c, hcs, hk, hwf⟩
    obtain ⟨l, hll, hlp⟩ : ∃ l : List α, l.length = len ∧ ∀ i p, l[i]? = some p → ∃ c, W.cells? 0 (a.add (i * P.cellsOf e)) (P.cellsOf e) = some c ∧ d.K W p c ∧ wf p := by
      clear hel h hw hwe hsize hlen hl hsp hns hm hb ht hc
      induction len with
      | zero => exact ⟨[], rfl, by simp⟩
      | succ m ih =>
        obtain ⟨l, hll, hlp⟩ := ih (fun i hi => each i (by omega))
        obtain ⟨y, c, hcs, hk, hwf⟩ := each m (by omega)
        refine ⟨l ++ [y], by simp [hll], fun i p hp => ?_⟩
        rcases Nat.lt_or_ge i l.length with hi | hi
        · rw [List.getElem?_append_left hi] at hp
          exact hlp i p hp
        · rw [List.getElem?_append_right hi] at hp
          obtain ⟨h0, rfl⟩ : i - l.length = 0 ∧ y = p := by
            rcases hq : i - l.length with _ | q
            · rw [hq] at hp; simpa using hp
            · rw [hq] at hp; simp at hp
          obtain rfl : i = m := by omega
          exact ⟨c, hcs, hk, hwf⟩
    subst hll
    refine ⟨l, ⟨some a, cap, rfl, hl, rfl, by unfold maxLen at hm; omega, fun _ => ⟨a, rfl, fun j p hp => ?_⟩⟩, by omega, ?_, ?_⟩
    · obtain ⟨c, hcs, hk, _⟩ := hlp j p hp
      have hclen := (World.cells?_some hcs).2.1
      refine ⟨c, by rw [hclen, he.cells], hk, fun i u hu => ?_⟩
      have hi : i < P.cellsOf e := by have := (List.getElem?_eq_some_iff.1 hu).1; omega
      have := (World.cells?_some hcs).2.2 i hi
      rw [hu, Addr.add_add] at this
      rw [← he.cells]
      exact this
    · rw [hB] at hsize
      have : l.length * B ≤ (elems.length + rest.length) * B := Nat.mul_le_mul_right _ (by omega)
      exact Nat.le_trans this hsize
    · intro x hx
      obtain ⟨i, hi⟩ := List.getElem?_of_mem hx
      obtain ⟨c, _, _, hwf⟩ := hlp i x hi
      exact hwf
structure OpensF {H : Type} (enc : TypeId × Value → H) (P : Program) (W : World) (fs : List Field) (off : Nat) {α : Type} (d : Kd α) (wf : α → Prop) : Prop where
  go : ∀ (n : Nat) (cs : List Value) (xs : List (DataW H × List MemPlace)), cs.length = off + d.sz →
    (∀ (i : Nat) (f : Field), fs[i]? = some f → DataW.trod enc P W 0 (fun _ => true) true n f.type ((cs.drop f.offset).take (P.cellsOf f.type)) = xs[i]?) → xs.length = fs.length →
    (∀ n ∈ DataW.weightsEach P (fs.map (·.type)) (xs.map (·.1)), n ≤ reachBytes) → ∃ a, d.K W a (cs.drop off) ∧ wf a
theorem OpensF.one {H : Type} {enc : TypeId × Value → H} {P : Program} {W : World} {f : Field} {off : Nat} {α : Type} {d : Kd α} {wf : α → Prop} (ho : f.offset = off) (h : Opens enc P W f.type d wf) :
    OpensF enc P W [f] off d wf := by
  refine ⟨fun n cs xs hl hx hxl hw => ?_⟩
  obtain ⟨x, rfl⟩ : ∃ x, xs = [x] := by
    match xs, hxl with
    | [x], _ => exact ⟨x, rfl⟩
  have h1 := hx 0 f rfl
  rw [ho, List.take_of_length_le (by rw [List.length_drop, h.cells]; omega)] at h1
  exact h.go n _ x h1 (fun m hm => hw m (by simp [DataW.weightsEach, hm]))
theorem OpensF.more {H : Type} {enc : TypeId × Value → H} {P : Program} {W : World} {f : Field} {fs : List Field} {off : Nat} {α β : Type} {d : Kd α} {e : Kd β} {wf : α → Prop} {wg : β → Prop} (ho : f.offset = off) (h : Opens enc P W f.type d wf)
    (hs : OpensF enc P W fs (off + d.sz) e wg) : OpensF enc P W (f :: fs) off (Kd.pair d e) (fun a => wf a.1 ∧ wg a.2) := by
  refine ⟨fun n cs xs hl hx hxl hw => ?_⟩
  obtain ⟨x, xs, rfl⟩ : ∃ x ys, xs = x :: ys := by
    match xs, hxl with
    | x :: ys, _ => exact ⟨x, ys, rfl⟩
  have hsz : (Kd.pair d e).sz = d.sz + e.sz := rfl
  have h1 := hx 0 f rfl
  rw [ho, h.cells] at h1
  obtain ⟨a, hk, hwf⟩ := h.go n _ x h1 (fun m hm => hw m (by simp [DataW.weightsEach, hm]))
  obtain ⟨b, hk2, hwg⟩ := hs.go n cs xs (by omega) (fun i g hg => hx (i + 1) g (by simpa using hg)) (by simpa using hxl) (fun m hm => hw m (by simp [DataW.weightsEach, hm]))
  refine ⟨(a, b), ⟨_, _, ?_, hk, hk2⟩, hwf, hwg⟩
  rw [← List.drop_drop, List.take_append_drop]
theorem Opens.struct {H : Type} {enc : TypeId × Value → H} {P : Program} {W : World} {t : TypeId} {fs : Array Field} {α β : Type} {d : Kd α} {wf : α → Prop} {f : β → α} (mk : α → β) (hmk : ∀ a, f (mk a) = a) (ht : P.underlying t = some (.struct fs))
    (hc : P.cellsOf t = d.sz) (h : OpensF enc P W fs.toList 0 d wf) : Opens enc P W t (Kd.iso d f) (fun b => wf (f b)) := by
  refine ⟨hc, fun fuel cs x hx hw => ?_⟩
  obtain ⟨xs, n, _, rfl, hl, hxl, hf⟩ := DataW.trod_struct ht hx
  obtain ⟨a, hk, hwf⟩ := h.go n cs xs (by rw [hl, hc]; omega) (fun i g hg => hf i g (by simpa using hg)) (by simpa using hxl) (fun m hm => hw m (by simpa [DataW.weights, ht] using hm))
  refine ⟨mk a, ?_, by rw [hmk]; exact hwf⟩
  show d.K W (f (mk a)) cs
  rw [hmk]
  simpa using hk
end Go.Proofs.YtgmggompdidcoaaGreatDoor.X
namespace Go.Proofs.YtgmggompdidcoaaGreatDoor.X
open Go.RowKit Go.Proofs.YtgmggompdidcoaaGreatDoorW.PrintWords Go.Proofs.YtgmggompdidcoaaGreatDoorW.PrintLast Go.Proofs.YtgmggompdidcoaaGreatDoorW.PrintMore
attribute [local go_sem] max2_int min2_int max_two min_two max_three min_three max_four min_four
set_option linter.unusedVariables false
set_option linter.unusedSimpArgs false
open Go.ChangeShapes Go.WideShapes
structure OpensB {H : Type} (enc : TypeId × Value → H) (P : Program) (W : World) (t : TypeId) {α : Type} (d : Kd α) (wf : α → Prop) (bk : α → Nat) : Prop where
  cells : P.cellsOf t = d.sz
  go : ∀ (fuel : Nat) (cs : List Value) (x : DataW H × List MemPlace), DataW.trod enc P W 0 (fun _ => true) true fuel t cs = some x →
    (∀ n ∈ DataW.weights P t x.1, n ≤ reachBytes) → ∃ a, d.K W a cs ∧ wf a ∧ bk a ≤ Go.Proofs.YtgmggompdidcoaaGreatDoor.Rows.uptoBulk x.1
theorem OpensB.int {H : Type} {enc : TypeId × Value → H} {P : Program} {W : World} {t : TypeId} {k : IntKind} (ht : P.underlying t = some (.int k)) (hc : P.cellsOf t = 1) :
    OpensB enc P W t (Kd.int k) (fun a => (Lit.int k a).wf = true) (fun _ => 1) := by
  refine ⟨hc, fun fuel cs x h _ => ?_⟩
  obtain ⟨n, rfl, hx, hw⟩ := DataW.trod_int ht h
  exact ⟨n, rfl, hw, by rw [hx]; exact Nat.le_refl _⟩
theorem OpensB.bool {H : Type} {enc : TypeId × Value → H} {P : Program} {W : World} {t : TypeId} (ht : P.underlying t = some .bool) (hc : P.cellsOf t = 1) :
    OpensB enc P W t Kd.bool (fun _ => True) (fun _ => 1) := by
  refine ⟨hc, fun fuel cs x h _ => ?_⟩
  obtain ⟨b, rfl, hx⟩ := DataW.trod_bool ht h
  exact ⟨b, rfl, trivial, by rw [hx]; exact Nat.le_refl _⟩
theorem OpensB.string {H : Type} {enc : TypeId × Value → H} {P : Program} {W : World} {t : TypeId} (ht : P.underlying t = some .string) (hc : P.cellsOf t = 1) :
    OpensB enc P W t Kd.string (fun a => a.size ≤ 140737488351232) (fun a => a.size + 1) := by
  refine ⟨hc, fun fuel cs x h hw => ?_⟩
  obtain ⟨s, rfl, rfl, _⟩ := DataW.trod_string ht h
  refine ⟨s, rfl, ?_, ?_⟩
  · have := hw s.data.toList.length (by simp [DataW.weights])
    rw [Array.length_toList] at this
    exact this
  · show s.size + 1 ≤ s.data.toList.length + 1
    rw [Array.length_toList]; exact Nat.le_refl _
theorem bulk_sum {H α : Type} (bk : α → Nat) : ∀ (l : List α) (E : List (DataW H)), (∀ (i : Nat) (p : α), l[i]? = some p → ∃ e, E[i]? = some e ∧ bk p ≤ Go.Proofs.YtgmggompdidcoaaGreatDoor.Rows.uptoBulk e) → (l.map bk).sum ≤ Go.Proofs.YtgmggompdidcoaaGreatDoor.Rows.uptoBulkAll E
  | [], E, _ => Nat.zero_le _
  | x :: l, [], h => by obtain ⟨e, he, _⟩ := h 0 x rfl; cases he
  | x :: l, e :: E, h => by
    obtain ⟨e', he, hx⟩ := h 0 x rfl
    obtain rfl : e = e' := by simpa using he
    have := bulk_sum bk l E (fun i p hp => h (i + 1) p (by simpa using hp))
    simp only [List.map_cons, List.sum_cons, Go.Proofs.YtgmggompdidcoaaGreatDoor.Rows.uptoBulkAll]
    omega
theorem OpensB.slice {H : Type} {enc : TypeId × Value → H} {P : Program} {W : World} {t e : TypeId} {α : Type} {d : Kd α} {wf : α → Prop} {bk : α → Nat} {B : Nat} (ht : P.underlying t = some (.slice e)) (hc : P.cellsOf t = 1) (hB : P.bytesOf e = B)
    (he : OpensB enc P W e d wf bk) :
    OpensB enc P W t (Kd.slice e d) (fun l => l.length ≤ maxLen ∧ l.length * B ≤ 140737488351232 ∧ ∀ x ∈ l, wf x) (fun l => (l.map bk).sum + 1) := by
  refine ⟨hc, fun fuel cs x h hw => ?_⟩
  rcases DataW.trod_slice ht h with ⟨rfl, rfl⟩ | ⟨a, len, cap, elems, rest, n, _, rfl, rfl, hb, hl, hm, hlen, hel, hsp, hns⟩
  · exact ⟨[], ⟨none, 0, rfl, Nat.le_refl _, rfl, Nat.zero_le _, fun h => absurd h (Nat.lt_irrefl 0)⟩, ⟨by simp, by simp, by simp⟩, by simp [Go.Proofs.YtgmggompdidcoaaGreatDoor.Rows.uptoBulk]⟩
  · have hwe : ∀ y ∈ elems, ∀ n ∈ DataW.weights P e y.1, n ≤ reachBytes := by
      intro y hy n hn
      refine hw n ?_
      simp only [DataW.weights, ht, List.mem_cons, List.mem_append]
      exact .inr (.inl (weights_all_mem (List.mem_map_of_mem hy) n hn))
    have hsize : (elems.length + rest.length) * P.bytesOf e ≤ reachBytes := by
      have := hw ((elems.length + rest.length) * P.bytesOf e) (by simp [DataW.weights, ht])
      exact this
    have each : ∀ i, i < len → ∃ y c, W.cells? 0 (a.add (i * P.cellsOf e)) (P.cellsOf e) = some c ∧ d.K W y c ∧ wf y ∧ ∃ g, elems[i]? = some g ∧ bk y ≤ Go.Proofs.YtgmggompdidcoaaGreatDoor.Rows.uptoBulk g.1 := by
      intro i hi
      have h1 := hel i hi
      have h2 : elems[i]? = some elems[i] := List.getElem?_eq_getElem (by omega)
      rw [h2, Option.bind_eq_some_iff] at h1
      obtain ⟨c, hcs, hy⟩ := h1
      obtain ⟨y, hk, hwf, hbk⟩ := he.go n c _ hy (hwe _ (List.getElem_mem _))
      exact ⟨y, c, hcs, hk, hwf, _, h2, hbk⟩
    obtain ⟨l, hll, hlp⟩ : ∃ l : List α, l.length = len ∧ ∀ i p, l[i]? = some p → ∃ c, W.cells? 0 (a.add (i * P.cellsOf e)) (P.cellsOf e) = some c ∧ d.K W p c ∧ wf p ∧ ∃ g, elems[i]? = some g ∧ bk p ≤ Go.Proofs.YtgmggompdidcoaaGreatDoor.Rows.uptoBulk g.1 := by
      clear hel h hw hwe hsize hlen hl hsp hns hm hb ht hc
      induction len with
      | zero => exact ⟨[], rfl, by simp⟩
      | succ m ih =>
        obtain ⟨l, hll, hlp⟩ := ih (fun i hi => each i (by omega))
        obtain ⟨y, c, hcs, hk, hwf, hg⟩ := each m (by omega)
        refine ⟨l ++ [y], by simp [hll], fun i p hp => ?_⟩
        rcases Nat.lt_or_ge i l.length with hi | hi
        · rw [List.getElem?_append_left hi] at hp
          exact hlp i p hp
        · rw [List.getElem?_append_right hi] at hp
          obtain ⟨h0, rfl⟩ : i - l.length = 0 ∧ y = p := by
            rcases hq : i - l.length with _ | q
            · rw [hq] at hp; simpa using hp
            · rw [hq] at hp; simp at hp
          obtain rfl : i = m := by omega
          exact ⟨c, hcs, hk, hwf, hg⟩
    subst hll
    refine ⟨l, ⟨some a, cap, rfl, hl, rfl, by unfold maxLen at hm; omega, fun _ => ⟨a, rfl, fun j p hp => ?_⟩⟩, ⟨by omega, ?_, ?_⟩, ?_⟩
    · obtain ⟨c, hcs, hk, _, _⟩ := hlp j p hp
      have hclen := (World.cells?_some hcs).2.1
      refine ⟨c, by rw [hclen, he.cells], hk, fun i u hu => ?_⟩
      have hi : i < P.cellsOf e := by have := (List.getElem?_eq_some_iff.1 hu).1; omega
      have := (World.cells?_some hcs).2.2 i hi
      rw [hu, Addr.add_add] at this
      rw [← he.cells]
      exact this
    · rw [hB] at hsize
      have : l.length * B ≤ (elems.length + rest.length) * B := Nat.mul_le_mul_right _ (by omega)
      exact Nat.le_trans this hsize
    · intro x hx
      obtain ⟨i, hi⟩ := List.getElem?_of_mem hx
      obtain ⟨c, _, _, hwf, _⟩ := hlp i x hi
      exact hwf
    · have hs := bulk_sum bk l (elems.map (·.1)) (fun i p hp => by
        obtain ⟨c, _, _, _, g, hg, hb⟩ := hlp i p hp
        exact ⟨g.1, by rw [List.getElem?_map, hg]; rfl, hb⟩)
      simp only [Go.Proofs.YtgmggompdidcoaaGreatDoor.Rows.uptoBulk]
      omega
structure OpensBF {H : Type} (enc : TypeId × Value → H) (P : Program) (W : World) (fs : List Field) (off : Nat) {α : Type} (d : Kd α) (wf : α → Prop) (bk : α → Nat) : Prop where
  go : ∀ (n : Nat) (cs : List Value) (xs : List (DataW H × List MemPlace)), cs.length = off + d.sz →
    (∀ (i : Nat) (f : Field), fs[i]? = some f → DataW.trod enc P W 0 (fun _ => true) true n f.type ((cs.drop f.offset).take (P.cellsOf f.type)) = xs[i]?) → xs.length = fs.length →
    (∀ n ∈ DataW.weightsEach P (fs.map (·.type)) (xs.map (·.1)), n ≤ reachBytes) → ∃ a, d.K W a (cs.drop off) ∧ wf a ∧ bk a ≤ Go.Proofs.YtgmggompdidcoaaGreatDoor.Rows.uptoBulkAll (xs.map (·.1))
theorem OpensBF.one {H : Type} {enc : TypeId × Value → H} {P : Program} {W : World} {f : Field} {off : Nat} {α : Type} {d : Kd α} {wf : α → Prop} (ho : f.offset = off) {bk : α → Nat} (h : OpensB enc P W f.type d wf bk) :
    OpensBF enc P W [f] off d wf bk := by
  refine ⟨fun n cs xs hl hx hxl hw => ?_⟩
  obtain ⟨x, rfl⟩ : ∃ x, xs = [x] := by
    match xs, hxl with
    | [x], _ => exact ⟨x, rfl⟩
  have h1 := hx 0 f rfl
  rw [ho, List.take_of_length_le (by rw [List.length_drop, h.cells]; omega)] at h1
  obtain ⟨a, hk, hwf, hb⟩ := h.go n _ x h1 (fun m hm => hw m (by simp [DataW.weightsEach, hm]))
  exact ⟨a, hk, hwf, by simp only [List.map_cons, List.map_nil, Go.Proofs.YtgmggompdidcoaaGreatDoor.Rows.uptoBulkAll]; omega⟩
theorem OpensBF.more {H : Type} {enc : TypeId × Value → H} {P : Program} {W : World} {f : Field} {fs : List Field} {off : Nat} {α β : Type} {d : Kd α} {e : Kd β} {wf : α → Prop} {wg : β → Prop} {bk : α → Nat} {bl : β → Nat} (ho : f.offset = off) (h : OpensB enc P W f.type d wf bk)
    (hs : OpensBF enc P W fs (off + d.sz) e wg bl) : OpensBF enc P W (f :: fs) off (Kd.pair d e) (fun a => wf a.1 ∧ wg a.2) (fun a => bk a.1 + bl a.2) := by
  refine ⟨fun n cs xs hl hx hxl hw => ?_⟩
  obtain ⟨x, xs, rfl⟩ : ∃ x ys, xs = x :: ys := by
    match xs, hxl with
    | x :: ys, _ => exact ⟨x, ys, rfl⟩
  have hsz : (Kd.pair d e).sz = d.sz + e.sz := rfl
  have h1 := hx 0 f rfl
  rw [ho, h.cells] at h1
  obtain ⟨a, hk, hwf, hb1⟩ := h.go n _ x h1 (fun m hm => hw m (by simp [DataW.weightsEach, hm]))
  obtain ⟨b, hk2, hwg, hb2⟩ := hs.go n cs xs (by omega) (fun i g hg => hx (i + 1) g (by simpa using hg)) (by simpa using hxl) (fun m hm => hw m (by simp [DataW.weightsEach, hm]))
  refine ⟨(a, b), ⟨_, _, ?_, hk, hk2⟩, ⟨hwf, hwg⟩, by simp only [List.map_cons, Go.Proofs.YtgmggompdidcoaaGreatDoor.Rows.uptoBulkAll]; omega⟩
  rw [← List.drop_drop, List.take_append_drop]
theorem OpensB.struct {H : Type} {enc : TypeId × Value → H} {P : Program} {W : World} {t : TypeId} {fs : Array Field} {α β : Type} {d : Kd α} {wf : α → Prop} {bk : α → Nat} {f : β → α} (mk : α → β) (hmk : ∀ a, f (mk a) = a) (ht : P.underlying t = some (.struct fs))
    (hc : P.cellsOf t = d.sz) (h : OpensBF enc P W fs.toList 0 d wf bk) : OpensB enc P W t (Kd.iso d f) (fun b => wf (f b)) (fun b => bk (f b) + 1) := by
  refine ⟨hc, fun fuel cs x hx hw => ?_⟩
  obtain ⟨xs, n, _, rfl, hl, hxl, hf⟩ := DataW.trod_struct ht hx
  obtain ⟨a, hk, hwf, hb⟩ := h.go n cs xs (by rw [hl, hc]; omega) (fun i g hg => hf i g (by simpa using hg)) (by simpa using hxl) (fun m hm => hw m (by simpa [DataW.weights, ht] using hm))
  refine ⟨mk a, ?_, by rw [hmk]; exact hwf, by rw [hmk]; simp only [Go.Proofs.YtgmggompdidcoaaGreatDoor.Rows.uptoBulk]; omega⟩
  show d.K W (f (mk a)) cs
  rw [hmk]
  simpa using hk
end Go.Proofs.YtgmggompdidcoaaGreatDoor.X
namespace Go.Proofs.YtgmggompdidcoaaGreatDoor.pbtensorWrites
open Go.ChangeShapes Go.WideShapes Go.ChangeAt Go.RowKit Go.Proofs.YtgmggompdidcoaaGreatDoor.X Go.Proofs.YtgmggompdidcoaaGreatDoorW.PrintWords
set_option linter.unusedVariables false
theorem own : ownKnob Tryz.prog.godebug = none := by kernel_rfl
theorem laidOut : laidOutB Tryz.prog = true := by kernel_rfl
def laidV : List (String × DataW Unit) := [("unicode/utf8.acceptRanges", Rows.laid_unicode_utf8_acceptRanges), ("unicode/utf8.first", Rows.laid_unicode_utf8_first)]
def wfF (b : S50) : Prop := (fun p : (ByteArray) × (ByteArray) => (fun a => a.size ≤ 140737488351232) p.1 ∧ (fun a => a.size ≤ 140737488351232) p.2) (b.f0, b.f1)
def bkF (b : S50) : Nat := (fun p : (ByteArray) × (ByteArray) => (fun a => a.size + 1) p.1 + (fun a => a.size + 1) p.2) (b.f0, b.f1) + 1
theorem opF {H : Type} (enc : TypeId × Value → H) (W : World) : OpensB enc Tryz.prog W 50 k50 wfF bkF :=
  OpensB.struct (fun p => ⟨p.1, p.2⟩) (fun _ => rfl) Tryz.underlying50 (by kernel_rfl) (OpensBF.more rfl (OpensB.string Tryz.underlying9 (by kernel_rfl)) (OpensBF.one rfl (OpensB.string Tryz.underlying9 (by kernel_rfl))))
def wfT (b : S33) : Prop := (fun p : (ByteArray) × (Int) × (List Int) × (ByteArray) => (fun a => a.size ≤ 140737488351232) p.1 ∧ ((fun a => (Lit.int .i64 a).wf = true) p.2.1 ∧ ((fun l => l.length ≤ maxLen ∧ l.length * 8 ≤ 140737488351232 ∧ ∀ x ∈ l, (fun a => (Lit.int .i64 a).wf = true) x) p.2.2.1 ∧ (fun a => a.size ≤ 140737488351232) p.2.2.2))) (b.f0, b.f1, b.f2, b.f3)
def bkT (b : S33) : Nat := (fun p : (ByteArray) × (Int) × (List Int) × (ByteArray) => (fun a => a.size + 1) p.1 + ((fun _ => 1) p.2.1 + ((fun l => (l.map (fun _ => 1)).sum + 1) p.2.2.1 + (fun a => a.size + 1) p.2.2.2))) (b.f0, b.f1, b.f2, b.f3) + 1
theorem opT {H : Type} (enc : TypeId × Value → H) (W : World) : OpensB enc Tryz.prog W 33 k33 wfT bkT :=
  OpensB.struct (fun p => ⟨p.1, p.2.1, p.2.2.1, p.2.2.2⟩) (fun _ => rfl) Tryz.underlying33 (by kernel_rfl) (OpensBF.more rfl (OpensB.string Tryz.underlying9 (by kernel_rfl)) (OpensBF.more rfl (OpensB.int Tryz.underlying30 (by kernel_rfl)) (OpensBF.more rfl (OpensB.slice Tryz.underlying31 (by kernel_rfl) (by kernel_rfl) (OpensB.int Tryz.underlying2 (by kernel_rfl))) (OpensBF.one rfl (OpensB.string Tryz.underlying9 (by kernel_rfl))))))
theorem laid_met (os : Os) (args : Array Value) : laidMet Tryz.prog Rows.pbtensorWritesRow.laid ((World.laidAll Tryz.prog os laidV).forCall (fun _ _ => 0) ⟨#[], args, []⟩).memory :=
  laidMet_laidAll (laid := laidV) _ (by kernel_rfl) (by kernel_rfl)
theorem reads (os : Os) {H : Type} (enc : TypeId × Value → H) : ∃ places, DataW.whole enc Tryz.prog ((World.laidAll Tryz.prog os laidV).forCall (fun _ _ => 0) ⟨#[], #[.agg #[.string ByteArray.empty, .int .i64 0, .slice none 0 0, .string ByteArray.empty], .slice none 0 0], []⟩).memory Tryz.f4.params.toList Rows.pbtensorWritesSpec.vars false (#[.agg #[.string ByteArray.empty, .int .i64 0, .slice none 0 0, .string ByteArray.empty], .slice none 0 0] : Array Value).toList 8 = some ([.agg [.lit (.string []), .lit (.int .i64 0), .nil, .lit (.string [])], .nil], [], places) :=
  ⟨[], by kernel_rfl⟩
set_option maxRecDepth 100000 in
theorem lifted (os : Os) (started : os.Started) (H : Type) (enc : TypeId × Value → H) (F : Stop.Interp) :
    ReturnsInHanded {} Tryz.checked os 4 .any ((OpenSpec.ofChange Rows.pbtensorWritesSpec).preRow enc Tryz.prog Tryz.f4 Rows.pbtensorWritesRow.domain false Rows.pbtensorWritesRow.laid) (((OpenSpec.ofChange Rows.pbtensorWritesSpec).at F).post enc Tryz.prog Tryz.f4 false true false false) := by
  obtain ⟨places, hx⟩ := reads os enc
  refine returnsInHanded_of_row (C := Tryz.checked) (s := OpenSpec.ofChange Rows.pbtensorWritesSpec) own started (by kernel_rfl) Tryz.func4
    (witness_row_at (enc := enc) (C := Tryz.checked) false (World.laidAll Tryz.prog os laidV) #[.agg #[.string ByteArray.empty, .int .i64 0, .slice none 0 0, .string ByteArray.empty], .slice none 0 0] (World.laidAll_os _ _ _) (by kernel_rfl) (by kernel_rfl) (by kernel_rfl)
      (OpenSpec.preRow_of_cond 8 hx (by kernel_rfl) (fun k hk => by cases hk) (by kernel_rfl) (laid_met os _))) ?_
  intro W base args ds gs before hval0 hW hcnd hk0 hsz0 hL _ _
  have hsz : (DataW.weightsEach Tryz.prog (Tryz.f4.params.toList ++ Rows.pbtensorWritesSpec.plain.varTypes Tryz.prog) (ds ++ gs)).all (· ≤ reachBytes) = true := hsz0
  have hval : ∀ (j : Nat) t v, Tryz.f4.params[j]? = some t → args[j]? = some v → Value.okWide Tryz.prog W .any base t v := hval0
  have hW' := hW
  obtain ⟨p, q, hA0, hV, rfl, hfz, hnd⟩ := hW
  have hA : DataW.TrodAll enc Tryz.prog W 0 (fun _ => true) true Tryz.f4.params.toList args.toList ds p := hA0
  rw [Tryz.params4] at hA hval hsz
  obtain ⟨v0, vs0, d0, ds0, p0, q0, hargs, rfl, rfl, h0, r0⟩ := trodAll_cons hA
  obtain ⟨v1, vs1, d1, ds1, p1, q1, rfl, rfl, rfl, h1, r1⟩ := trodAll_cons r0
  obtain ⟨rfl, rfl, rfl⟩ := trodAll_nil r1
  obtain rfl : args = #[v0, v1] := by cases args; simp_all
  obtain ⟨rfl, rfl⟩ := trodVars_none hV
  have k0 := h0
  have lt0 : ∀ x ∈ p0, x.block < W.heap.size := by obtain ⟨m, hm⟩ := k0; exact DataW.trod_lt m _ _ _ hm
  obtain ⟨fuel0, hf0⟩ := h0
  obtain ⟨x0, K0, wf0, bk0⟩ := (opT enc W).go fuel0 _ _ hf0 (fun m hm => by simpa using List.all_eq_true.1 hsz m (DataW.weights_mem_each (j := 0) (t := 33) rfl rfl m hm))
  obtain ⟨cs0, rfl, _⟩ := okWide_struct Tryz.underlying33 (hval 0 33 v0 rfl rfl)
  have K0' : k33.K W x0 cs0.toList := K0
  obtain ⟨A0_2, c0_2, e0, hc0_2, hr0_2⟩ := k33_open K0'
  obtain rfl : cs0 = #[.string x0.f0, .int .i64 x0.f1, .slice A0_2 x0.f2.length c0_2, .string x0.f3] := by cases cs0; simpa using e0
  have k1 := h1
  have lt1 : ∀ x ∈ p1, x.block < W.heap.size := by obtain ⟨m, hm⟩ := k1; exact DataW.trod_lt m _ _ _ hm
  obtain ⟨fuel1, hf1⟩ := h1
  obtain ⟨x1, K1, wf1, bk1⟩ := ((OpensB.slice Tryz.underlying22 (by kernel_rfl) (by kernel_rfl) (opF enc W)) : OpensB enc Tryz.prog W 22 (Kd.slice 50 k50) (fun l => l.length ≤ maxLen ∧ l.length * 32 ≤ 140737488351232 ∧ ∀ x ∈ l, wfF x) (fun l => (l.map bkF).sum + 1)).go fuel1 _ _ hf1 (fun m hm => by simpa using List.all_eq_true.1 hsz m (DataW.weights_mem_each (j := 1) (t := 22) rfl rfl m hm))
  obtain ⟨a1, len1, cap1, rfl⟩ := okWide_slice Tryz.underlying22 (hval 1 22 v1 rfl rfl)
  obtain ⟨A1, c1, e1, hc1, hC1⟩ := K1
  obtain ⟨rfl, rfl, rfl⟩ : a1 = A1 ∧ len1 = x1.length ∧ cap1 = c1 := by simpa [Value.cells] using e1
  clear hA0 hval0 hsz0 hsz hk0
  have hff : x1.length ≤ 4398046510976 ∧ ∀ f ∈ x1, f.f0.size ≤ 140737488351232 ∧ f.f1.size ≤ 140737488351232 := ⟨by have := wf1.2.1; omega, fun f hf => wf1.2.2 f hf⟩
  have hwI : ∀ x ∈ x0.f2, inRc x := fun x hx => wf_i64 (wf0.2.2.1.2.2 x hx)
  refine (tkLaw x0.f0 x0.f1 A0_2 c0_2 x0.f2 x0.f3 a1 cap1 x1 W (Kd.C_F (Kd.heap_int .i64) hr0_2) hc0_2 hC1 hc1 hff.1 hff.2 wf0.1 wf0.2.2.2 (by have := wf0.2.2.1.2.1; dsimp only at this; omega) hwI).mono fun e W' ⟨he, bel0⟩ => ?_
  have bel : Below W.heap.size W W' := bel0
  subst he
  exact ⟨_, rfl, _, _, _, [], _, [], hW', trodAll_mk1 (shut_bool Tryz.underlying4 _), (trodAll_cons_mk (Below.trod laidOut (by kernel_rfl) (of_decide_eq_true (by kernel_rfl)) k0 bel lt0) (trodAll_cons_mk (Below.trod laidOut (by kernel_rfl) (of_decide_eq_true (by kernel_rfl)) k1 bel lt1) trodAll_mk0)), rfl, bel.frame _, fun h => by cases h⟩
theorem said : Rows.PbtensorWritesSaid :=
  OpenClaim.holds_of_cond 4 Tryz.f4 rfl rfl rfl rfl rfl rfl rfl ⟨rfl, rfl, rfl, rfl, rfl⟩ rfl rfl rfl rfl rfl (by kernel_rfl) Tryz.func4 (by kernel_rfl)
    (of_decide_eq_true (by kernel_rfl)) (by unfold Func.isWrapper; first | (rw [if_pos (by decide +kernel)]; kernel_rfl) | (rw [if_neg (by decide +kernel)]; exact ⟨rfl, rfl⟩))
    (fun os started H enc _ F => by rw [OpenClaim.pre_eq_preRow]; exact lifted os started H enc F)
theorem card : Rows.PbtensorWritesCardSaid :=
  Claim7.holds_tied_plain_at .later [] _ _ _ _ said (fun _ h => by cases h) (by kernel_rfl) (fun _ h => by cases h) pbtensorWrites_row_tie rfl ⟨rfl, rfl⟩ (by kernel_rfl) rfl
    (fun f fn hf hfn => by
      obtain rfl : f = 4 := Option.some.inj ((show Tryz.prog.funcNamed "agate/agatelaw09.PbtensorWrites" = some 4 by kernel_rfl).symm.trans hf) |>.symm
      obtain rfl : fn = Tryz.f4 := (Option.some.inj (Tryz.func4.symm.trans hfn)).symm
      exact ⟨by kernel_rfl, fun j t ht => by
        rw [Tryz.params4] at ht
        have hm : t ∈ [33, 22] := by simpa using Array.mem_of_getElem? ht
        have hall : ([33, 22].all fun u => !Tryz.prog.wantsStandIn u) = true := by kernel_rfl
        exact (show Tryz.prog.wantsStandIn t = false by simpa using List.all_eq_true.1 hall t hm)⟩)
    (by kernel_rfl)
#print axioms card
end Go.Proofs.YtgmggompdidcoaaGreatDoor.pbtensorWrites
namespace Go.Proofs.YtgmggompdidcoaaGreatDoor
theorem pbtensorWrites_holds : Rows.PbtensorWritesCardSaid := pbtensorWrites.card
end Go.Proofs.YtgmggompdidcoaaGreatDoor
