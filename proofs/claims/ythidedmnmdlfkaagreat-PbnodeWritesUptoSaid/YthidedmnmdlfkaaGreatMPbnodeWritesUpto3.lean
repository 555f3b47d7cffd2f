import Derived.Test.YthidedmnmdlfkaaGreatMPbnodeWritesUpto2
import Derived.ChangeSlices
import Derived.SizedLaws
import Derived.ProofKit
import Derived.OpenShut
import Derived.ShutString
import Derived.ChangeOld
import Derived.Test.YthidedmnmdlfkaaGreatRows
import Derived.WalkLawsBesides
import Derived.Shelf.Strings.Builder1
import Derived.Deep.RegionHeld3
import Derived.Laws.BitsAllLaws
namespace Go.Proofs.YthidedmnmdlfkaaGreat.X
open Go.RowKit Go.Proofs.YthidedmnmdlfkaaGreatW.PrintWords Go.Proofs.YthidedmnmdlfkaaGreatW.PrintLast Go.Proofs.YthidedmnmdlfkaaGreatW.PrintMore
attribute [local go_sem] max2_int min2_int max_two min_two max_three min_three max_four min_four
set_option linter.unusedVariables false
set_option linter.unusedSimpArgs false
open Go.ChangeShapes Go.WideShapes
structure Opens {H : Type} (enc : TypeId × Value → H) (P : Program) (W : World) (t : TypeId) {α : Type} (d : Kd α) (wf : α → Prop) : Prop where
  cells : P.cellsOf t = d.sz
  go : ∀ (fuel : Nat) (cs : List Value) (x : DataW H × List MemPlace), DataW.trod enc P W 0 (fun _ => true) true fuel t cs = some x →
    (∀ n ∈ DataW.weights P t x.1, n ≤ reachBytes) → ∃ a, d.K W a cs ∧ wf a
theorem Opens.int {H : Type} {enc : TypeId × Value → H} {P : Program} {W : World} {t : TypeId} {k : IntKind} (ht : P.underlying t = some (.int k)) (hc : P.cellsOf t = 1) :
    Opens enc P W t (Kd.int k) (fun a => (Lit.int k a).wf = true) := by
  refine ⟨hc, fun fuel cs x h _ => ?_⟩
  obtain ⟨n, rfl, _, hw⟩ := DataW.trod_int ht h
  exact ⟨n, rfl, hw⟩
theorem Opens.bool {H : Type} {enc : TypeId × Value → H} {P : Program} {W : World} {t : TypeId} (ht : P.underlying t = some .bool) (hc : P.cellsOf t = 1) :
    Opens enc P W t Kd.bool (fun _ => True) := by
  refine ⟨hc, fun fuel cs x h _ => ?_⟩
  obtain ⟨b, rfl, _⟩ := DataW.trod_bool ht h
  exact ⟨b, rfl, trivial⟩
theorem Opens.string {H : Type} {enc : TypeId × Value → H} {P : Program} {W : World} {t : TypeId} (ht : P.underlying t = some .string) (hc : P.cellsOf t = 1) :
    Opens enc P W t Kd.string (fun a => a.size ≤ 140737488351232) := by
  refine ⟨hc, fun fuel cs x h hw => ?_⟩
  obtain ⟨s, rfl, rfl, _⟩ := DataW.trod_string ht h
  refine ⟨s, rfl, ?_⟩
  have := hw s.data.toList.length (by simp [DataW.weights])
  rw [Array.length_toList] at this
  exact this
theorem weights_all_mem {H : Type} {P : Program} {e : TypeId} : ∀ {l : List (DataW H)} {y : DataW H}, y ∈ l → ∀ n ∈ DataW.weights P e y, n ∈ DataW.weightsAll P e l
  | d :: r, y, hy, n, hn => by
    simp only [DataW.weightsAll, List.mem_append]
    rcases List.mem_cons.1 hy with rfl | hy
    · exact .inl hn
    · exact .inr (weights_all_mem hy n hn)
theorem Opens.slice {H : Type} {enc : TypeId × Value → H} {P : Program} {W : World} {t e : TypeId} {α : Type} {d : Kd α} {wf : α → Prop} {B : Nat} (ht : P.underlying t = some (.slice e)) (hc : P.cellsOf t = 1) (hB : P.bytesOf e = B)
    (he : Opens enc P W e d wf) :
    Opens enc P W t (Kd.slice e d) (fun l => l.length ≤ maxLen ∧ l.length * B ≤ 140737488351232 ∧ ∀ x ∈ l, wf x) := by
  refine ⟨hc, fun fuel cs x h hw => ?_⟩
  rcases DataW.trod_slice ht h with ⟨rfl, rfl⟩ | ⟨a, len, cap, elems, rest, n, _, rfl, rfl, hb, hl, hm, hlen, hel, hsp, hns⟩
  · exact ⟨[], ⟨none, 0, rfl, Nat.le_refl _, rfl, Nat.zero_le _, fun h => absurd h (Nat.lt_irrefl 0)⟩, by simp, by simp, by simp⟩
  · have hwe : ∀ y ∈ elems, ∀ n ∈ DataW.weights P e y.1, n ≤ reachBytes := by
      intro y hy n hn
      refine hw n ?_
      simp only [DataW.weights, ht, List.mem_cons, List.mem_append]
      exact .inr (.inl (weights_all_mem (List.mem_map_of_mem hy) n hn))
    have hsize : (elems.length + rest.length) * P.bytesOf e ≤ reachBytes := by
      have := hw ((elems.length + rest.length) * P.bytesOf e) (by simp [DataW.weights, ht])
      exact this
    have each : ∀ i, i < len → ∃ y c, W.cells? 0 (a.add (i * P.cellsOf e)) (P.cellsOf e) = some c ∧ d.K W y c ∧ wf y := by
      intro i hi
      have h1 := hel i hi
      have h2 : elems[i]? = some elems[i] := List.getElem?_eq_getElem (by omega)
      rw [h2, Option.bind_eq_some_iff] at h1
      obtain ⟨c, hcs, hy⟩ := h1
      obtain ⟨y, hk, hwf⟩ := he.go n c _ hy (hwe _ (List.getElem_mem _))
      exact ⟨y, c, hcs, hk, hwf⟩
    obtain ⟨l, hll, hlp⟩ : ∃ l : List α, l.length = len ∧ ∀ i p, l[i]? = some p → ∃ c, W.cells? 0 (a.add (i * P.cellsOf e)) (P.cellsOf e) = some c ∧ d.K W p c ∧ wf p := by
      clear hel h hw hwe hsize hlen hl hsp hns hm hb ht hc
      induction len with
      | zero => exact ⟨[], rfl, by simp⟩
      | succ m ih =>
        obtain ⟨l, hll, hlp⟩ := ih (fun i hi => each i (by omega))
        obtain ⟨y, c, hcs, hk, hwf⟩ := each m (by omega)
        refine ⟨l ++ [y], by simp [hll], fun i p hp => ?_⟩
        rcases Nat.lt_or_ge i l.length with hi | hi
        · rw [List.getElem?_append_left hi] at hp
          exact hlp i p hp
        · rw [List.getElem?_append_right hi] at hp
          obtain ⟨h0, rfl⟩ : i - l.length = 0 ∧ y = p := by
            rcases hq : i - l.length with _ | q
            · rw [hq] at hp; simpa using hp
            · rw [hq] at hp; simp at hp
          obtain rfl : i = m := by omega
          exact ⟨c, hcs, hk, hwf⟩
    subst hll
    refine ⟨l, ⟨some a, cap, rfl, hl, rfl, by unfold maxLen at hm; omega, fun _ => ⟨a, rfl, fun j p hp => ?_⟩⟩, by omega, ?_, ?_⟩
    · obtain ⟨c, hcs, hk, _⟩ := hlp j p hp
      have hclen := (World.cells?_some hcs).2.1
      refine ⟨c, by rw [hclen, he.cells], hk, fun i u hu => ?_⟩
      have hi : i < P.cellsOf e := by have := (List.getElem?_eq_some_iff.1 hu).1; omega
      have := (World.cells?_some hcs).2.2 i hi
      rw [hu, Addr.add_add] at this
      rw [← he.cells]
      exact this
    · rw [hB] at hsize
      have : l.length * B ≤ (elems.length + rest.length) * B := Nat.mul_le_mul_right _ (by omega)
      exact Nat.le_trans this hsize
    · intro x hx
      obtain ⟨i, hi⟩ := List.getElem?_of_mem hx
      obtain ⟨c, _, _, hwf⟩ := hlp i x hi
      exact hwf
structure OpensF {H : Type} (enc : TypeId × Value → H) (P : Program) (W : World) (fs : List Field) (off : Nat) {α : Type} (d : Kd α) (wf : α → Prop) : Prop where
  go : ∀ (n : Nat) (cs : List Value) (xs : List (DataW H × List MemPlace)), cs.length = off + d.sz →
    (∀ (i : Nat) (f : Field), fs[i]? = some f → DataW.trod enc P W 0 (fun _ => true) true n f.type ((cs.drop f.offset).take (P.cellsOf f.type)) = xs[i]?) → xs.length = fs.length →
    (∀ n ∈ DataW.weightsEach P (fs.map (·.type)) (xs.map (·.1)), n ≤ reachBytes) → ∃ a, d.K W a (cs.drop off) ∧ wf a
theorem OpensF.one {H : Type} {enc : TypeId × Value → H} {P : Program} {W : World} {f : Field} {off : Nat} {α : Type} {d : Kd α} {wf : α → Prop} (ho : f.offset = off) (h : Opens enc P W f.type d wf) :
    OpensF enc P W [f] off d wf := by
  refine ⟨fun n cs xs hl hx hxl hw => ?_⟩
  obtain ⟨x, rfl⟩ : ∃ x, xs = [x] := by
    match xs, hxl with
    | [x], _ => exact ⟨x, rfl⟩
  have h1 := hx 0 f rfl
  rw [ho, List.take_of_length_le (by rw [List.length_drop, h.cells]; omega)] at h1
  exact h.go n _ x h1 (fun m hm => hw m (by simp [DataW.weightsEach, hm]))
theorem OpensF.more {H : Type} {enc : TypeId × Value → H} {P : Program} {W : World} {f : Field} {fs : List Field} {off : Nat} {α β : Type} {d : Kd α} {e : Kd β} {wf : α → Prop} {wg : β → Prop} (ho : f.offset = off) (h : Opens enc P W f.type d wf)
    (hs : OpensF enc P W fs (off + d.sz) e wg) : OpensF enc P W (f :: fs) off (Kd.pair d e) (fun a => wf a.1 ∧ wg a.2) := by
  refine ⟨fun n cs xs hl hx hxl hw => ?_⟩
  obtain ⟨x, xs, rfl⟩ : ∃ x ys, xs = x :: ys := by
    match xs, hxl with
    | x :: ys, _ => exact ⟨x, ys, rfl⟩
  have hsz : (Kd.pair d e).sz = d.sz + e.sz := rfl
  have h1 := hx 0 f rfl
  rw [ho, h.cells] at h1
  obtain ⟨a, hk, hwf⟩ := h.go n _ x h1 (fun m hm => hw m (by simp [DataW.weightsEach, hm]))
  obtain ⟨b, hk2, hwg⟩ := hs.go n cs xs (by omega) (fun i g hg => hx (i + 1) g (by simpa using hg)) (by simpa using hxl) (fun m hm => hw m (by simp [DataW.weightsEach, hm]))
  refine ⟨(a, b), ⟨_, _, ?_, hk, hk2⟩, hwf, hwg⟩
  rw [← List.drop_drop, List.take_append_drop]
theorem Opens.struct {H : Type} {enc : TypeId × Value → H} {P : Program} {W : World} {t : TypeId} {fs : Array Field} {α β : Type} {d : Kd α} {wf : α → Prop} {f : β → α} (mk : α → β) (hmk : ∀ a, f (mk a) = a) (ht : P.underlying t = some (.struct fs))
    (hc : P.cellsOf t = d.sz) (h : OpensF enc P W fs.toList 0 d wf) : Opens enc P W t (Kd.iso d f) (fun b => wf (f b)) := by
  refine ⟨hc, fun fuel cs x hx hw => ?_⟩
  obtain ⟨xs, n, _, rfl, hl, hxl, hf⟩ := DataW.trod_struct ht hx
  obtain ⟨a, hk, hwf⟩ := h.go n cs xs (by rw [hl, hc]; omega) (fun i g hg => hf i g (by simpa using hg)) (by simpa using hxl) (fun m hm => hw m (by simpa [DataW.weights, ht] using hm))
  refine ⟨mk a, ?_, by rw [hmk]; exact hwf⟩
  show d.K W (f (mk a)) cs
  rw [hmk]
  simpa using hk
end Go.Proofs.YthidedmnmdlfkaaGreat.X
namespace Go.Proofs.YthidedmnmdlfkaaGreat.X
open Go.RowKit Go.Proofs.YthidedmnmdlfkaaGreatW.PrintWords Go.Proofs.YthidedmnmdlfkaaGreatW.PrintLast Go.Proofs.YthidedmnmdlfkaaGreatW.PrintMore
attribute [local go_sem] max2_int min2_int max_two min_two max_three min_three max_four min_four
set_option linter.unusedVariables false
set_option linter.unusedSimpArgs false
open Go.ChangeShapes Go.WideShapes
structure OpensB {H : Type} (enc : TypeId × Value → H) (P : Program) (W : World) (t : TypeId) {α : Type} (d : Kd α) (wf : α → Prop) (bk : α → Nat) : Prop where
  cells : P.cellsOf t = d.sz
  go : ∀ (fuel : Nat) (cs : List Value) (x : DataW H × List MemPlace), DataW.trod enc P W 0 (fun _ => true) true fuel t cs = some x →
    (∀ n ∈ DataW.weights P t x.1, n ≤ reachBytes) → ∃ a, d.K W a cs ∧ wf a ∧ bk a ≤ Go.Proofs.YthidedmnmdlfkaaGreat.Rows.uptoBulk x.1
theorem OpensB.int {H : Type} {enc : TypeId × Value → H} {P : Program} {W : World} {t : TypeId} {k : IntKind} (ht : P.underlying t = some (.int k)) (hc : P.cellsOf t = 1) :
    OpensB enc P W t (Kd.int k) (fun a => (Lit.int k a).wf = true) (fun _ => 1) := by
  refine ⟨hc, fun fuel cs x h _ => ?_⟩
  obtain ⟨n, rfl, hx, hw⟩ := DataW.trod_int ht h
  exact ⟨n, rfl, hw, by rw [hx]; exact Nat.le_refl _⟩
theorem OpensB.bool {H : Type} {enc : TypeId × Value → H} {P : Program} {W : World} {t : TypeId} (ht : P.underlying t = some .bool) (hc : P.cellsOf t = 1) :
    OpensB enc P W t Kd.bool (fun _ => True) (fun _ => 1) := by
  refine ⟨hc, fun fuel cs x h _ => ?_⟩
  obtain ⟨b, rfl, hx⟩ := DataW.trod_bool ht h
  exact ⟨b, rfl, trivial, by rw [hx]; exact Nat.le_refl _⟩
theorem OpensB.string {H : Type} {enc : TypeId × Value → H} {P : Program} {W : World} {t : TypeId} (ht : P.underlying t = some .string) (hc : P.cellsOf t = 1) :
    OpensB enc P W t Kd.string (fun a => a.size ≤ 140737488351232) (fun a => a.size + 1) := by
  refine ⟨hc, fun fuel cs x h hw => ?_⟩
  obtain ⟨s, rfl, rfl, _⟩ := DataW.trod_string ht h
  refine ⟨s, rfl, ?_, ?_⟩
  · have := hw s.data.toList.length (by simp [DataW.weights])
    rw [Array.length_toList] at this
    exact this
  · show s.size + 1 ≤ s.data.toList.length + 1
    rw [Array.length_toList]; exact Nat.le_refl _
theorem bulk_sum {H α : Type} (bk : α → Nat) : ∀ (l : List α) (E : List (DataW H)), (∀ (i : Nat) (p : α), l[i]? = some p → ∃ e, E[i]? = some e ∧ bk p ≤ Go.Proofs.YthidedmnmdlfkaaGreat.Rows.uptoBulk e) → (l.map bk).sum ≤ Go.Proofs.YthidedmnmdlfkaaGreat.Rows.uptoBulkAll E
  | [], E, _ => Nat.zero_le _
  | x :: l, [], h => by obtain ⟨e, he, _⟩ := h 0 x rfl; cases he
  | x :: l, e :: E, h => by
    obtain ⟨e', he, hx⟩ := h 0 x rfl
    obtain rfl : e = e' := by simpa using he
    have := bulk_sum bk l E (fun i p hp => h (i + 1) p (by simpa using hp))
    simp only [List.map_cons, List.sum_cons, Go.Proofs.YthidedmnmdlfkaaGreat.Rows.uptoBulkAll]
    omega
theorem OpensB.slice {H : Type} {enc : TypeId × Value → H} {P : Program} {W : World} {t e : TypeId} {α : Type} {d : Kd α} {wf : α → Prop} {bk : α → Nat} {B : Nat} (ht : P.underlying t = some (.slice e)) (hc : P.cellsOf t = 1) (hB : P.bytesOf e = B)
    (he : OpensB enc P W e d wf bk) :
    OpensB enc P W t (Kd.slice e d) (fun l => l.length ≤ maxLen ∧ l.length * B ≤ 140737488351232 ∧ ∀ x ∈ l, wf x) (fun l => (l.map bk).sum + 1) := by
  refine ⟨hc, fun fuel cs x h hw => ?_⟩
  rcases DataW.trod_slice ht h with ⟨rfl, rfl⟩ | ⟨a, len, cap, elems, rest, n, _, rfl, rfl, hb, hl, hm, hlen, hel, hsp, hns⟩
  · exact ⟨[], ⟨none, 0, rfl, Nat.le_refl _, rfl, Nat.zero_le _, fun h => absurd h (Nat.lt_irrefl 0)⟩, ⟨by simp, by simp, by simp⟩, by simp [Go.Proofs.YthidedmnmdlfkaaGreat.Rows.uptoBulk]⟩
  · have hwe : ∀ y ∈ elems, ∀ n ∈ DataW.weights P e y.1, n ≤ reachBytes := by
      intro y hy n hn
      refine hw n ?_
      simp only [DataW.weights, ht, List.mem_cons, List.mem_append]
      exact .inr (.inl (weights_all_mem (List.mem_map_of_mem hy) n hn))
    have hsize : (elems.length + rest.length) * P.bytesOf e ≤ reachBytes := by
      have := hw ((elems.length + rest.length) * P.bytesOf e) (by simp [DataW.weights, ht])
      exact this
    have each : ∀ i, i < len → ∃ y c, W.cells? 0 (a.add (i * P.cellsOf e)) (P.cellsOf e) = some c ∧ d.K W y c ∧ wf y ∧ ∃ g, elems[i]? = some g ∧ bk y ≤ Go.Proofs.YthidedmnmdlfkaaGreat.Rows.uptoBulk g.1 := by
      intro i hi
      have h1 := hel i hi
      have h2 : elems[i]? = some elems[i] := List.getElem?_eq_getElem (by omega)
      rw [h2, Option.bind_eq_some_iff] at h1
      obtain ⟨c, hcs, hy⟩ := h1
      obtain ⟨y, hk, hwf, hbk⟩ := he.go n c _ hy (hwe _ (List.getElem_mem _))
      exact ⟨y, c, hcs, hk, hwf, _, h2, hbk⟩
    obtain ⟨l, hll, hlp⟩ : ∃ l : List α, l.length = len ∧ ∀ i p, l[i]? = some p → ∃ c, W.cells? 0 (a.add (i * P.cellsOf e)) (P.cellsOf e) = some c ∧ d.K W p c ∧ wf p ∧ ∃ g, elems[i]? = some g ∧ bk p ≤ Go.Proofs.YthidedmnmdlfkaaGreat.Rows.uptoBulk g.1 := by
      clear hel h hw hwe hsize hlen hl hsp hns hm hb ht hc
      induction len with
      | zero => exact ⟨[], rfl, by simp⟩
      | succ m ih =>
        obtain ⟨l, hll, hlp⟩ := ih (fun i hi => each i (by omega))
        obtain ⟨y, c, hcs, hk, hwf, hg⟩ := each m (by omega)
        refine ⟨l ++ [y], by simp [hll], fun i p hp => ?_⟩
        rcases Nat.lt_or_ge i l.length with hi | hi
        · rw [List.getElem?_append_left hi] at hp
          exact hlp i p hp
        · rw [List.getElem?_append_right hi] at hp
          obtain ⟨h0, rfl⟩ : i - l.length = 0 ∧ y = p := by
            rcases hq : i - l.length with _ | q
            · rw [hq] at hp; simpa using hp
            · rw [hq] at hp; simp at hp
          obtain rfl : i = m := by omega
          exact ⟨c, hcs, hk, hwf, hg⟩
    subst hll
    refine ⟨l, ⟨some a, cap, rfl, hl, rfl, by unfold maxLen at hm; omega, fun _ => ⟨a, rfl, fun j p hp => ?_⟩⟩, ⟨by omega, ?_, ?_⟩, ?_⟩
    · obtain ⟨c, hcs, hk, _, _⟩ := hlp j p hp
      have hclen := (World.cells?_some hcs).2.1
      refine ⟨c, by rw [hclen, he.cells], hk, fun i u hu => ?_⟩
      have hi : i < P.cellsOf e := by have := (List.getElem?_eq_some_iff.1 hu).1; omega
      have := (World.cells?_some hcs).2.2 i hi
      rw [hu, Addr.add_add] at this
      rw [← he.cells]
      exact this
    · rw [hB] at hsize
      have : l.length * B ≤ (elems.length + rest.length) * B := Nat.mul_le_mul_right _ (by omega)
      exact Nat.le_trans this hsize
    · intro x hx
      obtain ⟨i, hi⟩ := List.getElem?_of_mem hx
      obtain ⟨c, _, _, hwf, _⟩ := hlp i x hi
      exact hwf
    · have hs := bulk_sum bk l (elems.map (·.1)) (fun i p hp => by
        obtain ⟨c, _, _, _, g, hg, hb⟩ := hlp i p hp
        exact ⟨g.1, by rw [List.getElem?_map, hg]; rfl, hb⟩)
      simp only [Go.Proofs.YthidedmnmdlfkaaGreat.Rows.uptoBulk]
      omega
structure OpensBF {H : Type} (enc : TypeId × Value → H) (P : Program) (W : World) (fs : List Field) (off : Nat) {α : Type} (d : Kd α) (wf : α → Prop) (bk : α → Nat) : Prop where
  go : ∀ (n : Nat) (cs : List Value) (xs : List (DataW H × List MemPlace)), cs.length = off + d.sz →
    (∀ (i : Nat) (f : Field), fs[i]? = some f → DataW.trod enc P W 0 (fun _ => true) true n f.type ((cs.drop f.offset).take (P.cellsOf f.type)) = xs[i]?) → xs.length = fs.length →
    (∀ n ∈ DataW.weightsEach P (fs.map (·.type)) (xs.map (·.1)), n ≤ reachBytes) → ∃ a, d.K W a (cs.drop off) ∧ wf a ∧ bk a ≤ Go.Proofs.YthidedmnmdlfkaaGreat.Rows.uptoBulkAll (xs.map (·.1))
theorem OpensBF.one {H : Type} {enc : TypeId × Value → H} {P : Program} {W : World} {f : Field} {off : Nat} {α : Type} {d : Kd α} {wf : α → Prop} (ho : f.offset = off) {bk : α → Nat} (h : OpensB enc P W f.type d wf bk) :
    OpensBF enc P W [f] off d wf bk := by
  refine ⟨fun n cs xs hl hx hxl hw => ?_⟩
  obtain ⟨x, rfl⟩ : ∃ x, xs = [x] := by
    match xs, hxl with
    | [x], _ => exact ⟨x, rfl⟩
  have h1 := hx 0 f rfl
  rw [ho, List.take_of_length_le (by rw [List.length_drop, h.cells]; omega)] at h1
  obtain ⟨a, hk, hwf, hb⟩ := h.go n _ x h1 (fun m hm => hw m (by simp [DataW.weightsEach, hm]))
  exact ⟨a, hk, hwf, by simp only [List.map_cons, List.map_nil, Go.Proofs.YthidedmnmdlfkaaGreat.Rows.uptoBulkAll]; omega⟩
theorem OpensBF.more {H : Type} {enc : TypeId × Value → H} {P : Program} {W : World} {f : Field} {fs : List Field} {off : Nat} {α β : Type} {d : Kd α} {e : Kd β} {wf : α → Prop} {wg : β → Prop} {bk : α → Nat} {bl : β → Nat} (ho : f.offset = off) (h : OpensB enc P W f.type d wf bk)
    (hs : OpensBF enc P W fs (off + d.sz) e wg bl) : OpensBF enc P W (f :: fs) off (Kd.pair d e) (fun a => wf a.1 ∧ wg a.2) (fun a => bk a.1 + bl a.2) := by
  refine ⟨fun n cs xs hl hx hxl hw => ?_⟩
  obtain ⟨x, xs, rfl⟩ : ∃ x ys, xs = x :: ys := by
    match xs, hxl with
    | x :: ys, _ => exact ⟨x, ys, rfl⟩
  have hsz : (Kd.pair d e).sz = d.sz + e.sz := rfl
  have h1 := hx 0 f rfl
  rw [ho, h.cells] at h1
  obtain ⟨a, hk, hwf, hb1⟩ := h.go n _ x h1 (fun m hm => hw m (by simp [DataW.weightsEach, hm]))
  obtain ⟨b, hk2, hwg, hb2⟩ := hs.go n cs xs (by omega) (fun i g hg => hx (i + 1) g (by simpa using hg)) (by simpa using hxl) (fun m hm => hw m (by simp [DataW.weightsEach, hm]))
  refine ⟨(a, b), ⟨_, _, ?_, hk, hk2⟩, ⟨hwf, hwg⟩, by simp only [List.map_cons, Go.Proofs.YthidedmnmdlfkaaGreat.Rows.uptoBulkAll]; omega⟩
  rw [← List.drop_drop, List.take_append_drop]
theorem OpensB.struct {H : Type} {enc : TypeId × Value → H} {P : Program} {W : World} {t : TypeId} {fs : Array Field} {α β : Type} {d : Kd α} {wf : α → Prop} {bk : α → Nat} {f : β → α} (mk : α → β) (hmk : ∀ a, f (mk a) = a) (ht : P.underlying t = some (.struct fs))
    (hc : P.cellsOf t = d.sz) (h : OpensBF enc P W fs.toList 0 d wf bk) : OpensB enc P W t (Kd.iso d f) (fun b => wf (f b)) (fun b => bk (f b) + 1) := by
  refine ⟨hc, fun fuel cs x hx hw => ?_⟩
  obtain ⟨xs, n, _, rfl, hl, hxl, hf⟩ := DataW.trod_struct ht hx
  obtain ⟨a, hk, hwf, hb⟩ := h.go n cs xs (by rw [hl, hc]; omega) (fun i g hg => hf i g (by simpa using hg)) (by simpa using hxl) (fun m hm => hw m (by simpa [DataW.weights, ht] using hm))
  refine ⟨mk a, ?_, by rw [hmk]; exact hwf, by rw [hmk]; simp only [Go.Proofs.YthidedmnmdlfkaaGreat.Rows.uptoBulk]; omega⟩
  show d.K W (f (mk a)) cs
  rw [hmk]
  simpa using hk
end Go.Proofs.YthidedmnmdlfkaaGreat.X
namespace Go.Proofs.YthidedmnmdlfkaaGreat.X
open Go.RowKit Go.Proofs.YthidedmnmdlfkaaGreatW.PrintWords Go.Proofs.YthidedmnmdlfkaaGreatW.PrintLast Go.Proofs.YthidedmnmdlfkaaGreatW.PrintMore
attribute [local go_sem] max2_int min2_int max_two min_two max_three min_three max_four min_four
set_option linter.unusedVariables false
set_option linter.unusedSimpArgs false
def slices_Clone_int64.f (l0 : List Int) : Option (List Int) := if l0.length < 17592186044416 then some l0 else none
set_option maxHeartbeats 8000000 in
set_option maxRecDepth 100000 in
theorem slices_Clone_int64.calls (A0 : Option Addr) (c0 : Nat) (l0 : List Int) (r : List Int) (w : World) (hr0 : Kd.C (Kd.int .i64) w A0 l0.length l0) (hc0 : l0.length ≤ c0) (h : slices_Clone_int64.f l0 = some r) :
    Calls Tryz.prog 70 #[.slice A0 l0.length c0] w fun e w' => ∃ v0_ : Value, e = .returned (v0_) ∧ Kd.R (Kd.int .i64) 2 w' w.heap.size (fun k_ => w.heap.size ≤ k_) v0_ r ∧ Below w.heap.size w w' := by
  unfold slices_Clone_int64.f at h
  by_cases hl : l0.length < 17592186044416
  · rw [if_pos hl] at h
    obtain rfl := Option.some.inj h
    have LM := Aside0.mk hl
    have HR0 := Aside0.mk hr0
    have HB := Aside0.mk (Below.refl w.heap.size w)
    have q0 : ∀ w, (binOp .eql 27 (.slice A0 l0.length c0) (.slice none 0 0)).run Tryz.prog w = .ok (.bool A0.isNone) w := fun w => Lib.run_eql_slice_nil w 27 2 A0 l0.length c0 0 0 Tryz.underlying27
    clear h hl hr0
    cases A0 with
    | none =>
      have hn : l0 = [] := by
        rcases Nat.eq_zero_or_pos l0.length with h0 | h0
        · exact List.eq_nil_of_length_eq_zero h0
        · exfalso
          obtain ⟨ad, h1, _⟩ := (Kd.reads_of_C (enc := Value.int .i64) (d := (0 : Int)) (h1 := fun _ => rfl) HR0.out).2.2 h0
          cases h1
      have Hn := Aside0.mk hn
      clear hn
      have q1 : ∀ w, (binOp .eql 27 (.slice none l0.length c0) (.slice none 0 0)).run Tryz.prog w = .ok (.bool true) w := fun w => q0 w
      clear q0
      go_enter Tryz.func70, Tryz.ntmps70
      go_wp2
      go_ret
      exact ⟨_, rfl, by rw [Hn.out]; exact Kd.R_nil _ _ _ _ _, Below.refl _ _⟩
    | some ad =>
      have q1 : ∀ w, (binOp .eql 27 (.slice (some ad) l0.length c0) (.slice none 0 0)).run Tryz.prog w = .ok (.bool false) w := fun w => q0 w
      clear q0
      go_enter Tryz.func70, Tryz.ntmps70
      go_wp2_with (first | ((with_reducible refine gate_dst (N := 5) rfl ?_); refine Kd.R_lit (Kd.int .i64) _ 2 ?hg (N := 5) ?hd (xs := ([] : List Int)) (inner := []) (ok := fun k_ => w.heap.size ≤ k_) (okp := fun k_ => w.heap.size ≤ k_) ?hr ?hp (fun _ hk => hk) (Nat.le_refl _) (Below.refl _ _) (Nat.le_refl _) (by simp) ?_; (case hd => rfl); (case hg => rfl); (case hr => first | (go_simp; done) | (go_simp; rfl)); (case hp => exact (Reps.none _ _)); intro v102 w7 ho8 hb hg_ hnew_; clear hg_ hnew_; have n0_ := Aside0.mk (Kd.R_lower ho8 (below_size HB.out)); have n1_ := Aside0.mk (below_step HB.out hb); clear HB; have HO103 := n0_; have HB := n1_; clear n0_ n1_; clear hb ho8) | ((with_reducible refine gate_builtin (b := .append) (xs := #[.tmp 5, .tmp 6]) rfl ?_); at_builtin; refine Kd.R_append_rows (Kd.int .i64) (w0 := w) w.heap.size rfl (.tmp 5) (.tmp 6) 27 2 (.int .i64 0) 8 rfl Tryz.underlying27 info2 rfl (by decide) (by omega) v102 [] l0 _ _ _ (fun k_ => w.heap.size ≤ k_) (fun _ => False) rfl rfl ?aO ?aR (fun _ _ h => h) (fun _ h => h.elim) ?aF ?aB ?aS ?aL ?_; (case aR => exact (Kd.C_below HR0.out HB.out)); (case aB => exact HB.out); (case aF => exact (fun _ h => Nat.le_trans (below_size HB.out) h)); (case aO => exact HO103.out); (case aS => exact (below_size HB.out)); (case aL => have := LM.out; simp; omega); intro v106 w10 ho hb hg hat; have n0_ := Aside0.mk (hb); have n1_ := Aside0.mk (ho); clear HB; clear HO103; have HB := n0_; have HO107 := n1_; clear n0_ n1_; clear ho hb hg hat))
      go_ret
      exact ⟨_, rfl, HO107.out, HB.out⟩
  · rw [if_neg hl] at h; cases h
def Sh.lays166_ren : Go.Shelf.Ren := ⟨fun | 166 => 66 | 240 => 83 | 276 => 88 | n => n, fun | 0 => 0 | 3 => 3 | 4 => 4 | 5 => 5 | 9 => 9 | 20 => 20 | 37 => 98 | 70 => 121 | 72 => 123 | 75 => 125 | 80 => 95 | 164 => 153 | n => n, fun | n => n⟩
theorem Sh.lays166 : Go.Proofs.Lays.n166 Tryz.prog Sh.lays166_ren := {
  mixed := by kernel_rfl
  f166 := Tryz.func66.trans (congrArg some (by kernel_rfl))
  f240 := Tryz.func83.trans (congrArg some (by kernel_rfl))
  f276 := Tryz.func88.trans (congrArg some (by kernel_rfl))
  t0 := Tryz.underlying0
  a0 := Tryz.isAgg0
  z0 := Tryz.sizeOf0
  v0 := Tryz.zeroValue0
  t3 := Tryz.underlying3
  a3 := Tryz.isAgg3
  z3 := Tryz.sizeOf3
  v3 := Tryz.zeroValue3
  t4 := Tryz.underlying4
  a4 := Tryz.isAgg4
  z4 := Tryz.sizeOf4
  v4 := Tryz.zeroValue4
  t9 := Tryz.underlying9
  a9 := Tryz.isAgg9
  z9 := Tryz.sizeOf9
  v9 := Tryz.zeroValue9
  t20 := Tryz.underlying20
  a20 := Tryz.isAgg20
  z20 := Tryz.sizeOf20
  v20 := Tryz.zeroValue20
  t37 := Tryz.underlying98
  a37 := Tryz.isAgg98
  z37 := Tryz.sizeOf98
  v37 := Tryz.zeroValue98
  t70 := Tryz.underlying121
  a70 := Tryz.isAgg121
  z70 := Tryz.sizeOf121
  v70 := Tryz.zeroValue121
  t72 := Tryz.underlying123
  a72 := Tryz.isAgg123
  z72 := Tryz.sizeOf123
  v72 := Tryz.zeroValue123
  t75 := Tryz.underlying125
  a75 := Tryz.isAgg125
  z75 := Tryz.sizeOf125
  v75 := Tryz.zeroValue125
  t164 := Tryz.underlying153
  a164 := Tryz.isAgg153
  z164 := Tryz.sizeOf153
  v164 := Tryz.zeroValue153 }
theorem Sh.Builder_Extra_166 : Go.Proofs.Builder.Extra Tryz.prog Sh.lays166_ren := {
  sizeBuilder := by kernel_rfl
  liesBuilder := by kernel_rfl
  t5 := Tryz.underlying5
  a5 := Tryz.isAgg5
  z5 := Tryz.sizeOf5
  v5 := Tryz.zeroValue5
  infoByte := by kernel_rfl
  cellsByte := by kernel_rfl
  sizeByte := by kernel_rfl
  neB5 := by decide }
def Sh.lays169_ren : Go.Shelf.Ren := ⟨fun | 169 => 67 | n => n, fun | 0 => 0 | 3 => 3 | 5 => 5 | 9 => 9 | 37 => 98 | 70 => 121 | 72 => 123 | 127 => 145 | n => n, fun | n => n⟩
theorem Sh.lays169 : Go.Proofs.Lays.n169 Tryz.prog Sh.lays169_ren := {
  mixed := by kernel_rfl
  f169 := Tryz.func67.trans (congrArg some (by kernel_rfl))
  t0 := Tryz.underlying0
  a0 := Tryz.isAgg0
  z0 := Tryz.sizeOf0
  v0 := Tryz.zeroValue0
  t3 := Tryz.underlying3
  a3 := Tryz.isAgg3
  z3 := Tryz.sizeOf3
  v3 := Tryz.zeroValue3
  t9 := Tryz.underlying9
  a9 := Tryz.isAgg9
  z9 := Tryz.sizeOf9
  v9 := Tryz.zeroValue9
  t37 := Tryz.underlying98
  a37 := Tryz.isAgg98
  z37 := Tryz.sizeOf98
  v37 := Tryz.zeroValue98
  t70 := Tryz.underlying121
  a70 := Tryz.isAgg121
  z70 := Tryz.sizeOf121
  v70 := Tryz.zeroValue121
  t72 := Tryz.underlying123
  a72 := Tryz.isAgg123
  z72 := Tryz.sizeOf123
  v72 := Tryz.zeroValue123
  t127 := Tryz.underlying145
  a127 := Tryz.isAgg145
  z127 := Tryz.sizeOf145
  v127 := Tryz.zeroValue145 }
theorem Sh.Builder_Extra_169 : Go.Proofs.Builder.Extra Tryz.prog Sh.lays169_ren := {
  sizeBuilder := by kernel_rfl
  liesBuilder := by kernel_rfl
  t5 := Tryz.underlying5
  a5 := Tryz.isAgg5
  z5 := Tryz.sizeOf5
  v5 := Tryz.zeroValue5
  infoByte := by kernel_rfl
  cellsByte := by kernel_rfl
  sizeByte := by kernel_rfl
  neB5 := by decide }
theorem Sh.WriteString (B b : Nat) (bs : List Value) (s : ByteArray) (w : World) (h : Lib.IsBuilder 123 5 B b bs w) (hlen : bs.length + s.size ≤ 140737488355328) (hBw : B ≤ w.heap.size) :
    Calls Tryz.prog 66 #[.pointer (some ⟨b, 0, none⟩), .string s] w fun e w' => e = .returned (.tuple #[.int .i64 s.size, .nilIface]) ∧ (Lib.BuilderAt 123 5 B b (.pointer (some ⟨b, 0, none⟩)) (bs ++ Lib.strCells s) w' ∧ Below B w w') :=
  Go.Proofs.Any.Builder_WriteString Sh.lays166 Sh.Builder_Extra_166 B b bs s w h hlen hBw
theorem Sh.String (B b : Nat) (l : List UInt8) (w : World) (h : Lib.IsBuilder 123 5 B b (Lib.byteCells l) w) (hBw : B ≤ w.heap.size) :
    Calls Tryz.prog 67 #[.pointer (some ⟨b, 0, none⟩)] w fun e w' => e = .returned (.string ⟨l.toArray⟩) ∧ Below B w w' :=
  Go.Proofs.Any.Builder_String_any Sh.lays169 Sh.Builder_Extra_169 B b l w h hBw
theorem builderAt_below {T e : TypeId} {B b : Nat} {p : Value} {bs : List Value} {w w1 : World} (h : Lib.BuilderAt T e B b p bs w) (hb : Below w.heap.size w w1) : Lib.BuilderAt T e B b p bs w1 := by
  have hlt := h.lt
  obtain ⟨hB, v, hbk, hown, hne⟩ := h
  exact ⟨hB, v, (hb.block b hlt).trans hbk, own_move hown (fun k hk => hb.block k (own_lt hown k hk)), hne⟩
theorem isBuilder_below {T e : TypeId} {B b : Nat} {bs : List Value} {w w1 : World} (h : Lib.IsBuilder T e B b bs w) (hb : Below w.heap.size w w1) : Lib.IsBuilder T e B b bs w1 := by
  rcases h with h | h
  · exact .inl (builderAt_below h hb)
  · exact .inr (builderAt_below h hb)
theorem byteCells_append (a b : ByteArray) : Lib.byteCells a.data.toList ++ Lib.strCells b = Lib.byteCells (a ++ b).data.toList := by
  simp [Lib.byteCells, Lib.strCells, ByteArray.data_append]
theorem builder_lies {B b : Nat} {l : List UInt8} {w : World} (h : Lib.IsBuilder 123 5 B b (Lib.byteCells l) w) (h0 : l ≠ []) :
    ∃ p g cap cur, B ≤ g ∧ g < w.heap.size ∧ b < w.heap.size ∧ w.heap[b]? = some (.cells #[p, .slice (some ⟨g, 0, none⟩) l.length cap] 123 (0, 0)) ∧ w.heap[g]? = some (.cells cur 5 (0, 0)) ∧ l.length ≤ cap ∧ cap ≤ maxLen ∧ cur.size = cap ∧ cur.toList.take l.length = Lib.byteCells l := by
  obtain ⟨p, hB, v, hbk, hown, hne⟩ : ∃ p, Lib.BuilderAt 123 5 B b p (Lib.byteCells l) w := by
    rcases h with h | h
    · exact ⟨_, h⟩
    · exact ⟨_, h⟩
  have hl0 : l.length ≠ 0 := by simpa using h0
  rw [Lib.byteCells_length] at hown
  rcases hown.2 with ⟨_, hz⟩ | ⟨g, cap, cur, rfl, hbg, hg, hnc, hcm, hcs, ht⟩
  · exact absurd hz hl0
  · rw [Nat.mul_one] at hcs ht
    exact ⟨p, g, cap, cur, hbg, blk_lt hg, blk_lt hbk, hbk, hg, hnc, hcm, hcs, ht⟩
theorem byte_cell {l : List UInt8} {cur : Array Value} {w : World} {g : Nat} (hg : w.heap[g]? = some (.cells cur 5 (0, 0))) (ht : cur.toList.take l.length = Lib.byteCells l) : ∀ j x, l[j]? = some x → w.cell? ((⟨g, 0, none⟩ : Addr).add j) = some (.int .u8 x.toNat) := by
  intro j x hx
  have hj : j < l.length := (List.getElem?_eq_some_iff.1 hx).1
  have h1 : (Lib.byteCells l)[j]? = some (.int .u8 x.toNat) := by simp [Lib.byteCells, hx]
  rw [← ht, List.getElem?_take] at h1
  rw [if_pos hj, Array.getElem?_toList] at h1
  have h2 : w.cell? ⟨g, j, none⟩ = cur[j]? := blk_cell hg j
  rw [← h1, ← h2]
  unfold Addr.add
  split
  · rename_i h0; subst h0; rfl
  · simp
theorem freeze_kept (w : World) (g n : Nat) : Kept w (w.drew.freeze ⟨g, 0, none⟩ n) (fun k => k = g) := by
  unfold World.freeze
  split
  · exact ⟨Nat.le_refl _, fun _ _ _ => rfl⟩
  · refine ⟨by show w.heap.size ≤ (w.heap.modify _ _).size; rw [Array.size_modify]; exact Nat.le_refl _, fun i hi hne => ?_⟩
    show (w.heap.modify g _)[i]? = _
    rw [Array.getElem?_modify]
    rw [if_neg (fun e => hne e.symm)]
set_option maxHeartbeats 4000000 in
set_option maxRecDepth 100000 in
theorem sh_String.calls (b g cap : Nat) (p : Value) (cur : Array Value) (l : List UInt8) (w : World) (h0 : l ≠ []) (hb : w.heap[b]? = some (.cells #[p, .slice (some ⟨g, 0, none⟩) l.length cap] 123 (0, 0))) (hg : w.heap[g]? = some (.cells cur 5 (0, 0))) (hnc : l.length ≤ cap) (hcm : cap ≤ maxLen) (hcs : cur.size = cap) (ht : cur.toList.take l.length = Lib.byteCells l) :
    Calls Tryz.prog 67 #[.pointer (some ⟨b, 0, none⟩)] w fun e w' => e = .returned (.string ⟨l.toArray⟩) ∧ w' = w.drew.freeze ⟨g, 0, none⟩ l.length := by
  have hl0 : l.length ≠ 0 := by simpa using h0
  have c1 : w.drew.cell? ⟨b, 1, none⟩ = some (.slice (some ⟨g, 0, none⟩) l.length cap) := (blk_cell (w := w.drew) hb 1).trans rfl
  have q1 : (Builtin.unsafeSliceData_ #[98] 145 #[.slice (some ⟨g, 0, none⟩) l.length cap]).run Tryz.prog w.drew = .ok (.pointer (some ⟨g, 0, none⟩)) w.drew :=
    Lib.run_unsafeSliceData_row _ _ _ _ _ _ (by omega)
  have q2 : (Builtin.unsafeString_ #[145, 3] 9 #[.pointer (some ⟨g, 0, none⟩), .int .i64 l.length]).run Tryz.prog w.drew = .ok (.string ⟨l.toArray⟩) (w.drew.freeze ⟨g, 0, none⟩ l.length) :=
    Lib.run_unsafeString_row w.drew 145 3 9 5 Tryz.underlying145 (by kernel_rfl) g cur.size (by have hg' : w.drew.heap[g]? = some (.cells cur 5 (0, 0)) := hg; simp [World.shape?, hg']) l h0 (by omega) (by unfold maxLen at hcm; omega) (byte_cell (w := w.drew) hg ht)
  have hne : b ≠ g := blk_ne hb hg (by decide)
  have q3 : (w.drew.freeze ⟨g, 0, none⟩ l.length).cell? ⟨b, 1, none⟩ = some (.slice (some ⟨g, 0, none⟩) l.length cap) := (blk_cell (((freeze_kept w g l.length).2 b (blk_lt hb) hne).trans hb) 1).trans rfl
  clear hb hg hcs ht hnc hcm hne
  go_enter Tryz.func67, Tryz.ntmps67
  go_wp2
  go_region_held3 (fun w' => w'.cell? ⟨b, 1, none⟩ = some (.slice (some ⟨g, 0, none⟩) l.length cap)) (go_keep) (first | (fail))
  all_goals (go_wp2; go_ret; exact ⟨rfl, rfl⟩)
def by8 (n : Int) (j : Nat) : Int := IntKind.u64.wrap n / 256 ^ j % 256
def laid8 (n : Int) : ByteArray := strOfNums [by8 n 0, by8 n 1, by8 n 2, by8 n 3, by8 n 4, by8 n 5, by8 n 6, by8 n 7]
def arr8 (n : Int) (i : Nat) : Array Value := #[.int .u8 (if 0 < i then by8 n 0 else 0), .int .u8 (if 1 < i then by8 n 1 else 0), .int .u8 (if 2 < i then by8 n 2 else 0), .int .u8 (if 3 < i then by8 n 3 else 0), .int .u8 (if 4 < i then by8 n 4 else 0), .int .u8 (if 5 < i then by8 n 5 else 0), .int .u8 (if 6 < i then by8 n 6 else 0), .int .u8 (if 7 < i then by8 n 7 else 0)]
theorem arr8_string (n : Int) {W : World} {g : Nat} (h : W.heap[g]? = some (.cells (arr8 n 8) 147 (0, 0))) : (convert 98 9 (.slice (some ⟨g, 0, none⟩) 8 8)).run Tryz.prog W = .ok (.string (laid8 n)) W := by
  refine string_of_reads Tryz.underlying98 Tryz.underlying5 Tryz.underlying9 ⟨rfl, by decide, fun _ => ⟨_, rfl, ?_⟩⟩
  intro j hj
  have hc : ∀ i, W.cell? ⟨g, i, none⟩ = (arr8 n 8)[i]? := fun i => blk_cell h i
  have : j = 0 ∨ j = 1 ∨ j = 2 ∨ j = 3 ∨ j = 4 ∨ j = 5 ∨ j = 6 ∨ j = 7 := by omega
  rcases this with rfl | rfl | rfl | rfl | rfl | rfl | rfl | rfl <;> simp [Addr.add, hc, arr8]
set_option maxHeartbeats 8000000 in
theorem tensor_laid.calls (n : Int) (w : World) :
    Calls Tryz.prog 73 #[.int .i64 n] w fun e w' => e = .returned (.string (laid8 n)) ∧ Below w.heap.size w w' := by
  go_enter Tryz.func73, Tryz.ntmps73
  go_wp2
  have HBk := Aside0.mk (show (w.alloc (Obj.cells #[.int .u8 0, .int .u8 0, .int .u8 0, .int .u8 0, .int .u8 0, .int .u8 0, .int .u8 0, .int .u8 0] 147)).heap[w.heap.size]? = some (.cells (arr8 n 0) 147 (0, 0)) from blk_new w _)
  have HB := Aside0.mk (below_alloc (Below.refl w.heap.size w) (Obj.cells #[.int .u8 0, .int .u8 0, .int .u8 0, .int .u8 0, .int .u8 0, .int .u8 0, .int .u8 0, .int .u8 0] 147))
  go_loopg [5] 8 (fun kq v5 w' => ∃ i : Nat, v5 = .int .i64 i ∧ Aside0 (i + kq = 8) ∧ i ≤ 8 ∧ Aside0 (w'.heap[w.heap.size]? = some (.cells (arr8 n i) 147 (0, 0))) ∧ Aside0 (Below w.heap.size w w'))
  case atStart => exact ⟨0, rfl, ⟨by omega⟩, Nat.zero_le _, HBk, HB⟩
  case round =>
    clear HBk HB
    obtain ⟨i, rfl, HK, hi, HBk, HB⟩ := hrel
    have h5 : i = 0 ∨ i = 1 ∨ i = 2 ∨ i = 3 ∨ i = 4 ∨ i = 5 ∨ i = 6 ∨ i = 7 ∨ i = 8 := by omega
    rcases h5 with rfl | rfl | rfl | rfl | rfl | rfl | rfl | rfl | rfl
    · obtain ⟨kk, rfl⟩ : ∃ m, gk = m + 1 := ⟨gk - 1, by have := HK.out; omega⟩
      have c0 : wr.cell? ⟨w.heap.size, 0, none⟩ = some (.int .u8 0) := (blk_cell HBk.out 0).trans rfl
      have f0 := blk_frozen HBk.out 0
      go_wp2_with (first | (fail))
      go_roundg kk
      case measure => have := HK.out; omega
      case rel => exact ⟨1, rfl, ⟨by have := HK.out; omega⟩, by omega, ⟨(blk_put HBk.out 0 _ rfl).trans (by simp [arr8, by8])⟩, ⟨below_set HB.out (Nat.le_refl _)⟩⟩
    · obtain ⟨kk, rfl⟩ : ∃ m, gk = m + 1 := ⟨gk - 1, by have := HK.out; omega⟩
      have c0 : wr.cell? ⟨w.heap.size, 1, none⟩ = some (.int .u8 0) := (blk_cell HBk.out 1).trans rfl
      have f0 := blk_frozen HBk.out 1
      go_wp2_with (first | (fail))
      go_roundg kk
      case measure => have := HK.out; omega
      case rel => exact ⟨2, rfl, ⟨by have := HK.out; omega⟩, by omega, ⟨(blk_put HBk.out 1 _ rfl).trans (by simp [arr8, by8])⟩, ⟨below_set HB.out (Nat.le_refl _)⟩⟩
    · obtain ⟨kk, rfl⟩ : ∃ m, gk = m + 1 := ⟨gk - 1, by have := HK.out; omega⟩
      have c0 : wr.cell? ⟨w.heap.size, 2, none⟩ = some (.int .u8 0) := (blk_cell HBk.out 2).trans rfl
      have f0 := blk_frozen HBk.out 2
      go_wp2_with (first | (fail))
      go_roundg kk
      case measure => have := HK.out; omega
      case rel => exact ⟨3, rfl, ⟨by have := HK.out; omega⟩, by omega, ⟨(blk_put HBk.out 2 _ rfl).trans (by simp [arr8, by8])⟩, ⟨below_set HB.out (Nat.le_refl _)⟩⟩
    · obtain ⟨kk, rfl⟩ : ∃ m, gk = m + 1 := ⟨gk - 1, by have := HK.out; omega⟩
      have c0 : wr.cell? ⟨w.heap.size, 3, none⟩ = some (.int .u8 0) := (blk_cell HBk.out 3).trans rfl
      have f0 := blk_frozen HBk.out 3
      go_wp2_with (first | (fail))
      go_roundg kk
      case measure => have := HK.out; omega
      case rel => exact ⟨4, rfl, ⟨by have := HK.out; omega⟩, by omega, ⟨(blk_put HBk.out 3 _ rfl).trans (by simp [arr8, by8])⟩, ⟨below_set HB.out (Nat.le_refl _)⟩⟩
    · obtain ⟨kk, rfl⟩ : ∃ m, gk = m + 1 := ⟨gk - 1, by have := HK.out; omega⟩
      have c0 : wr.cell? ⟨w.heap.size, 4, none⟩ = some (.int .u8 0) := (blk_cell HBk.out 4).trans rfl
      have f0 := blk_frozen HBk.out 4
      go_wp2_with (first | (fail))
      go_roundg kk
      case measure => have := HK.out; omega
      case rel => exact ⟨5, rfl, ⟨by have := HK.out; omega⟩, by omega, ⟨(blk_put HBk.out 4 _ rfl).trans (by simp [arr8, by8])⟩, ⟨below_set HB.out (Nat.le_refl _)⟩⟩
    · obtain ⟨kk, rfl⟩ : ∃ m, gk = m + 1 := ⟨gk - 1, by have := HK.out; omega⟩
      have c0 : wr.cell? ⟨w.heap.size, 5, none⟩ = some (.int .u8 0) := (blk_cell HBk.out 5).trans rfl
      have f0 := blk_frozen HBk.out 5
      go_wp2_with (first | (fail))
      go_roundg kk
      case measure => have := HK.out; omega
      case rel => exact ⟨6, rfl, ⟨by have := HK.out; omega⟩, by omega, ⟨(blk_put HBk.out 5 _ rfl).trans (by simp [arr8, by8])⟩, ⟨below_set HB.out (Nat.le_refl _)⟩⟩
    · obtain ⟨kk, rfl⟩ : ∃ m, gk = m + 1 := ⟨gk - 1, by have := HK.out; omega⟩
      have c0 : wr.cell? ⟨w.heap.size, 6, none⟩ = some (.int .u8 0) := (blk_cell HBk.out 6).trans rfl
      have f0 := blk_frozen HBk.out 6
      go_wp2_with (first | (fail))
      go_roundg kk
      case measure => have := HK.out; omega
      case rel => exact ⟨7, rfl, ⟨by have := HK.out; omega⟩, by omega, ⟨(blk_put HBk.out 6 _ rfl).trans (by simp [arr8, by8])⟩, ⟨below_set HB.out (Nat.le_refl _)⟩⟩
    · obtain ⟨kk, rfl⟩ : ∃ m, gk = m + 1 := ⟨gk - 1, by have := HK.out; omega⟩
      have c0 : wr.cell? ⟨w.heap.size, 7, none⟩ = some (.int .u8 0) := (blk_cell HBk.out 7).trans rfl
      have f0 := blk_frozen HBk.out 7
      go_wp2_with (first | (fail))
      go_roundg kk
      case measure => have := HK.out; omega
      case rel => exact ⟨8, rfl, ⟨by have := HK.out; omega⟩, by omega, ⟨(blk_put HBk.out 7 _ rfl).trans (by simp [arr8, by8])⟩, ⟨below_set HB.out (Nat.le_refl _)⟩⟩
    · have r3 := arr8_string n HBk.out
      go_wp2_with (first | (fail))
      go_ret
      exact ⟨rfl, HB.out⟩
def vSize (v : Nat) : Nat := if v < 128 then 1 else vSize (v / 128) + 1
  decreasing_by omega
theorem vSize_lt {v : Nat} (h : v < 128) : vSize v = 1 := by rw [vSize, if_pos h]
theorem vSize_ge {v : Nat} (h : ¬ v < 128) : vSize v = vSize (v / 128) + 1 := by rw [vSize, if_neg h]
def ns (s : ByteArray) : List Nat := s.data.toList.map UInt8.toNat
theorem ns_length (s : ByteArray) : (ns s).length = s.size := by simp [ns]
theorem ns_lt (s : ByteArray) : ∀ c ∈ ns s, c < 256 := by
  intro c hc
  simp only [ns, List.mem_map] at hc
  obtain ⟨x, _, rfl⟩ := hc
  exact x.toNat_lt
theorem ns_get (s : ByteArray) (i : Nat) (h : i < s.size) : (ns s)[i]'(by rw [ns_length]; exact h) = (s[i]'h).toNat := by simp [ns]; rfl
theorem ns_drop (s : ByteArray) (i : Nat) (h : i < s.size) : (ns s).drop i = (s[i]'h).toNat :: (ns s).drop (i + 1) := by
  rw [List.drop_eq_getElem_cons (by rw [ns_length]; exact h), ns_get s i h]
theorem ns_drop_end (s : ByteArray) (i : Nat) (h : s.size ≤ i) : (ns s).drop i = [] := by
  rw [List.drop_eq_nil_iff, ns_length]; exact h
theorem bt_ns (s : ByteArray) (i : Nat) (h : i < s.size) : bt s i = ((s[i]'h).toNat : Int) := by simp [bt, h]
def readS : List Nat → Nat → Nat → Nat × Nat × Nat
  | [], _, _ => (0, 0, 1)
  | c :: l, n, v => if n = 9 ∧ 1 < c then (0, 0, 2) else if c < 128 then (v + c * 128 ^ n, n + 1, 0) else readS l (n + 1) (v + (c % 128) * 128 ^ n)
def vRead (s : ByteArray) : Nat × Nat × Nat := readS (ns s) 0 0
def vPut (v : Nat) : List Nat := if v < 128 then [v] else (v % 128 + 128) :: vPut (v / 128)
  decreasing_by omega
theorem vPut_lt {v : Nat} (h : v < 128) : vPut v = [v] := by rw [vPut, if_pos h]
theorem vPut_ge {v : Nat} (h : ¬ v < 128) : vPut v = (v % 128 + 128) :: vPut (v / 128) := by rw [vPut, if_neg h]
theorem pow128 (n : Nat) : 128 ^ n = 2 ^ (7 * n) := by
  rw [Nat.pow_mul]
theorem u64_wrap (x : Int) : IntKind.u64.wrap x = x % 18446744073709551616 := by simp [IntKind.wrap, IntKind.bits, IntKind.signed]
theorem or_step (v c n : Nat) (hv : v < 128 ^ n) (hn : n ≤ 9) (h9 : n = 9 → c ≤ 1) :
    Go.bits .or .u64 (v : Int) (IntKind.u64.wrap ((c : Int) % 128 * 2 ^ (7 * n))) = ((v + c % 128 * 128 ^ n : Nat) : Int) := by
  have e : (c : Int) % 128 * 2 ^ (7 * n) = ((c % 128 * 2 ^ (7 * n) : Nat) : Int) := by simp
  have hp : c % 128 * 2 ^ (7 * n) < 18446744073709551616 := by
    rcases Nat.lt_or_ge n 9 with h | h
    · have h1 : 2 ^ (7 * n) ≤ 2 ^ 56 := Nat.pow_le_pow_right (by decide) (by omega)
      have h2 : c % 128 * 2 ^ (7 * n) ≤ 127 * 2 ^ 56 := Nat.mul_le_mul (by omega) h1
      omega
    · obtain rfl : n = 9 := by omega
      have := h9 rfl
      have h2 : c % 128 * 2 ^ (7 * 9) ≤ 1 * 2 ^ 63 := Nat.mul_le_mul (by omega) (by decide)
      omega
  have hw : IntKind.u64.wrap ((c : Int) % 128 * 2 ^ (7 * n)) = ((c % 128 * 2 ^ (7 * n) : Nat) : Int) := by
    rw [e, u64_wrap]; omega
  have hv2 : v < 2 ^ (7 * n) := by rw [← pow128]; exact hv
  have hv3 : v < 18446744073709551616 := by
    have : 2 ^ (7 * n) ≤ 2 ^ 63 := Nat.pow_le_pow_right (by decide) (by omega)
    omega
  rw [hw, u64_or_nat _ _ hv3 hp, Nat.or_comm, Nat.mul_comm, ← Nat.two_pow_add_eq_or_of_lt hv2, pow128, Nat.mul_comm, Nat.add_comm]
theorem readS_cons {c n v : Nat} {l : List Nat} (h9 : n = 9 → c ≤ 1) : readS (c :: l) n v = if c < 128 then (v + c * 128 ^ n, n + 1, 0) else readS l (n + 1) (v + (c % 128) * 128 ^ n) := by
  rw [readS, if_neg (by omega)]
def vStr (v : Nat) : ByteArray := strOfNums ((vPut v).map Int.ofNat)
theorem vPut_length (v : Nat) : (vPut v).length = vSize v := by
  induction v using Nat.strongRecOn with
  | _ v ih =>
    by_cases h : v < 128
    · rw [vPut_lt h, vSize_lt h]; rfl
    · rw [vPut_ge h, vSize_ge h, List.length_cons, ih (v / 128) (by omega)]
theorem vSize_le (m : Nat) (k : Nat) (h : m < 128 ^ (k + 1)) : vSize m ≤ k + 1 := by
  induction k generalizing m with
  | zero => rw [vSize_lt (by simpa using h)]; omega
  | succ k ih =>
    by_cases h1 : m < 128
    · rw [vSize_lt h1]; omega
    · rw [vSize_ge h1]
      have := ih (m / 128) (by rw [Nat.div_lt_iff_lt_mul (by decide)]; rw [Nat.pow_succ] at h; omega)
      omega
theorem vSize_pos (m : Nat) : 1 ≤ vSize m := by rw [vSize]; split <;> omega
theorem vSize_10 (m : Nat) (h : m < 18446744073709551616) : vSize m ≤ 10 := vSize_le m 9 (show m < 1180591620717411303424 by omega)
theorem wf_i64 {a : Int} (h : (Lit.int .i64 a).wf = true) : -9223372036854775808 ≤ a ∧ a < 9223372036854775808 := by
  have e1 : IntKind.i64.min = -9223372036854775808 := by decide
  have e2 : IntKind.i64.max = 9223372036854775807 := by decide
  simp only [Lit.wf, Bool.and_eq_true, decide_eq_true_eq, e1, e2] at h; omega
theorem wrap64_id {x : Int} (h0 : -9223372036854775808 ≤ x) (h1 : x < 9223372036854775808) : wrap64 x = x := by unfold wrap64; omega
theorem u64_id {x : Int} (h0 : 0 ≤ x) (h1 : x < 18446744073709551616) : IntKind.u64.wrap x = x := by rw [u64_wrap]; omega
def catLaid : List Int → ByteArray
  | [] => ⟨#[]⟩
  | x :: l => laid8 x ++ catLaid l
theorem catLaid_snoc (l : List Int) (x : Int) : catLaid (l ++ [x]) = catLaid l ++ laid8 x := by
  induction l with
  | nil => apply ByteArray.ext; simp [catLaid, ByteArray.data_append]
  | cons y l ih => rw [List.cons_append, catLaid, ih, catLaid, ByteArray.append_assoc]
theorem laid8_size (n : Int) : (laid8 n).size = 8 := strOfNums_size _
theorem catLaid_size (l : List Int) : (catLaid l).size = 8 * l.length := by
  induction l with
  | nil => rfl
  | cons x l ih => rw [catLaid, ByteArray.size_append, ih, laid8_size, List.length_cons]; omega
theorem alloc_size (w : World) (o : Obj) : (w.alloc o).heap.size = w.heap.size + 1 := Array.size_push _
theorem below_low {b B : Nat} {w w1 : World} (h : Below B w w1) (hb : b ≤ B) : Below b w w1 := ⟨h.os, h.tape, h.output, h.size, fun i hi => h.block i (by omega)⟩
set_option maxHeartbeats 8000000 in
set_option maxRecDepth 100000 in
theorem of_ints.calls (name : ByteArray) (k : Int) (A0 : Option Addr) (c0 : Nat) (l0 : List Int) (A1 : Option Addr) (c1 : Nat) (l1 : List Int) (w : World) (hr0 : Kd.C (Kd.int .i64) w A0 l0.length l0) (hc0 : l0.length ≤ c0) (hr1 : Kd.C (Kd.int .i64) w A1 l1.length l1) (hc1 : l1.length ≤ c1) (hl0 : l0.length ≤ 1000000) (hl1 : l1.length ≤ 1000000) (hn1 : l1 ≠ []) :
    Calls Tryz.prog 72 #[.string name, .int .i64 k, .slice A0 l0.length c0, .slice A1 l1.length c1, .func (Fn.func 73) #[] #[]] w fun e w' => ∃ v2_, e = .returned (.agg #[.string name, .int .i64 k, v2_, .string (catLaid l1)]) ∧ Kd.R (Kd.int .i64) 2 w' w.heap.size (fun k_ => w.heap.size ≤ k_) v2_ l0 ∧ Below w.heap.size w w' := by
  have HR0 := Aside0.mk hr0
  have HC0 := Aside0.mk hc0
  have HL0 := Aside0.mk hl0
  have HR1 := Aside0.mk hr1
  have HC1 := Aside0.mk hc1
  have HL := Aside0.mk hl1
  clear hr0 hc0 hl0 hr1 hc1 hl1
  go_enter Tryz.func72, Tryz.ntmps72
  go_wp2
  have HRb := Aside0.mk (show ((w.alloc (Obj.cells #[Value.string { data := #[] }, Value.int IntKind.i64 0, Value.slice none 0 0, Value.string { data := #[] }] 64)).alloc (Obj.cells #[Value.pointer none, Value.slice none 0 0] 123)).heap[w.heap.size]? = some (Obj.cells #[Value.string { data := #[] }, Value.int IntKind.i64 0, Value.slice none 0 0, Value.string { data := #[] }] 64) from blk_alloc (blk_new w _) _)
  have HB := Aside0.mk (below_alloc (below_alloc (Below.refl w.heap.size w) (Obj.cells #[Value.string { data := #[] }, Value.int IntKind.i64 0, Value.slice none 0 0, Value.string { data := #[] }] 64)) (Obj.cells #[Value.pointer none, Value.slice none 0 0] 123))
  have HI : Aside0 (Lib.IsBuilder 123 5 (w.heap.size + 1) (w.heap.size + 1) (Lib.byteCells (catLaid (l1.take 0)).data.toList) ((w.alloc (Obj.cells #[Value.string { data := #[] }, Value.int IntKind.i64 0, Value.slice none 0 0, Value.string { data := #[] }] 64)).alloc (Obj.cells #[Value.pointer none, Value.slice none 0 0] 123))) := ⟨by
    have h := Lib.fresh_isBuilder 123 5 (w.alloc (Obj.cells #[Value.string { data := #[] }, Value.int IntKind.i64 0, Value.slice none 0 0, Value.string { data := #[] }] 64))
    have e : (w.alloc (Obj.cells #[Value.string { data := #[] }, Value.int IntKind.i64 0, Value.slice none 0 0, Value.string { data := #[] }] 64)).heap.size = w.heap.size + 1 := alloc_size _ _
    rw [e] at h
    exact h⟩
  go_loopg [16] l1.length (fun kq v16 w' => ∃ i : Nat, v16 = .int .i64 i ∧ Aside0 (i + kq = l1.length) ∧ i ≤ l1.length ∧ Aside0 (Lib.IsBuilder 123 5 (w.heap.size + 1) (w.heap.size + 1) (Lib.byteCells (catLaid (l1.take i)).data.toList) w') ∧ Aside0 (w'.heap[w.heap.size]? = some (Obj.cells #[Value.string { data := #[] }, Value.int IntKind.i64 0, Value.slice none 0 0, Value.string { data := #[] }] 64)) ∧ Aside0 (w.heap.size + 1 ≤ w'.heap.size) ∧ Aside0 (Below w.heap.size w w'))
  case atStart => exact ⟨0, rfl, ⟨by omega⟩, Nat.zero_le _, HI, HRb, ⟨by rw [alloc_size, alloc_size]; omega⟩, HB⟩
  case round =>
    clear HRb HB HI
    obtain ⟨i, rfl, HK, hi, HI, HRb, HS, HB⟩ := hrel
    by_cases hlt : i < l1.length
    · have hlt' : decide ((i : Int) < (l1.length : Int)) = true := by simpa using hlt
      obtain ⟨kk, rfl⟩ : ∃ m, gk = m + 1 := ⟨gk - 1, by have := HK.out; omega⟩
      have Hcat : Aside0 (Lib.byteCells (catLaid (l1.take i)).data.toList ++ Lib.strCells (laid8 (rd l1 i)) = Lib.byteCells (catLaid (l1.take (i + 1))).data.toList) := ⟨by
        rw [byteCells_append, List.take_succ_eq_append_getElem hlt, catLaid_snoc]
        simp [rd, List.getD_eq_getElem?_getD, hlt]⟩
      have Hlen : Aside0 ((Lib.byteCells (catLaid (l1.take i)).data.toList).length + (laid8 (rd l1 i)).size ≤ 140737488355328) := ⟨by
        have h1 := catLaid_size (l1.take i)
        have h3 : (Lib.byteCells (catLaid (l1.take i)).data.toList).length = (catLaid (l1.take i)).size := by simp [Lib.byteCells]
        have h4 := HL.out
        rw [List.length_take] at h1
        rw [laid8_size, h3]
        omega⟩
      have Hw : Aside0 (wrap64 ((i : Int) + 1) = (i : Int) + 1) := ⟨by have := HL.out; exact wrap64_id (by omega) (by omega)⟩
      have p101 : 0 ≤ (i : Int) := Int.natCast_nonneg i
      have q101 : (i : Int) < (l1.length : Int) := by omega
      obtain ⟨ad101, e101, hx101_0⟩ := Kd.at_int HR1.out i p101 q101
      cases e101
      replace hx101_0 := (HB.out.cell (World.block_lt_of_cell? w _ hx101_0)).trans hx101_0
      rw [Int.toNat_natCast] at hx101_0
      replace p101 := eq_true p101
      replace q101 := eq_true q101
      go_wp2_with (first | (fail))
      refine (tensor_laid.calls (rd l1 i) _).mono ?_
      rintro e w8 ⟨rfl, hb⟩
      have n0_ := Aside0.mk (below_step HB.out hb)
      have n1_ := Aside0.mk (isBuilder_below HI.out hb)
      have n2_ := Aside0.mk (blk_below HRb.out hb)
      have n3_ := Aside0.mk (Nat.le_trans HS.out hb.size)
      clear HB HI HRb HS hb
      have HB := n0_; have HI := n1_; have HRb := n2_; have HS := n3_
      clear n0_ n1_ n2_ n3_
      go_wp2_with (first | (fail))
      refine (Sh.WriteString (w.heap.size + 1) (w.heap.size + 1) _ (laid8 (rd l1 i)) _ HI.out Hlen.out HS.out).mono ?_
      rintro e w9 ⟨rfl, hi8, hb⟩
      have n0_ := Aside0.mk (HB.out.trans (below_low hb (Nat.le_succ _)))
      have n1_ := Aside0.mk (show Lib.IsBuilder 123 5 (w.heap.size + 1) (w.heap.size + 1) _ w9 from .inr hi8)
      have n2_ := Aside0.mk ((hb.block w.heap.size (Nat.lt_succ_self _)).trans HRb.out)
      have n3_ := Aside0.mk (Nat.le_trans HS.out hb.size)
      clear HB HI HRb HS hb hi8
      have HB := n0_; have HI := n1_; have HRb := n2_; have HS := n3_
      clear n0_ n1_ n2_ n3_
      go_wp2_with (first | (fail))
      go_roundg kk
      case measure => have := HK.out; omega
      case rel => exact ⟨i + 1, by rw [Hw.out]; rfl, ⟨by have := HK.out; omega⟩, by omega, ⟨by rw [← Hcat.out]; exact HI.out⟩, HRb, HS, HB⟩
    · have hlt' : decide ((i : Int) < (l1.length : Int)) = false := by simpa using hlt
      have Hi : Aside0 (l1.take i = l1) := ⟨List.take_of_length_le (by omega)⟩
      have HI2 : Aside0 (Lib.IsBuilder 123 5 (w.heap.size + 1) (w.heap.size + 1) (Lib.byteCells (catLaid l1).data.toList) wr) := ⟨by have := HI.out; rw [Hi.out] at this; exact this⟩
      have hne : (catLaid l1).data.toList ≠ [] := by
        intro e
        have h1 := catLaid_size l1
        have h2 : (catLaid l1).size = (catLaid l1).data.toList.length := (Array.length_toList).symm
        rw [e] at h2
        have h3 : l1.length ≠ 0 := fun h => hn1 (List.eq_nil_of_length_eq_zero h)
        rw [List.length_nil] at h2
        omega
      obtain ⟨p, g, cap, cur, hBg, hgl, hbl, hbk, hg, hnc, hcm, hcs, ht⟩ := builder_lies HI2.out hne
      have HBK := Aside0.mk hbk
      have HG := Aside0.mk hg
      have HT := Aside0.mk (And.intro hnc (And.intro hcm (And.intro hcs ht)))
      have HGL := Aside0.mk hgl
      have HBL := Aside0.mk hbl
      have HBG := Aside0.mk hBg
      have HNE := Aside0.mk hne
      clear hbk hg hnc hcm hcs ht hgl hbl hBg hne HI HI2
      have hlt2 : w.heap.size < wr.heap.size := by have := HS.out; omega
      go_wp2_with (first | (fail))
      refine (slices_Clone_int64.calls A0 c0 l0 l0 _ (Kd.C_below HR0.out HB.out) HC0.out (if_pos (by have := HL0.out; omega))).mono ?_
      rintro e w8 ⟨v2, rfl, hR, hb⟩
      obtain ⟨A2, c2, rfl⟩ := Kd.R_slice hR
      have n0_ := Aside0.mk (below_step HB.out hb)
      have n1_ := Aside0.mk (blk_below HRb.out hb)
      have n2_ := Aside0.mk (blk_below HBK.out hb)
      have n3_ := Aside0.mk (blk_below HG.out hb)
      have HO := Aside0.mk (Kd.R_lower hR (below_size HB.out))
      clear HB HRb HBK HG hb hR
      have HB := n0_; have HRb := n1_; have HBK := n2_; have HG := n3_
      clear n0_ n1_ n2_ n3_
      go_wp2_with (first | (fail))
      refine (sh_String.calls (w.heap.size + 1) g cap p cur _ _ HNE.out HBK.out HG.out HT.out.1 HT.out.2.1 HT.out.2.2.1 HT.out.2.2.2).mono ?_
      rintro e w9 ⟨rfl, hw9⟩
      have hk := freeze_kept w8 g (catLaid l1).data.toList.length
      rw [← hw9] at hk
      have n0_ := Aside0.mk (show Below w.heap.size w w9 by rw [hw9]; exact Lib.below_freeze (below_drew1 HB.out) (p := ⟨g, 0, none⟩) (by have := HBG.out; show w.heap.size ≤ g; omega) _)
      have n1_ := Aside0.mk ((hk.2 w.heap.size (blk_lt HRb.out) (by have := HBG.out; omega)).trans HRb.out)
      have HO2 := Aside0.mk (Kd.R_kept HO.out hk (fun k hk1 hk2 => by have := HGL.out; omega))
      clear HB HRb HO hk hw9 HBK HG
      have HB := n0_; have HRb := n1_
      clear n0_ n1_
      have cR0 : w9.cell? ⟨w.heap.size, 0, none⟩ = some (.string ⟨#[]⟩) := (blk_cell HRb.out 0).trans rfl
      have cR1 : w9.cell? ⟨w.heap.size, 1, none⟩ = some (.int .i64 0) := (blk_cell HRb.out 1).trans rfl
      have cR2 : w9.cell? ⟨w.heap.size, 2, none⟩ = some (.slice none 0 0) := (blk_cell HRb.out 2).trans rfl
      have cR3 : w9.cell? ⟨w.heap.size, 3, none⟩ = some (.string ⟨#[]⟩) := (blk_cell HRb.out 3).trans rfl
      have fR0 := blk_frozen HRb.out 0
      have fR1 := blk_frozen HRb.out 1
      have fR2 := blk_frozen HRb.out 2
      have fR3 := blk_frozen HRb.out 3
      go_wp2_with (first | (fail))
      refine bodyPost_ret (results_cell_row rfl _ _ w.heap.size 64 #[.string name, .int .i64 k, .slice A2 l0.length c2, .string ⟨(catLaid l1).data⟩] (0, 0) _ rfl (by refine blk_put (cs := #[.string name, .int .i64 k, .slice A2 l0.length c2, .string (⟨#[]⟩ : ByteArray)]) ?_ 3 _ rfl; refine blk_put (cs := #[.string name, .int .i64 k, .slice none 0 0, .string (⟨#[]⟩ : ByteArray)]) ?_ 2 _ rfl; refine blk_put (cs := #[.string name, .int .i64 0, .slice none 0 0, .string (⟨#[]⟩ : ByteArray)]) ?_ 1 _ rfl; refine blk_put (cs := #[.string (⟨#[]⟩ : ByteArray), .int .i64 0, .slice none 0 0, .string (⟨#[]⟩ : ByteArray)]) ?_ 0 _ rfl; exact HRb.out) Tryz.underlying64 rfl (by kernel_rfl)) rfl ?_
      have hfar : ∀ k_ : Nat, wr.heap.size ≤ k_ → k_ ≠ w.heap.size := fun k_ h => by omega
      exact ⟨_, rfl, Kd.R_mono (Kd.R_far (Kd.R_far (Kd.R_far (Kd.R_far HO2.out hfar _) hfar _) hfar _) hfar _) (fun k_ h => by omega), below_set (below_set (below_set (below_set HB.out (Nat.le_refl _)) (Nat.le_refl _)) (Nat.le_refl _)) (Nat.le_refl _)⟩
theorem tensor_OfInts0.calls (name : ByteArray) (A0 : Option Addr) (c0 : Nat) (l0 : List Int) (A1 : Option Addr) (c1 : Nat) (l1 : List Int) (w : World) (hr0 : Kd.C (Kd.int .i64) w A0 l0.length l0) (hc0 : l0.length ≤ c0) (hr1 : Kd.C (Kd.int .i64) w A1 l1.length l1) (hc1 : l1.length ≤ c1) (hl0 : l0.length ≤ 1000000) (hl1 : l1.length ≤ 1000000) (hn1 : l1 ≠ []) :
    Calls Tryz.prog 57 #[.string name, .slice A0 l0.length c0, .slice A1 l1.length c1] w fun e w' => ∃ v2_, e = .returned (.agg #[.string name, .int .i64 7, v2_, .string (catLaid l1)]) ∧ Kd.R (Kd.int .i64) 2 w' w.heap.size (fun k_ => w.heap.size ≤ k_) v2_ l0 ∧ Below w.heap.size w w' := by
  have HR0 := Aside0.mk hr0
  have HR1 := Aside0.mk hr1
  have HH := Aside0.mk (And.intro hc0 (And.intro hc1 (And.intro hl0 (And.intro hl1 hn1))))
  clear hr0 hr1 hc0 hc1 hl0 hl1 hn1
  go_enter Tryz.func57, Tryz.ntmps57
  go_wp2_with (first | (fail))
  have HRb := Aside0.mk (blk_new w (Obj.cells #[Value.string { data := #[] }, Value.int IntKind.i64 0, Value.slice none 0 0, Value.string { data := #[] }] 64))
  have HB := Aside0.mk (below_alloc (Below.refl w.heap.size w) (Obj.cells #[Value.string { data := #[] }, Value.int IntKind.i64 0, Value.slice none 0 0, Value.string { data := #[] }] 64))
  refine (of_ints.calls name 7 A0 c0 l0 A1 c1 l1 _ (Kd.C_below HR0.out HB.out) HH.out.1 (Kd.C_below HR1.out HB.out) HH.out.2.1 HH.out.2.2.1 HH.out.2.2.2.1 HH.out.2.2.2.2).mono ?_
  rintro e w8 ⟨v2, rfl, hR, hb⟩
  obtain ⟨A2, c2, rfl⟩ := Kd.R_slice hR
  have hlt : (w.alloc (Obj.cells #[Value.string { data := #[] }, Value.int IntKind.i64 0, Value.slice none 0 0, Value.string { data := #[] }] 64)).heap.size = w.heap.size + 1 := alloc_size _ _
  have n0_ := Aside0.mk (below_step HB.out hb)
  have n1_ := Aside0.mk (blk_below HRb.out hb)
  have HO := Aside0.mk (Kd.R_lower hR (below_size HB.out))
  rw [hlt] at HO
  clear HB HRb hb hR hlt
  have HB := n0_; have HRb := n1_
  clear n0_ n1_
  have cR0 : w8.cell? ⟨w.heap.size, 0, none⟩ = some (.string ⟨#[]⟩) := (blk_cell HRb.out 0).trans rfl
  have cR1 : w8.cell? ⟨w.heap.size, 1, none⟩ = some (.int .i64 0) := (blk_cell HRb.out 1).trans rfl
  have cR2 : w8.cell? ⟨w.heap.size, 2, none⟩ = some (.slice none 0 0) := (blk_cell HRb.out 2).trans rfl
  have cR3 : w8.cell? ⟨w.heap.size, 3, none⟩ = some (.string ⟨#[]⟩) := (blk_cell HRb.out 3).trans rfl
  have fR0 := blk_frozen HRb.out 0
  have fR1 := blk_frozen HRb.out 1
  have fR2 := blk_frozen HRb.out 2
  have fR3 := blk_frozen HRb.out 3
  go_wp2_with (first | (fail))
  refine bodyPost_ret (results_cell_row rfl _ _ w.heap.size 64 #[.string name, .int .i64 7, .slice A2 l0.length c2, .string (catLaid l1)] (0, 0) _ rfl (by refine blk_put (cs := #[.string name, .int .i64 7, .slice A2 l0.length c2, .string (⟨#[]⟩ : ByteArray)]) ?_ 3 _ rfl; refine blk_put (cs := #[.string name, .int .i64 7, .slice none 0 0, .string (⟨#[]⟩ : ByteArray)]) ?_ 2 _ rfl; refine blk_put (cs := #[.string name, .int .i64 0, .slice none 0 0, .string (⟨#[]⟩ : ByteArray)]) ?_ 1 _ rfl; refine blk_put (cs := #[.string (⟨#[]⟩ : ByteArray), .int .i64 0, .slice none 0 0, .string (⟨#[]⟩ : ByteArray)]) ?_ 0 _ rfl; exact HRb.out) Tryz.underlying64 rfl (by kernel_rfl)) rfl ?_
  have hfar : ∀ k_ : Nat, w.heap.size + 1 ≤ k_ → k_ ≠ w.heap.size := fun k_ h => by omega
  exact ⟨_, rfl, Kd.R_mono (Kd.R_far (Kd.R_far (Kd.R_far (Kd.R_far HO.out hfar _) hfar _) hfar _) hfar _) (fun k_ h => by omega), below_set (below_set (below_set (below_set HB.out (Nat.le_refl _)) (Nat.le_refl _)) (Nat.le_refl _)) (Nat.le_refl _)⟩
end Go.Proofs.YthidedmnmdlfkaaGreat.X
