import Derived.Test.YtpojamikfcmnoaaMTensorTells2
import Derived.Test.YtpojamikfcmnoaaMTensorTells17
import Derived.Test.YtpojamikfcmnoaaMTensorTells5
import Derived.Test.YtpojamikfcmnoaaMTensorTells3
import Derived.ChangeSlices
import Derived.SizedLaws
import Derived.ProofKit
import Derived.OpenShut
import Derived.ShutString
import Derived.ChangeOld
import Derived.Test.YtpojamikfcmnoaaMTensorTells10
import Derived.Test.YtpojamikfcmnoaaMTensorTells11
import Derived.Test.YtpojamikfcmnoaaMTensorTells12
import Derived.Test.YtpojamikfcmnoaaMTensorTells13
import Derived.Test.YtpojamikfcmnoaaMTensorTells14
import Derived.Test.YtpojamikfcmnoaaMTensorTells7
import Derived.Test.YtpojamikfcmnoaaMTensorTells15
import Derived.Test.YtpojamikfcmnoaaMTensorTells16
import Derived.Test.YtpojamikfcmnoaaMTensorTells6
namespace Go.Proofs.Ytpojamikfcmnoaa.X
open Go.RowKit Go.Proofs.YtpojamikfcmnoaaW.PrintWords Go.Proofs.YtpojamikfcmnoaaW.PrintLast Go.Proofs.YtpojamikfcmnoaaW.PrintMore
attribute [local go_sem] max2_int min2_int max_two min_two max_three min_three max_four min_four
set_option linter.unusedVariables false
set_option linter.unusedSimpArgs false
def agateref07_Same_s.f (a0_0 : ByteArray) (a0_1 : Int) (l0_2 : List Int) (a0_3 : ByteArray) (a1_0 : ByteArray) (a1_1 : Int) (l1_2 : List Int) (a1_3 : ByteArray) : Option Bool := if l0_2.length ≤ 1000000 then some (sameR a0_0 a0_1 l0_2 a0_3 a1_0 a1_1 l1_2 a1_3) else none
theorem agateref07_Same_eval (a0_0 : ByteArray) (a0_1 : Int) (l0_2 : List Int) (a0_3 : ByteArray) (a1_0 : ByteArray) (a1_1 : Int) (l1_2 : List Int) (a1_3 : ByteArray) (hl : l0_2.length ≤ 1000000) (he : l0_2.length = l1_2.length) (d : Nat) : ∀ (k i : Nat), l0_2.length - i = d → i ≤ l0_2.length → d < k →
    agateref07_Same.l0 k (i : Int) a0_0 a0_1 l0_2 a0_3 a1_0 a1_1 l1_2 a1_3 = some (decide (l0_2.drop i = l1_2.drop i)) := by
  induction d with
  | zero =>
    intro k i hdd hi hk
    obtain ⟨k, rfl⟩ : ∃ m, k = m + 1 := ⟨k - 1, by omega⟩
    simp only [agateref07_Same.l0]
    rw [if_neg (by omega), List.drop_of_length_le (by omega), List.drop_of_length_le (by omega)]; rfl
  | succ d ih =>
    intro k i hdd hi hk
    obtain ⟨k, rfl⟩ : ∃ m, k = m + 1 := ⟨k - 1, by omega⟩
    have hlt : i < l0_2.length := by omega
    have hlt2 : i < l1_2.length := by omega
    have e0 : rd l0_2 (i : Int) = l0_2[i] := by simp [rd, hlt]
    have e1 : rd l1_2 (i : Int) = l1_2[i] := by simp [rd, hlt2]
    simp only [agateref07_Same.l0]
    rw [if_pos (by omega), if_pos (by omega), if_pos (by omega), e0, e1, List.drop_eq_getElem_cons hlt, List.drop_eq_getElem_cons hlt2]
    by_cases hx : l0_2[i] = l1_2[i]
    · rw [if_pos hx, wrap64_id (by omega) (by omega), show ((i : Int) + 1) = ((i + 1 : Nat) : Int) by omega, ih k (i + 1) (by omega) (by omega) (by omega)]
      congr 1
      exact decide_eq_decide.2 ⟨fun h => by rw [h, hx], fun h => (List.cons.inj h).2⟩
    · rw [if_neg hx, decide_eq_false (fun h => hx (List.cons.inj h).1)]
theorem agateref07_Same_s.ev (a0_0 : ByteArray) (a0_1 : Int) (l0_2 : List Int) (a0_3 : ByteArray) (a1_0 : ByteArray) (a1_1 : Int) (l1_2 : List Int) (a1_3 : ByteArray) (r) (h : agateref07_Same_s.f a0_0 a0_1 l0_2 a0_3 a1_0 a1_1 l1_2 a1_3 = some r) : ∃ k, agateref07_Same.f k a0_0 a0_1 l0_2 a0_3 a1_0 a1_1 l1_2 a1_3 = some r := by
  unfold agateref07_Same_s.f at h
  split at h
  case isFalse => cases h
  rename_i hl
  rw [← h]
  refine ⟨l0_2.length + 2, ?_⟩
  unfold agateref07_Same.f sameR
  by_cases h0 : a0_0 = a1_0
  case neg => rw [if_neg (fun e => h0 (toList_inj.1 e)), decide_eq_false (fun e => h0 e.1)]; rfl
  rw [if_pos (by rw [h0])]
  by_cases h1 : a0_1 = a1_1
  case neg => rw [if_neg h1, decide_eq_false (fun e => h1 e.2.1)]; rfl
  rw [if_pos h1]
  by_cases h3 : a0_3 = a1_3
  case neg => rw [if_neg (fun e => h3 (toList_inj.1 e)), decide_eq_false (fun e => h3 e.2.2.2)]; rfl
  rw [if_pos (by rw [h3])]
  rw [show l0_2.length + 2 = (l0_2.length + 1) + 1 from rfl]
  simp only [agateref07_Same.j0]
  by_cases he : l0_2.length = l1_2.length
  · rw [show ((l0_2.length : Int) != (l1_2.length : Int)) = false by simp [he], if_neg (by decide)]
    have := agateref07_Same_eval a0_0 a0_1 l0_2 a0_3 a1_0 a1_1 l1_2 a1_3 hl he l0_2.length (l0_2.length + 1) 0 (by omega) (by omega) (by omega)
    rw [List.drop_zero, List.drop_zero] at this
    refine this.trans ?_
    congr 1
    exact decide_eq_decide.2 ⟨fun e => ⟨h0, h1, e, h3⟩, fun e => e.2.2.1⟩
  · rw [show ((l0_2.length : Int) != (l1_2.length : Int)) = true by simp; omega, if_pos rfl, decide_eq_false (fun e => he (by rw [e.2.2.1]))]
set_option maxHeartbeats 1000000 in
theorem agateref07_Same_s.calls (a0_0 : ByteArray) (a0_1 : Int) (A0_2 : Option Addr) (c0_2 : Nat) (l0_2 : List Int) (a0_3 : ByteArray) (a1_0 : ByteArray) (a1_1 : Int) (A1_2 : Option Addr) (c1_2 : Nat) (l1_2 : List Int) (a1_3 : ByteArray) (r : Bool) (w : World) (hr0_2 : Kd.C (Kd.int .i64) w A0_2 l0_2.length l0_2) (hc0_2 : l0_2.length ≤ c0_2) (hr1_2 : Kd.C (Kd.int .i64) w A1_2 l1_2.length l1_2) (hc1_2 : l1_2.length ≤ c1_2) (h : agateref07_Same_s.f a0_0 a0_1 l0_2 a0_3 a1_0 a1_1 l1_2 a1_3 = some r) :
    Calls Try.prog 40 #[.agg #[.string a0_0, .int .i64 a0_1, .slice A0_2 l0_2.length c0_2, .string a0_3], .agg #[.string a1_0, .int .i64 a1_1, .slice A1_2 l1_2.length c1_2, .string a1_3]] w fun e w' => e = .returned (.bool r) ∧ Below w.heap.size w w' := by
  obtain ⟨k, hk⟩ := agateref07_Same_s.ev a0_0 a0_1 l0_2 a0_3 a1_0 a1_1 l1_2 a1_3 _ h
  exact agateref07_Same.calls k a0_0 a0_1 A0_2 c0_2 l0_2 a0_3 a1_0 a1_1 A1_2 c1_2 l1_2 a1_3 r w hr0_2 hc0_2 hr1_2 hc1_2 hk
end Go.Proofs.Ytpojamikfcmnoaa.X
namespace Go.Proofs.Ytpojamikfcmnoaa.X
open Go.RowKit Go.Proofs.YtpojamikfcmnoaaW.PrintWords Go.Proofs.YtpojamikfcmnoaaW.PrintLast Go.Proofs.YtpojamikfcmnoaaW.PrintMore
attribute [local go_sem] max2_int min2_int max_two min_two max_three min_three max_four min_four
set_option linter.unusedVariables false
set_option linter.unusedSimpArgs false
open Go.ChangeShapes Go.WideShapes
structure Opens {H : Type} (enc : TypeId × Value → H) (P : Program) (W : World) (t : TypeId) {α : Type} (d : Kd α) (wf : α → Prop) : Prop where
  cells : P.cellsOf t = d.sz
  go : ∀ (fuel : Nat) (cs : List Value) (x : DataW H × List MemPlace), DataW.trod enc P W 0 (fun _ => true) true fuel t cs = some x →
    (∀ n ∈ DataW.weights P t x.1, n ≤ reachBytes) → ∃ a, d.K W a cs ∧ wf a
theorem Opens.int {H : Type} {enc : TypeId × Value → H} {P : Program} {W : World} {t : TypeId} {k : IntKind} (ht : P.underlying t = some (.int k)) (hc : P.cellsOf t = 1) :
    Opens enc P W t (Kd.int k) (fun a => (Lit.int k a).wf = true) := by
  refine ⟨hc, fun fuel cs x h _ => ?_⟩
  obtain ⟨n, rfl, _, hw⟩ := DataW.trod_int ht h
  exact ⟨n, rfl, hw⟩
theorem Opens.bool {H : Type} {enc : TypeId × Value → H} {P : Program} {W : World} {t : TypeId} (ht : P.underlying t = some .bool) (hc : P.cellsOf t = 1) :
    Opens enc P W t Kd.bool (fun _ => True) := by
  refine ⟨hc, fun fuel cs x h _ => ?_⟩
  obtain ⟨b, rfl, _⟩ := DataW.trod_bool ht h
  exact ⟨b, rfl, trivial⟩
theorem Opens.string {H : Type} {enc : TypeId × Value → H} {P : Program} {W : World} {t : TypeId} (ht : P.underlying t = some .string) (hc : P.cellsOf t = 1) :
    Opens enc P W t Kd.string (fun a => a.size ≤ 140737488351232) := by
  refine ⟨hc, fun fuel cs x h hw => ?_⟩
  obtain ⟨s, rfl, rfl, _⟩ := DataW.trod_string ht h
  refine ⟨s, rfl, ?_⟩
  have := hw s.data.toList.length (by simp [DataW.weights])
  rw [Array.length_toList] at this
  exact this
theorem weights_all_mem {H : Type} {P : Program} {e : TypeId} : ∀ {l : List (DataW H)} {y : DataW H}, y ∈ l → ∀ n ∈ DataW.weights P e y, n ∈ DataW.weightsAll P e l
  | d :: r, y, hy, n, hn => by
    simp only [DataW.weightsAll, List.mem_append]
    rcases List.mem_cons.1 hy with rfl | hy
    · exact .inl hn
    · exact .inr (weights_all_mem hy n hn)
theorem Opens.slice {H : Type} {enc : TypeId × Value → H} {P : Program} {W : World} {t e : TypeId} {α : Type} {d : Kd α} {wf : α → Prop} {B : Nat} (ht : P.underlying t = some (.slice e)) (hc : P.cellsOf t = 1) (hB : P.bytesOf e = B)
    (he : Opens enc P W e d wf) :
    Opens enc P W t (Kd.slice e d) (fun l => l.length ≤ maxLen ∧ l.length * B ≤ 140737488351232 ∧ ∀ x ∈ l, wf x) := by
  refine ⟨hc, fun fuel cs x h hw => ?_⟩
  rcases DataW.trod_slice ht h with ⟨rfl, rfl⟩ | ⟨a, len, cap, elems, rest, n, _, rfl, rfl, hb, hl, hm, hlen, hel, hsp, hns⟩
  · exact ⟨[], ⟨none, 0, rfl, Nat.le_refl _, rfl, Nat.zero_le _, fun h => absurd h (Nat.lt_irrefl 0)⟩, by simp, by simp, by simp⟩
  · have hwe : ∀ y ∈ elems, ∀ n ∈ DataW.weights P e y.1, n ≤ reachBytes := by
      intro y hy n hn
      refine hw n ?_
      simp only [DataW.weights, ht, List.mem_cons, List.mem_append]
      exact .inr (.inl (weights_all_mem (List.mem_map_of_mem hy) n hn))
    have hsize : (elems.length + rest.length) * P.bytesOf e ≤ reachBytes := by
      have := hw ((elems.length + rest.length) * P.bytesOf e) (by simp [DataW.weights, ht])
      exact this
    have each : ∀ i, i < len → ∃ y c, W.cells? 0 (a.add (i * P.cellsOf e)) (P.cellsOf e) = some c ∧ d.K W y c ∧ wf y := by
      intro i hi
      have h1 := hel i hi
      have h2 : elems[i]? = some elems[i] := List.getElem?_eq_getElem (by omega)
      rw [h2, Option.bind_eq_some_iff] at h1
      obtain ⟨c, hcs, hy⟩ := h1
      obtain ⟨y, hk, hwf⟩ := he.go n c _ hy (hwe _ (List.getElem_mem _))
      exact ⟨y, c, hcs, hk, hwf⟩
    obtain ⟨l, hll, hlp⟩ : ∃ l : List α, l.length = len ∧ ∀ i p, l[i]? = some p → ∃ c, W.cells? 0 (a.add (i * P.cellsOf e)) (P.cellsOf e) = some c ∧ d.K W p c ∧ wf p := by
      clear hel h hw hwe hsize hlen hl hsp hns hm hb ht hc
      induction len with
      | zero => exact ⟨[], rfl, by simp⟩
      | succ m ih =>
        obtain ⟨l, hll, hlp⟩ := ih (fun i hi => each i (by omega))
        obtain ⟨y, c, hcs, hk, hwf⟩ := each m (by omega)
        refine ⟨l ++ [y], by simp [hll], fun i p hp => ?_⟩
        rcases Nat.lt_or_ge i l.length with hi | hi
        · rw [List.getElem?_append_left hi] at hp
          exact hlp i p hp
        · rw [List.getElem?_append_right hi] at hp
          obtain ⟨h0, rfl⟩ : i - l.length = 0 ∧ y = p := by
            rcases hq : i - l.length with _ | q
            · rw [hq] at hp; simpa using hp
            · rw [hq] at hp; simp at hp
          obtain rfl : i = m := by omega
          exact ⟨c, hcs, hk, hwf⟩
    subst hll
    refine ⟨l, ⟨some a, cap, rfl, hl, rfl, by unfold maxLen at hm; omega, fun _ => ⟨a, rfl, fun j p hp => ?_⟩⟩, by omega, ?_, ?_⟩
    · obtain ⟨c, hcs, hk, _⟩ := hlp j p hp
      have hclen := (World.cells?_some hcs).2.1
      refine ⟨c, by rw [hclen, he.cells], hk, fun i u hu => ?_⟩
      have hi : i < P.cellsOf e := by have := (List.getElem?_eq_some_iff.1 hu).1; omega
      have := (World.cells?_some hcs).2.2 i hi
      rw [hu, Addr.add_add] at this
      rw [← he.cells]
      exact this
    · rw [hB] at hsize
      have : l.length * B ≤ (elems.length + rest.length) * B := Nat.mul_le_mul_right _ (by omega)
      exact Nat.le_trans this hsize
    · intro x hx
      obtain ⟨i, hi⟩ := List.getElem?_of_mem hx
      obtain ⟨c, _, _, hwf⟩ := hlp i x hi
      exact hwf
structure OpensF {H : Type} (enc : TypeId × Value → H) (P : Program) (W : World) (fs : List Field) (off : Nat) {α : Type} (d : Kd α) (wf : α → Prop) : Prop where
  go : ∀ (n : Nat) (cs : List Value) (xs : List (DataW H × List MemPlace)), cs.length = off + d.sz →
    (∀ (i : Nat) (f : Field), fs[i]? = some f → DataW.trod enc P W 0 (fun _ => true) true n f.type ((cs.drop f.offset).take (P.cellsOf f.type)) = xs[i]?) → xs.length = fs.length →
    (∀ n ∈ DataW.weightsEach P (fs.map (·.type)) (xs.map (·.1)), n ≤ reachBytes) → ∃ a, d.K W a (cs.drop off) ∧ wf a
theorem OpensF.one {H : Type} {enc : TypeId × Value → H} {P : Program} {W : World} {f : Field} {off : Nat} {α : Type} {d : Kd α} {wf : α → Prop} (ho : f.offset = off) (h : Opens enc P W f.type d wf) :
    OpensF enc P W [f] off d wf := by
  refine ⟨fun n cs xs hl hx hxl hw => ?_⟩
  obtain ⟨x, rfl⟩ : ∃ x, xs = [x] := by
    match xs, hxl with
    | [x], _ => exact ⟨x, rfl⟩
  have h1 := hx 0 f rfl
  rw [ho, List.take_of_length_le (by rw [List.length_drop, h.cells]; omega)] at h1
  exact h.go n _ x h1 (fun m hm => hw m (by simp [DataW.weightsEach, hm]))
theorem OpensF.more {H : Type} {enc : TypeId × Value → H} {P : Program} {W : World} {f : Field} {fs : List Field} {off : Nat} {α β : Type} {d : Kd α} {e : Kd β} {wf : α → Prop} {wg : β → Prop} (ho : f.offset = off) (h : Opens enc P W f.type d wf)
    (hs : OpensF enc P W fs (off + d.sz) e wg) : OpensF enc P W (f :: fs) off (Kd.pair d e) (fun a => wf a.1 ∧ wg a.2) := by
  refine ⟨fun n cs xs hl hx hxl hw => ?_⟩
  obtain ⟨x, xs, rfl⟩ : ∃ x ys, xs = x :: ys := by
    match xs, hxl with
    | x :: ys, _ => exact ⟨x, ys, rfl⟩
  have hsz : (Kd.pair d e).sz = d.sz + e.sz := rfl
  have h1 := hx 0 f rfl
  rw [ho, h.cells] at h1
  obtain ⟨a, hk, hwf⟩ := h.go n _ x h1 (fun m hm => hw m (by simp [DataW.weightsEach, hm]))
  obtain ⟨b, hk2, hwg⟩ := hs.go n cs xs (by omega) (fun i g hg => hx (i + 1) g (by simpa using hg)) (by simpa using hxl) (fun m hm => hw m (by simp [DataW.weightsEach, hm]))
  refine ⟨(a, b), ⟨_, _, ?_, hk, hk2⟩, hwf, hwg⟩
  rw [← List.drop_drop, List.take_append_drop]
theorem Opens.struct {H : Type} {enc : TypeId × Value → H} {P : Program} {W : World} {t : TypeId} {fs : Array Field} {α β : Type} {d : Kd α} {wf : α → Prop} {f : β → α} (mk : α → β) (hmk : ∀ a, f (mk a) = a) (ht : P.underlying t = some (.struct fs))
    (hc : P.cellsOf t = d.sz) (h : OpensF enc P W fs.toList 0 d wf) : Opens enc P W t (Kd.iso d f) (fun b => wf (f b)) := by
  refine ⟨hc, fun fuel cs x hx hw => ?_⟩
  obtain ⟨xs, n, _, rfl, hl, hxl, hf⟩ := DataW.trod_struct ht hx
  obtain ⟨a, hk, hwf⟩ := h.go n cs xs (by rw [hl, hc]; omega) (fun i g hg => hf i g (by simpa using hg)) (by simpa using hxl) (fun m hm => hw m (by simpa [DataW.weights, ht] using hm))
  refine ⟨mk a, ?_, by rw [hmk]; exact hwf⟩
  show d.K W (f (mk a)) cs
  rw [hmk]
  simpa using hk
end Go.Proofs.Ytpojamikfcmnoaa.X
namespace Go.Proofs.Ytpojamikfcmnoaa.X
open Go.RowKit Go.Proofs.YtpojamikfcmnoaaW.PrintWords Go.Proofs.YtpojamikfcmnoaaW.PrintLast Go.Proofs.YtpojamikfcmnoaaW.PrintMore
attribute [local go_sem] max2_int min2_int max_two min_two max_three min_three max_four min_four
set_option linter.unusedVariables false
set_option linter.unusedSimpArgs false
def wf62 (b : S62) : Prop := (fun p : (ByteArray) × (Int) × (List Int) × (ByteArray) => (fun a => a.size ≤ 140737488351232) p.1 ∧ ((fun a => (Lit.int .i64 a).wf = true) p.2.1 ∧ ((fun l => l.length ≤ maxLen ∧ l.length * 8 ≤ 140737488351232 ∧ ∀ x ∈ l, (fun a => (Lit.int .i64 a).wf = true) x) p.2.2.1 ∧ ((fun a => a.size ≤ 140737488351232) p.2.2.2)))) (b.f0, b.f1, b.f2, b.f3)
theorem op62 {H : Type} (enc : TypeId × Value → H) (W : World) : Opens enc Try.prog W 62 k62 wf62 :=
  Opens.struct (fun p => ⟨p.1, p.2.1, p.2.2.1, p.2.2.2⟩) (fun _ => rfl) Try.underlying62 (by kernel_rfl) (OpensF.more rfl (Opens.string Try.underlying9 (by kernel_rfl)) (OpensF.more rfl (Opens.int Try.underlying60 (by kernel_rfl)) (OpensF.more rfl (Opens.slice Try.underlying39 (by kernel_rfl) (by kernel_rfl) (Opens.int Try.underlying2 (by kernel_rfl))) (OpensF.one rfl (Opens.string Try.underlying9 (by kernel_rfl))))))
end Go.Proofs.Ytpojamikfcmnoaa.X
namespace Go.Proofs.Ytpojamikfcmnoaa.X
open Go.RowKit Go.Proofs.YtpojamikfcmnoaaW.PrintWords Go.Proofs.YtpojamikfcmnoaaW.PrintLast Go.Proofs.YtpojamikfcmnoaaW.PrintMore
attribute [local go_sem] max2_int min2_int max_two min_two max_three min_three max_four min_four
set_option linter.unusedVariables false
set_option linter.unusedSimpArgs false
attribute [local go_sem] ceq_fold
mutual
def agatelaw07_TensorTells.j0 : Nat → Int → Bool → ByteArray → Int → List Int → ByteArray → ByteArray → Int → List Int → ByteArray → Option (Bool)
 | 0, _, _, _, _, _, _, _, _, _, _ => none
 | k + 1, x2, x54, x102000, x102001, x102002, x102003, x103000, x103001, x103002, x103003 => if x54 = true then ((agatelaw07_Awake.f).bind fun t122 => (some t122)) else ((agatelaw07_Of.f x102000 x102001 x102002 x102003).bind fun bt137 => ((agatelaw07_Of.f x103000 x103001 x103002 x103003).bind fun bt140 => ((agateref07_Check_s.f bt137.1 bt137.2.1 x102002 bt137.2.2).bind fun t145 => ((tensor_Tensor_Check_s.f x102000 x102001 x102002 x102003).bind fun t146 => (if t146 = t145 then ((tensor_Tensor_Same.f x102000 x102001 x102002 x102003 x103000 x103001 x103002 x103003).bind fun t147 => ((agateref07_Same_s.f bt137.1 bt137.2.1 x102002 bt137.2.2 bt140.1 bt140.2.1 x103002 bt140.2.2).bind fun t148 => (if (t147 != t148) = true then (none) else ((tensor_Name_s.f x102000).bind fun t149 => ((agateref07_Name_s.f x102000).bind fun t150 => (if (t149 != t150) = true then (none) else ((agateref04_Size_s.f bt137.2.1).bind fun t153 => (if t153 > 0 then (if x2 ≥ 0 then (if t153 = 0 then (none) else (agatelaw07_TensorTells.j1 k x2 t145 t153 (⟨#[]⟩ : ByteArray) (decide (x2 < (wrap64 ((x102003.size : Int) / t153)))) x102000 x102001 x102002 x102003 bt137.1 bt137.2.1 x102002 bt137.2.2)) else (agatelaw07_TensorTells.j1 k x2 t145 t153 (⟨#[]⟩ : ByteArray) false x102000 x102001 x102002 x102003 bt137.1 bt137.2.1 x102002 bt137.2.2)) else (agatelaw07_TensorTells.j1 k x2 t145 t153 (⟨#[]⟩ : ByteArray) false x102000 x102001 x102002 x102003 bt137.1 bt137.2.1 x102002 bt137.2.2))))))))) else (none))))))
def agatelaw07_TensorTells.j1 : Nat → Int → Int → Int → ByteArray → Bool → ByteArray → Int → List Int → ByteArray → ByteArray → Int → List Int → ByteArray → Option (Bool)
 | 0, _, _, _, _, _, _, _, _, _, _, _, _, _ => none
 | k + 1, x2, x9, x10, x11, x101, x102000, x102001, x102002, x102003, x144000, x144001, x144002, x144003 => if x101 = true then (if 0 ≤ (wrap64 (x2 * x10)) then (if (wrap64 (x2 * x10)) ≤ (wrap64 ((wrap64 (x2 * x10)) + x10)) then (if (wrap64 ((wrap64 (x2 * x10)) + x10)) ≤ (x102003.size : Int) then (agatelaw07_TensorTells.j2 k x2 x9 (x102003.extract ((wrap64 (x2 * x10)) : Int).toNat ((wrap64 ((wrap64 (x2 * x10)) + x10)) : Int).toNat) x102000 x102001 x102002 x102003 x144000 x144001 x144002 x144003) else (none)) else (none)) else (none)) else (agatelaw07_TensorTells.j2 k x2 x9 x11 x102000 x102001 x102002 x102003 x144000 x144001 x144002 x144003)
def agatelaw07_TensorTells.j2 : Nat → Int → Int → ByteArray → ByteArray → Int → List Int → ByteArray → ByteArray → Int → List Int → ByteArray → Option (Bool)
 | 0, _, _, _, _, _, _, _, _, _, _, _ => none
 | k + 1, x2, x9, x11, x102000, x102001, x102002, x102003, x144000, x144001, x144002, x144003 => (tensor_Tensor_Elem.f x102000 x102001 x102002 x102003 x2).bind fun t195 => (if t195.toList = x11.toList then ((tensor_Tensor_Ints.f x102000 x102001 x102002 x102003).bind fun bt211 => ((tensor_Tensor_Flags.f x102000 x102001 x102002 x102003).bind fun bt215 => ((tensor_Tensor_Nums.f x102000 x102001 x102002 x102003).bind fun bt219 => ((some (([bt211.2, bt215.2, bt219.2] : List Int) : List Int)).bind fun y223 => (agatelaw07_TensorTells.l0 k x9 bt211.1 bt211.2 bt215.1 bt215.2 bt219.1 bt219.2 y223 (y223.length : Int) 0 x102000 x102001 x102002 x102003 x144000 x144001 x144002 x144003))))) else (none))
def agatelaw07_TensorTells.l0 : Nat → Int → List Int → Int → List Bool → Int → List (Nat × Nat) → Int → List Int → Int → Int → ByteArray → Int → List Int → ByteArray → ByteArray → Int → List Int → ByteArray → Option (Bool)
 | 0, _, _, _, _, _, _, _, _, _, _, _, _, _, _, _, _, _, _ => none
 | k + 1, x9, x12, x13, x14, x15, x16, x17, x136, x137, x138, x102000, x102001, x102002, x102003, x144000, x144001, x144002, x144003 => if x138 < x137 then (if 0 ≤ x138 then (if x138 < (x136.length : Int) then ((some (([7, 9, 14] : List Int) : List Int)).bind fun y232 => (if x138 < (y232.length : Int) then (if x9 = 0 then (if x144001 = (rd y232 x138) then (if (rd x136 x138) = 0 then (if (x144001 = (rd y232 x138)) then (agatelaw07_TensorTells.j4 k x9 x12 x13 x14 x15 x16 x17 x136 x137 x138 false x102000 x102001 x102002 x102003 x144000 x144001 x144002 x144003) else (agatelaw07_TensorTells.j4 k x9 x12 x13 x14 x15 x16 x17 x136 x137 x138 ((rd x136 x138) != 13) x102000 x102001 x102002 x102003 x144000 x144001 x144002 x144003)) else (none)) else (if (x144001 = (rd y232 x138)) then (agatelaw07_TensorTells.j4 k x9 x12 x13 x14 x15 x16 x17 x136 x137 x138 false x102000 x102001 x102002 x102003 x144000 x144001 x144002 x144003) else (agatelaw07_TensorTells.j4 k x9 x12 x13 x14 x15 x16 x17 x136 x137 x138 ((rd x136 x138) != 13) x102000 x102001 x102002 x102003 x144000 x144001 x144002 x144003))) else (if (rd x136 x138) = x9 then (agatelaw07_TensorTells.j4 k x9 x12 x13 x14 x15 x16 x17 x136 x137 x138 false x102000 x102001 x102002 x102003 x144000 x144001 x144002 x144003) else (none))) else (none))) else (none)) else (none)) else (if x13 = 0 then ((agateref07_Ints_s.f x144000 x144001 x144002 x144003).bind fun t240 => ((agatelaw03_Ints_s.f x12 t240).bind fun t243 => (if t243 = true then (if x15 = 0 then (if (x14.length : Int) = (x102003.size : Int) then (if x17 = 0 then (agatelaw07_TensorTells.j5 k x12 x13 x14 x15 x16 x17 ((wrap64 (8 * (x16.length : Int))) != (x102003.size : Int)) x102000 x102001 x102002 x102003) else (agatelaw07_TensorTells.j5 k x12 x13 x14 x15 x16 x17 false x102000 x102001 x102002 x102003)) else (none)) else (if x17 = 0 then (agatelaw07_TensorTells.j5 k x12 x13 x14 x15 x16 x17 ((wrap64 (8 * (x16.length : Int))) != (x102003.size : Int)) x102000 x102001 x102002 x102003) else (agatelaw07_TensorTells.j5 k x12 x13 x14 x15 x16 x17 false x102000 x102001 x102002 x102003))) else (none)))) else (if x15 = 0 then (if (x14.length : Int) = (x102003.size : Int) then (if x17 = 0 then (agatelaw07_TensorTells.j5 k x12 x13 x14 x15 x16 x17 ((wrap64 (8 * (x16.length : Int))) != (x102003.size : Int)) x102000 x102001 x102002 x102003) else (agatelaw07_TensorTells.j5 k x12 x13 x14 x15 x16 x17 false x102000 x102001 x102002 x102003)) else (none)) else (if x17 = 0 then (agatelaw07_TensorTells.j5 k x12 x13 x14 x15 x16 x17 ((wrap64 (8 * (x16.length : Int))) != (x102003.size : Int)) x102000 x102001 x102002 x102003) else (agatelaw07_TensorTells.j5 k x12 x13 x14 x15 x16 x17 false x102000 x102001 x102002 x102003))))
def agatelaw07_TensorTells.j4 : Nat → Int → List Int → Int → List Bool → Int → List (Nat × Nat) → Int → List Int → Int → Int → Bool → ByteArray → Int → List Int → ByteArray → ByteArray → Int → List Int → ByteArray → Option (Bool)
 | 0, _, _, _, _, _, _, _, _, _, _, _, _, _, _, _, _, _, _, _ => none
 | k + 1, x9, x12, x13, x14, x15, x16, x17, x136, x137, x138, x179, x102000, x102001, x102002, x102003, x144000, x144001, x144002, x144003 => if x179 = true then (none) else (agatelaw07_TensorTells.l0 k x9 x12 x13 x14 x15 x16 x17 x136 x137 (wrap64 (x138 + 1)) x102000 x102001 x102002 x102003 x144000 x144001 x144002 x144003)
def agatelaw07_TensorTells.j5 : Nat → List Int → Int → List Bool → Int → List (Nat × Nat) → Int → Bool → ByteArray → Int → List Int → ByteArray → Option (Bool)
 | 0, _, _, _, _, _, _, _, _, _, _, _ => none
 | k + 1, x12, x13, x14, x15, x16, x17, x214, x102000, x102001, x102002, x102003 => if x214 = true then (none) else (agatelaw07_TensorTells.l1 k x12 x13 x14 x15 x16 x17 x14 (x14.length : Int) 0 x102000 x102001 x102002 x102003)
def agatelaw07_TensorTells.l1 : Nat → List Int → Int → List Bool → Int → List (Nat × Nat) → Int → List Bool → Int → Int → ByteArray → Int → List Int → ByteArray → Option (Bool)
 | 0, _, _, _, _, _, _, _, _, _, _, _, _, _ => none
 | k + 1, x12, x13, x14, x15, x16, x17, x215, x216, x217, x102000, x102001, x102002, x102003 => if x217 < x216 then (if 0 ≤ x217 then (if x217 < (x215.length : Int) then (if x217 < (x102003.size : Int) then (if ((rdOf false x215 x217) != ((bt x102003 x217) == 1)) = true then (none) else (agatelaw07_TensorTells.l1 k x12 x13 x14 x15 x16 x17 x215 x216 (wrap64 (x217 + 1)) x102000 x102001 x102002 x102003)) else (none)) else (none)) else (none)) else (agatelaw07_TensorTells.l2 k x12 x13 x14 x15 x16 x17 x16 (x16.length : Int) 0 x102000 x102001 x102002 x102003)
def agatelaw07_TensorTells.l2 : Nat → List Int → Int → List Bool → Int → List (Nat × Nat) → Int → List (Nat × Nat) → Int → Int → ByteArray → Int → List Int → ByteArray → Option (Bool)
 | 0, _, _, _, _, _, _, _, _, _, _, _, _, _ => none
 | k + 1, x12, x13, x14, x15, x16, x17, x230, x231, x232, x102000, x102001, x102002, x102003 => if x232 < x231 then (if 0 ≤ x232 then (if x232 < (x230.length : Int) then (if 0 ≤ (wrap64 (8 * x232)) then (if (wrap64 (8 * x232)) ≤ (wrap64 ((wrap64 (8 * x232)) + 8)) then (if (wrap64 ((wrap64 (8 * x232)) + 8)) ≤ (x102003.size : Int) then ((agateref06_Read_s.f (x102003.extract ((wrap64 (8 * x232)) : Int).toNat ((wrap64 ((wrap64 (8 * x232)) + 8)) : Int).toNat)).bind fun bt253 => ((agatelaw06_OfX.f bt253.1 bt253.2.1).bind fun t257 => (if (ceq (rdOf ((0, 0) : Nat × Nat) x230 x232) t257 = true) then (agatelaw07_TensorTells.l2 k x12 x13 x14 x15 x16 x17 x230 x231 (wrap64 (x232 + 1)) x102000 x102001 x102002 x102003) else (none)))) else (none)) else (none)) else (none)) else (none)) else (none)) else ((agatelaw07_Awake.f).bind fun t259 => (if t259 = true then (if x13 = 0 then (if x15 = 0 then (if x17 = 0 then (some true) else (some ((x16.length : Int) == 0))) else (if (x14.length : Int) = 0 then (if x17 = 0 then (some true) else (some ((x16.length : Int) == 0))) else (none))) else (if (x12.length : Int) = 0 then (if x15 = 0 then (if x17 = 0 then (some true) else (some ((x16.length : Int) == 0))) else (if (x14.length : Int) = 0 then (if x17 = 0 then (some true) else (some ((x16.length : Int) == 0))) else (none))) else (none))) else (none)))
end
def agatelaw07_TensorTells.f (k : Nat) (a0_0 : ByteArray) (a0_1 : Int) (l0_2 : List Int) (a0_3 : ByteArray) (a1_0 : ByteArray) (a1_1 : Int) (l1_2 : List Int) (a1_3 : ByteArray) (a2 : Int) : Option (Bool) := if (a0_3.size : Int) > 4000 then (agatelaw07_TensorTells.j0 k a2 true a0_0 a0_1 l0_2 a0_3 a1_0 a1_1 l1_2 a1_3) else (if (a1_3.size : Int) > 4000 then (agatelaw07_TensorTells.j0 k a2 true a0_0 a0_1 l0_2 a0_3 a1_0 a1_1 l1_2 a1_3) else (if (l0_2.length : Int) > 20 then (agatelaw07_TensorTells.j0 k a2 true a0_0 a0_1 l0_2 a0_3 a1_0 a1_1 l1_2 a1_3) else (if (l1_2.length : Int) > 20 then (agatelaw07_TensorTells.j0 k a2 true a0_0 a0_1 l0_2 a0_3 a1_0 a1_1 l1_2 a1_3) else (agatelaw07_TensorTells.j0 k a2 (decide ((a0_0.size : Int) > 200)) a0_0 a0_1 l0_2 a0_3 a1_0 a1_1 l1_2 a1_3))))
def agatelaw07_TensorTells.T3 : Bool × List (List Nat × List Nat) := (true, [([], []), ([0], [0]), ([], []), ([2, 1], [2]), ([], []), ([], []), ([4, 1, 3, 0, 1, 4, 5], [1, 4]), ([5, 3, 6, 0, 1, 2, 3, 4, 5, 6], [3, 5])])
def agatelaw07_TensorTells.B3 : List Nat := [0, 1, 0, 7, 0, 0, 63, 127]
theorem agatelaw07_TensorTells.tab3 : rtab .any (opsOf Try.f9 3) = agatelaw07_TensorTells.T3 := by kernel_rfl
theorem agatelaw07_TensorTells.bits3 : waitsOk agatelaw07_TensorTells.T3.2 agatelaw07_TensorTells.B3 = true := by kernel_rfl
def agatelaw07_TensorTells.T5 : Bool × List (List Nat × List Nat) := (true, [([], []), ([0], [0]), ([], []), ([1, 2], [1, 2]), ([3, 1], [3]), ([4], [4]), ([4], [4]), ([5, 6, 4, 4], [4, 5, 6]), ([4], [4]), ([4], [4]), ([8, 9, 7, 4], [4, 8, 9]), ([7, 10, 4], [4, 7, 10]), ([4, 11], [4, 11]), ([12, 10], [12]), ([13], [13]), ([14, 13], [13, 14]), ([15, 13, 13], [13, 15]), ([13], [13]), ([17, 13], [13, 17]), ([18, 16, 13], [13, 18]), ([16, 19, 13], [13, 16, 19]), ([13, 20], [13, 20])])
def agatelaw07_TensorTells.B5 : List Nat := [0, 1, 0, 7, 15, 31, 31, 127, 31, 31, 1023, 2047, 4095, 8191, 16383, 32767, 65535, 16383, 147455, 524287, 1048575, 2097151]
theorem agatelaw07_TensorTells.tab5 : rtab .any (opsOf Try.f9 5) = agatelaw07_TensorTells.T5 := by kernel_rfl
theorem agatelaw07_TensorTells.bits5 : waitsOk agatelaw07_TensorTells.T5.2 agatelaw07_TensorTells.B5 = true := by kernel_rfl
def agatelaw07_TensorTells.T19 : Bool × List (List Nat × List Nat) := (true, [([], []), ([0], [0]), ([], []), ([], []), ([2, 3], [2, 3]), ([4], [4]), ([1, 5], [1, 5]), ([6, 0, 1, 2, 3, 4, 5, 6], [6])])
def agatelaw07_TensorTells.B19 : List Nat := [0, 1, 0, 0, 12, 28, 63, 127]
theorem agatelaw07_TensorTells.tab19 : rtab .any (opsOf Try.f9 19) = agatelaw07_TensorTells.T19 := by kernel_rfl
theorem agatelaw07_TensorTells.bits19 : waitsOk agatelaw07_TensorTells.T19.2 agatelaw07_TensorTells.B19 = true := by kernel_rfl
def agatelaw07_TensorTells.Pure : Prop := ∀ (x0 : S62) (x1 : S62) (x2 : Int), wf62 x0 → wf62 x1 → (fun a => (Lit.int .i64 a).wf = true) x2 → ∃ k, agatelaw07_TensorTells.f k (x0.f0) (x0.f1) (x0.f2) (x0.f3) (x1.f0) (x1.f1) (x1.f2) (x1.f3) x2 = some true
end Go.Proofs.Ytpojamikfcmnoaa.X
