import Derived.Test.YtohddbiedabmhaaMWireWrites0
import Derived.ChangeSlices
import Derived.SizedLaws
import Derived.ProofKit
import Derived.OpenShut
import Derived.ShutString
import Derived.ChangeOld
import Derived.Test.YtohddbiedabmhaaMWireWrites6
import Derived.Test.YtohddbiedabmhaaMWireWrites7
import Derived.Test.YtohddbiedabmhaaMWireWrites9
import Derived.Test.YtohddbiedabmhaaMWireWrites5
-- by xprint.py, a program of this session, over the kit's print.py
namespace Go.Proofs.Ytohddbiedabmhaa.X
open Go.RowKit Go.Proofs.YtohddbiedabmhaaW.PrintWords Go.Proofs.YtohddbiedabmhaaW.PrintLast Go.Proofs.YtohddbiedabmhaaW.PrintMore
attribute [local go_sem] max2_int min2_int max_two min_two max_three min_three max_four min_four   -- for this text's walks alone
set_option linter.unusedVariables false
set_option linter.unusedSimpArgs false

/-! What data read at a type says of a kind: scalars, slices, structs. -/
open Go.ChangeShapes Go.WideShapes
/-- what is read at type t is of the kind d, and is well formed -/
structure Opens {H : Type} (enc : TypeId × Value → H) (P : Program) (W : World) (t : TypeId) {α : Type} (d : Kd α) (wf : α → Prop) : Prop where
  cells : P.cellsOf t = d.sz
  go : ∀ (fuel : Nat) (cs : List Value) (x : DataW H × List MemPlace), DataW.trod enc P W 0 (fun _ => true) true fuel t cs = some x →
    (∀ n ∈ DataW.weights P t x.1, n ≤ reachBytes) → ∃ a, d.K W a cs ∧ wf a
theorem Opens.int {H : Type} {enc : TypeId × Value → H} {P : Program} {W : World} {t : TypeId} {k : IntKind} (ht : P.underlying t = some (.int k)) (hc : P.cellsOf t = 1) :
    Opens enc P W t (Kd.int k) (fun a => (Lit.int k a).wf = true) := by
  refine ⟨hc, fun fuel cs x h _ => ?_⟩
  obtain ⟨n, rfl, _, hw⟩ := DataW.trod_int ht h
  exact ⟨n, rfl, hw⟩
theorem Opens.bool {H : Type} {enc : TypeId × Value → H} {P : Program} {W : World} {t : TypeId} (ht : P.underlying t = some .bool) (hc : P.cellsOf t = 1) :
    Opens enc P W t Kd.bool (fun _ => True) := by
  refine ⟨hc, fun fuel cs x h _ => ?_⟩
  obtain ⟨b, rfl, _⟩ := DataW.trod_bool ht h
  exact ⟨b, rfl, trivial⟩
theorem Opens.string {H : Type} {enc : TypeId × Value → H} {P : Program} {W : World} {t : TypeId} (ht : P.underlying t = some .string) (hc : P.cellsOf t = 1) :
    Opens enc P W t Kd.string (fun a => a.size ≤ 140737488351232) := by
  refine ⟨hc, fun fuel cs x h hw => ?_⟩
  obtain ⟨s, rfl, rfl, _⟩ := DataW.trod_string ht h
  refine ⟨s, rfl, ?_⟩
  have := hw s.data.toList.length (by simp [DataW.weights])
  rw [Array.length_toList] at this
  exact this
theorem weights_all_mem {H : Type} {P : Program} {e : TypeId} : ∀ {l : List (DataW H)} {y : DataW H}, y ∈ l → ∀ n ∈ DataW.weights P e y, n ∈ DataW.weightsAll P e l
  | d :: r, y, hy, n, hn => by
    simp only [DataW.weightsAll, List.mem_append]
    rcases List.mem_cons.1 hy with rfl | hy
    · exact .inl hn
    · exact .inr (weights_all_mem hy n hn)
theorem Opens.slice {H : Type} {enc : TypeId × Value → H} {P : Program} {W : World} {t e : TypeId} {α : Type} {d : Kd α} {wf : α → Prop} {B : Nat} (ht : P.underlying t = some (.slice e)) (hc : P.cellsOf t = 1) (hB : P.bytesOf e = B)
    (he : Opens enc P W e d wf) :
    Opens enc P W t (Kd.slice e d) (fun l => l.length ≤ maxLen ∧ l.length * B ≤ 140737488351232 ∧ ∀ x ∈ l, wf x) := by
  refine ⟨hc, fun fuel cs x h hw => ?_⟩
  rcases DataW.trod_slice ht h with ⟨rfl, rfl⟩ | ⟨a, len, cap, elems, rest, n, _, rfl, rfl, hb, hl, hm, hlen, hel, hsp, hns⟩
  · exact ⟨[], ⟨none, 0, rfl, Nat.le_refl _, rfl, Nat.zero_le _, fun h => absurd h (Nat.lt_irrefl 0)⟩, by simp, by simp, by simp⟩
  · have hwe : ∀ y ∈ elems, ∀ n ∈ DataW.weights P e y.1, n ≤ reachBytes := by
      intro y hy n hn
      refine hw n ?_
      simp only [DataW.weights, ht, List.mem_cons, List.mem_append]
      exact .inr (.inl (weights_all_mem (List.mem_map_of_mem hy) n hn))
    have hsize : (elems.length + rest.length) * P.bytesOf e ≤ reachBytes := by
      have := hw ((elems.length + rest.length) * P.bytesOf e) (by simp [DataW.weights, ht])
      exact this
    have each : ∀ i, i < len → ∃ y c, W.cells? 0 (a.add (i * P.cellsOf e)) (P.cellsOf e) = some c ∧ d.K W y c ∧ wf y := by
      intro i hi
      have h1 := hel i hi
      have h2 : elems[i]? = some elems[i] := List.getElem?_eq_getElem (by omega)
      rw [h2, Option.bind_eq_some_iff] at h1
      obtain ⟨c, hcs, hy⟩ := h1
      obtain ⟨y, hk, hwf⟩ := he.go n c _ hy (hwe _ (List.getElem_mem _))
      exact ⟨y, c, hcs, hk, hwf⟩
    obtain ⟨l, hll, hlp⟩ : ∃ l : List α, l.length = len ∧ ∀ i p, l[i]? = some p → ∃ c, W.cells? 0 (a.add (i * P.cellsOf e)) (P.cellsOf e) = some c ∧ d.K W p c ∧ wf p := by
      clear hel h hw hwe hsize hlen hl hsp hns hm hb ht hc
      induction len with
      | zero => exact ⟨[], rfl, by simp⟩
      | succ m ih =>
        obtain ⟨l, hll, hlp⟩ := ih (fun i hi => each i (by omega))
        obtain ⟨y, c, hcs, hk, hwf⟩ := each m (by omega)
        refine ⟨l ++ [y], by simp [hll], fun i p hp => ?_⟩
        rcases Nat.lt_or_ge i l.length with hi | hi
        · rw [List.getElem?_append_left hi] at hp
          exact hlp i p hp
        · rw [List.getElem?_append_right hi] at hp
          obtain ⟨h0, rfl⟩ : i - l.length = 0 ∧ y = p := by
            rcases hq : i - l.length with _ | q
            · rw [hq] at hp; simpa using hp
            · rw [hq] at hp; simp at hp
          obtain rfl : i = m := by omega
          exact ⟨c, hcs, hk, hwf⟩
    subst hll
    refine ⟨l, ⟨some a, cap, rfl, hl, rfl, by unfold maxLen at hm; omega, fun _ => ⟨a, rfl, fun j p hp => ?_⟩⟩, by omega, ?_, ?_⟩
    · obtain ⟨c, hcs, hk, _⟩ := hlp j p hp
      have hclen := (World.cells?_some hcs).2.1
      refine ⟨c, by rw [hclen, he.cells], hk, fun i u hu => ?_⟩
      have hi : i < P.cellsOf e := by have := (List.getElem?_eq_some_iff.1 hu).1; omega
      have := (World.cells?_some hcs).2.2 i hi
      rw [hu, Addr.add_add] at this
      rw [← he.cells]
      exact this
    · rw [hB] at hsize
      have : l.length * B ≤ (elems.length + rest.length) * B := Nat.mul_le_mul_right _ (by omega)
      exact Nat.le_trans this hsize
    · intro x hx
      obtain ⟨i, hi⟩ := List.getElem?_of_mem hx
      obtain ⟨c, _, _, hwf⟩ := hlp i x hi
      exact hwf
/-- the fields of a struct, from a place on -/
structure OpensF {H : Type} (enc : TypeId × Value → H) (P : Program) (W : World) (fs : List Field) (off : Nat) {α : Type} (d : Kd α) (wf : α → Prop) : Prop where
  go : ∀ (n : Nat) (cs : List Value) (xs : List (DataW H × List MemPlace)), cs.length = off + d.sz →
    (∀ (i : Nat) (f : Field), fs[i]? = some f → DataW.trod enc P W 0 (fun _ => true) true n f.type ((cs.drop f.offset).take (P.cellsOf f.type)) = xs[i]?) → xs.length = fs.length →
    (∀ n ∈ DataW.weightsEach P (fs.map (·.type)) (xs.map (·.1)), n ≤ reachBytes) → ∃ a, d.K W a (cs.drop off) ∧ wf a
theorem OpensF.one {H : Type} {enc : TypeId × Value → H} {P : Program} {W : World} {f : Field} {off : Nat} {α : Type} {d : Kd α} {wf : α → Prop} (ho : f.offset = off) (h : Opens enc P W f.type d wf) :
    OpensF enc P W [f] off d wf := by
  refine ⟨fun n cs xs hl hx hxl hw => ?_⟩
  obtain ⟨x, rfl⟩ : ∃ x, xs = [x] := by
    match xs, hxl with
    | [x], _ => exact ⟨x, rfl⟩
  have h1 := hx 0 f rfl
  rw [ho, List.take_of_length_le (by rw [List.length_drop, h.cells]; omega)] at h1
  exact h.go n _ x h1 (fun m hm => hw m (by simp [DataW.weightsEach, hm]))
theorem OpensF.more {H : Type} {enc : TypeId × Value → H} {P : Program} {W : World} {f : Field} {fs : List Field} {off : Nat} {α β : Type} {d : Kd α} {e : Kd β} {wf : α → Prop} {wg : β → Prop} (ho : f.offset = off) (h : Opens enc P W f.type d wf)
    (hs : OpensF enc P W fs (off + d.sz) e wg) : OpensF enc P W (f :: fs) off (Kd.pair d e) (fun a => wf a.1 ∧ wg a.2) := by
  refine ⟨fun n cs xs hl hx hxl hw => ?_⟩
  obtain ⟨x, xs, rfl⟩ : ∃ x ys, xs = x :: ys := by
    match xs, hxl with
    | x :: ys, _ => exact ⟨x, ys, rfl⟩
  have hsz : (Kd.pair d e).sz = d.sz + e.sz := rfl
  have h1 := hx 0 f rfl
  rw [ho, h.cells] at h1
  obtain ⟨a, hk, hwf⟩ := h.go n _ x h1 (fun m hm => hw m (by simp [DataW.weightsEach, hm]))
  obtain ⟨b, hk2, hwg⟩ := hs.go n cs xs (by omega) (fun i g hg => hx (i + 1) g (by simpa using hg)) (by simpa using hxl) (fun m hm => hw m (by simp [DataW.weightsEach, hm]))
  refine ⟨(a, b), ⟨_, _, ?_, hk, hk2⟩, hwf, hwg⟩
  rw [← List.drop_drop, List.take_append_drop]
theorem Opens.struct {H : Type} {enc : TypeId × Value → H} {P : Program} {W : World} {t : TypeId} {fs : Array Field} {α β : Type} {d : Kd α} {wf : α → Prop} {f : β → α} (mk : α → β) (hmk : ∀ a, f (mk a) = a) (ht : P.underlying t = some (.struct fs))
    (hc : P.cellsOf t = d.sz) (h : OpensF enc P W fs.toList 0 d wf) : Opens enc P W t (Kd.iso d f) (fun b => wf (f b)) := by
  refine ⟨hc, fun fuel cs x hx hw => ?_⟩
  obtain ⟨xs, n, _, rfl, hl, hxl, hf⟩ := DataW.trod_struct ht hx
  obtain ⟨a, hk, hwf⟩ := h.go n cs xs (by rw [hl, hc]; omega) (fun i g hg => hf i g (by simpa using hg)) (by simpa using hxl) (fun m hm => hw m (by simpa [DataW.weights, ht] using hm))
  refine ⟨mk a, ?_, by rw [hmk]; exact hwf⟩
  show d.K W (f (mk a)) cs
  rw [hmk]
  simpa using hk

end Go.Proofs.Ytohddbiedabmhaa.X
-- by xprint.py, a program of this session, over the kit's print.py
namespace Go.Proofs.Ytohddbiedabmhaa.X
open Go.RowKit Go.Proofs.YtohddbiedabmhaaW.PrintWords Go.Proofs.YtohddbiedabmhaaW.PrintLast Go.Proofs.YtohddbiedabmhaaW.PrintMore
attribute [local go_sem] max2_int min2_int max_two min_two max_three min_three max_four min_four   -- for this text's walks alone
set_option linter.unusedVariables false
set_option linter.unusedSimpArgs false

def wf47 (b : S47) : Prop := (fun p : (Int) × (Int) × (Int) × (ByteArray) => (fun a => (Lit.int .i64 a).wf = true) p.1 ∧ ((fun a => (Lit.int .i64 a).wf = true) p.2.1 ∧ ((fun a => (Lit.int .u64 a).wf = true) p.2.2.1 ∧ ((fun a => a.size ≤ 140737488351232) p.2.2.2)))) (b.f0, b.f1, b.f2, b.f3)
theorem op47 {H : Type} (enc : TypeId × Value → H) (W : World) : Opens enc Try.prog W 47 k47 wf47 :=
  Opens.struct (fun p => ⟨p.1, p.2.1, p.2.2.1, p.2.2.2⟩) (fun _ => rfl) Try.underlying47 (by kernel_rfl) (OpensF.more rfl (Opens.int Try.underlying3 (by kernel_rfl)) (OpensF.more rfl (Opens.int Try.underlying3 (by kernel_rfl)) (OpensF.more rfl (Opens.int Try.underlying22 (by kernel_rfl)) (OpensF.one rfl (Opens.string Try.underlying9 (by kernel_rfl))))))

end Go.Proofs.Ytohddbiedabmhaa.X
-- by xprint.py, a program of this session, over the kit's print.py
namespace Go.Proofs.Ytohddbiedabmhaa.X
open Go.RowKit Go.Proofs.YtohddbiedabmhaaW.PrintWords Go.Proofs.YtohddbiedabmhaaW.PrintLast Go.Proofs.YtohddbiedabmhaaW.PrintMore
attribute [local go_sem] max2_int min2_int max_two min_two max_three min_three max_four min_four   -- for this text's walks alone
set_option linter.unusedVariables false
set_option linter.unusedSimpArgs false

/-! ### agatelaw02_WireWrites: function 7 -/
mutual
def agatelaw02_WireWrites.l0 : Nat → ByteArray → Int → List (S50) → List (S47) → Int → Int → Option (Bool)
  | 0, _, _, _, _, _, _ => none
  | k + 1, x3, x4, x5, x16, x17, x18 => if x18 < x17 then (if 0 ≤ x18 then (if x18 < (x16.length : Int) then (if (wrap64 (x4 + (((rd_T47 x16 x18).f3).size : Int))) > 3000 then ((agatelaw02_Awake_s.f).bind fun t110 => (some t110)) else ((agateref02_Bytes_s.f ((rd_T47 x16 x18).f0) ((rd_T47 x16 x18).f1) ((rd_T47 x16 x18).f2) ((rd_T47 x16 x18).f3)).bind fun t112 => ((wire_Field_Bytes_s.f ((rd_T47 x16 x18).f0) ((rd_T47 x16 x18).f1) ((rd_T47 x16 x18).f2) ((rd_T47 x16 x18).f3)).bind fun t113 => (if t113.toList = t112.toList then ((wire_Number_s.f ((rd_T47 x16 x18).f0) ((rd_T47 x16 x18).f2)).bind fun t114 => ((agateref02_Number_s.f ((rd_T47 x16 x18).f0) ((rd_T47 x16 x18).f2)).bind fun t115 => (if t114.toList = t115.toList then ((wire_Text_s.f ((rd_T47 x16 x18).f0) ((rd_T47 x16 x18).f3)).bind fun t116 => ((agateref02_Text_s.f ((rd_T47 x16 x18).f0) ((rd_T47 x16 x18).f3)).bind fun t117 => (agatelaw02_WireWrites.j1 k x3 (wrap64 (x4 + (((rd_T47 x16 x18).f3).size : Int))) x5 t112 x16 x17 x18 (t116.toList != t117.toList) ((rd_T47 x16 x18).f0) ((rd_T47 x16 x18).f1) ((rd_T47 x16 x18).f2) ((rd_T47 x16 x18).f3) ((rd_T47 x16 x18).f0) ((rd_T47 x16 x18).f1) ((rd_T47 x16 x18).f2) ((rd_T47 x16 x18).f3)))) else (agatelaw02_WireWrites.j1 k x3 (wrap64 (x4 + (((rd_T47 x16 x18).f3).size : Int))) x5 t112 x16 x17 x18 true ((rd_T47 x16 x18).f0) ((rd_T47 x16 x18).f1) ((rd_T47 x16 x18).f2) ((rd_T47 x16 x18).f3) ((rd_T47 x16 x18).f0) ((rd_T47 x16 x18).f1) ((rd_T47 x16 x18).f2) ((rd_T47 x16 x18).f3))))) else (agatelaw02_WireWrites.j1 k x3 (wrap64 (x4 + (((rd_T47 x16 x18).f3).size : Int))) x5 t112 x16 x17 x18 true ((rd_T47 x16 x18).f0) ((rd_T47 x16 x18).f1) ((rd_T47 x16 x18).f2) ((rd_T47 x16 x18).f3) ((rd_T47 x16 x18).f0) ((rd_T47 x16 x18).f1) ((rd_T47 x16 x18).f2) ((rd_T47 x16 x18).f3)))))) else (none)) else (none)) else ((wire_Fields_s.f x3).bind fun bt102 => ((agatelaw02_Awake_s.f).bind fun t106 => (if t106 = true then (if bt102.2 = 0 then ((agatelaw02_Same_s.f bt102.1 x5).bind fun t107 => (some t107)) else (some false)) else (some false))))
def agatelaw02_WireWrites.j1 : Nat → ByteArray → Int → List (S50) → ByteArray → List (S47) → Int → Int → Bool → Int → Int → Int → ByteArray → Int → Int → Int → ByteArray → Option (Bool)
  | 0, _, _, _, _, _, _, _, _, _, _, _, _, _, _, _, _ => none
  | k + 1, x3, x4, x5, x9, x16, x17, x18, x62, x110000, x110001, x110002, x110003, x112000, x112001, x112002, x112003 => if x62 = true then (some false) else (if x9.toList = ([] : List UInt8) then (agatelaw02_WireWrites.l0 k x3 x4 x5 x16 x17 (wrap64 (x18 + 1))) else (if x112001 = 2 then ((wire_Field_Bytes_s.f x110000 x110001 x110002 x110003).bind fun t118 => (if x3.size + t118.size ≤ 9223372036854775807 then (if x5.length < 3518437208883 then (agatelaw02_WireWrites.l0 k (x3 ++ t118) x4 (x5 ++ [(⟨x112000, x112001, 0, x112003⟩ : S50)]) x16 x17 (wrap64 (x18 + 1))) else (none)) else (none))) else ((wire_Field_Bytes_s.f x110000 x110001 x110002 x110003).bind fun t122 => (if x3.size + t122.size ≤ 9223372036854775807 then (if x5.length < 3518437208883 then (agatelaw02_WireWrites.l0 k (x3 ++ t122) x4 (x5 ++ [(⟨x112000, x112001, x112002, (⟨#[]⟩ : ByteArray)⟩ : S50)]) x16 x17 (wrap64 (x18 + 1))) else (none)) else (none)))))
end
def agatelaw02_WireWrites.f (k : Nat) (l0 : List (S47)) : Option (Bool) := if (l0.length : Int) > 60 then ((agatelaw02_Awake_s.f).bind fun t101 => (some t101)) else (agatelaw02_WireWrites.l0 k (⟨#[]⟩ : ByteArray) 0 ([] : List (S50)) l0 (l0.length : Int) 0)
theorem agatelaw02_WireWrites.mono_l : ∀ k, (∀ y0 y1 y2 y3 y4 y5, LeO (agatelaw02_WireWrites.l0 k y0 y1 y2 y3 y4 y5) (agatelaw02_WireWrites.l0 (k + 1) y0 y1 y2 y3 y4 y5)) ∧ (∀ y0 y1 y2 y3 y4 y5 y6 y7 y8 y9 y10 y11 y12 y13 y14 y15, LeO (agatelaw02_WireWrites.j1 k y0 y1 y2 y3 y4 y5 y6 y7 y8 y9 y10 y11 y12 y13 y14 y15) (agatelaw02_WireWrites.j1 (k + 1) y0 y1 y2 y3 y4 y5 y6 y7 y8 y9 y10 y11 y12 y13 y14 y15))
  | 0 => ⟨fun _ _ _ _ _ _ r h => by simp [agatelaw02_WireWrites.l0] at h, fun _ _ _ _ _ _ _ _ _ _ _ _ _ _ _ _ r h => by simp [agatelaw02_WireWrites.j1] at h⟩
  | k + 1 => by
    obtain ⟨ih0, ih1⟩ := agatelaw02_WireWrites.mono_l k
    refine ⟨?_, ?_⟩
    · intro y0 y1 y2 y3 y4 y5
      unfold agatelaw02_WireWrites.l0
      repeat' first
      | (with_reducible exact ih0 _ _ _ _ _ _)
      | (with_reducible exact ih1 _ _ _ _ _ _ _ _ _ _ _ _ _ _ _ _)
      | (with_reducible exact LeO.refl _)
      | (with_reducible exact LeO.none _)
      | (with_reducible refine LeO.ite ?_ ?_)
      | (with_reducible refine LeO.bind ?_ (fun _ => ?_))
      | exact ih0 _ _ _ _ _ _
      | exact ih1 _ _ _ _ _ _ _ _ _ _ _ _ _ _ _ _
      | exact LeO.none _
      | refine LeO.ite ?_ ?_
      | refine LeO.bind ?_ (fun _ => ?_)
    · intro y0 y1 y2 y3 y4 y5 y6 y7 y8 y9 y10 y11 y12 y13 y14 y15
      unfold agatelaw02_WireWrites.j1
      repeat' first
      | (with_reducible exact ih0 _ _ _ _ _ _)
      | (with_reducible exact ih1 _ _ _ _ _ _ _ _ _ _ _ _ _ _ _ _)
      | (with_reducible exact LeO.refl _)
      | (with_reducible exact LeO.none _)
      | (with_reducible refine LeO.ite ?_ ?_)
      | (with_reducible refine LeO.bind ?_ (fun _ => ?_))
      | exact ih0 _ _ _ _ _ _
      | exact ih1 _ _ _ _ _ _ _ _ _ _ _ _ _ _ _ _
      | exact LeO.none _
      | refine LeO.ite ?_ ?_
      | refine LeO.bind ?_ (fun _ => ?_)
theorem agatelaw02_WireWrites.mono : ∀ a0 k, LeO (agatelaw02_WireWrites.f k a0) (agatelaw02_WireWrites.f (k + 1) a0) := by
  intro a0 k
  obtain ⟨ih0, ih1⟩ := agatelaw02_WireWrites.mono_l k
  unfold agatelaw02_WireWrites.f
  repeat' first
      | (with_reducible exact ih0 _ _ _ _ _ _)
      | (with_reducible exact ih1 _ _ _ _ _ _ _ _ _ _ _ _ _ _ _ _)
      | (with_reducible exact LeO.refl _)
      | (with_reducible exact LeO.none _)
      | (with_reducible refine LeO.ite ?_ ?_)
      | (with_reducible refine LeO.bind ?_ (fun _ => ?_))
      | exact ih0 _ _ _ _ _ _
      | exact ih1 _ _ _ _ _ _ _ _ _ _ _ _ _ _ _ _
      | exact LeO.none _
      | refine LeO.ite ?_ ?_
      | refine LeO.bind ?_ (fun _ => ?_)
def agatelaw02_WireWrites.T13 : Bool × List (List Nat × List Nat) := (true, [([], []), ([0], [0]), ([], []), ([1, 2], [1, 2]), ([3, 1], [3]), ([4], [4]), ([5, 4], [4, 5]), ([4], [4]), ([7, 4], [4, 7]), ([6, 8, 4, 4], [4, 6, 8]), ([4], [4]), ([10, 4], [4, 10]), ([4], [4]), ([12, 4], [4, 12]), ([11, 13, 9, 4], [4, 11, 13]), ([9, 14, 4], [4, 9, 14]), ([4, 15], [4, 15]), ([16, 14], [16]), ([17], [17]), ([18, 17], [17, 18]), ([17], [17]), ([20, 17], [17, 20]), ([19, 21, 17, 17], [17, 19, 21]), ([17], [17]), ([23, 17], [17, 23]), ([17], [17]), ([25, 17], [17, 25]), ([24, 26, 22, 17], [17, 24, 26]), ([22, 27, 17], [17, 22, 27]), ([17, 28], [17, 28])])
def agatelaw02_WireWrites.B13 : List Nat := [0, 1, 0, 7, 15, 31, 63, 31, 159, 511, 31, 1055, 31, 4127, 16383, 32767, 65535, 131071, 262143, 524287, 262143, 1310719, 4194303, 262143, 8650751, 262143, 33816575, 134217727, 268435455, 536870911]
theorem agatelaw02_WireWrites.tab13 : rtab .any (opsOf Try.f7 13) = agatelaw02_WireWrites.T13 := by kernel_rfl
theorem agatelaw02_WireWrites.bits13 : waitsOk agatelaw02_WireWrites.T13.2 agatelaw02_WireWrites.B13 = true := by kernel_rfl
set_option maxHeartbeats 8000000 in
set_option maxRecDepth 100000 in
theorem agatelaw02_WireWrites.calls (k : Nat) (A0 : Option Addr) (c0 : Nat) (l0 : List (S47)) (r : Bool) (w : World) (hr0 : Kd.C k47 w A0 l0.length l0) (hc0 : l0.length ≤ c0) (h : agatelaw02_WireWrites.f k l0 = some r) :
    Calls Try.prog 7 #[.slice A0 l0.length c0] w fun e w' => e = .returned (.bool r) ∧ Below w.heap.size w w' := by
  have hu47 := Try.underlying47
  have hu50 := Try.underlying50
  have HR0 := Aside0.mk hr0
  have HC0 := Aside0.mk hc0
  clear hr0 hc0
  have HB := Aside0.mk (Below.refl w.heap.size w)
  have H : (if (l0.length : Int) > 60 then ((agatelaw02_Awake_s.f).bind fun t101 => (some t101)) else (agatelaw02_WireWrites.l0 k (⟨#[]⟩ : ByteArray) 0 ([] : List (S50)) l0 (l0.length : Int) 0)) = some r := h
  clear h
  by_cases c2 : (l0.length : Int) > 60
  · rw [if_pos c2] at H
    have c2b0 : decide (60 < (l0.length : Int)) = true := decide_eq_true c2
    have c2b1 : decide (60 < l0.length) = true := decide_eq_true (by omega)
    clear c2
    replace H := Option.bind_eq_some_iff.mp H
    obtain ⟨t101, A30, H⟩ := H
    replace H : (some t101) = some r := H
    have A3 := Aside0.mk A30
    clear A30
    obtain rfl := Option.some.inj H
    go_enter Try.func7, Try.ntmps7
    go_wp2_with (first | ((with_reducible refine gate_callee (f := 20) rfl ?_); refine goesL_ (some 15) rfl rfl Try.func20 (by kernel_rfl) rfl #[] rfl (by (try simp only [List.map_toArray, List.map_cons, List.map_nil]); first | done | rfl | (simp only [List.length_drop, List.length_take]; rfl)) ?_; (with_reducible refine (agatelaw02_Awake_s.calls  t101 _ A3.out).mono ?_); rintro e w4 ⟨rfl, hb⟩; refine ⟨_, rfl, ?_⟩; have n0_ := Aside0.mk (below_step (by repeat (first | (with_reducible first | exact HB.out | apply below_alloc | apply pw_below_drewN | apply below_drew1) | exact HB.out)) hb); clear HB; have HB := n0_; clear n0_; (try clear hb); (try clear hb2); (try clear hk); (try clear hi)))
    go_ret
    exact ⟨by first | rfl | (simp [errW_none, errW_some] <;> rfl) | (simp [*, errW_none, errW_some] <;> rfl), by repeat (first | (with_reducible first | exact HB.out | apply below_alloc | apply pw_below_drewN | apply below_drew1) | exact HB.out)⟩
  · rw [if_neg c2] at H
    have c2b0 : decide (60 < (l0.length : Int)) = false := decide_eq_false c2
    have c2b1 : decide (60 < l0.length) = false := decide_eq_false (by omega)
    clear c2
    have H' := Aside0.mk H
    clear H
    go_enter Try.func7, Try.ntmps7
    go_wp2
    go_loopg [3, 4, 5, 18] k (fun kq v3 v4 v5 v18 w' => ∃ (x3_1 : ByteArray) (x4_1 : Int) (x5_1 : List (S50)) (x18_1 : Int), v3 = .string x3_1 ∧ v4 = .int .i64 x4_1 ∧ v18 = .int .i64 x18_1 ∧ Aside0 (agatelaw02_WireWrites.l0 kq x3_1 x4_1 x5_1 l0 (l0.length : Int) x18_1 = some r) ∧ Aside0 (kq ≤ k) ∧ Aside0 (Kd.R k50 50 w' w.heap.size (fun _ => True) v5 x5_1) ∧ Aside0 (Below w.heap.size w w'))
    case atStart => exact ⟨((⟨#[]⟩ : ByteArray)), (0), (([] : List (S50))), (0), (by first | rfl | (simp; done) | (simp [*]; done)), (by first | rfl | (simp; done) | (simp [*]; done)), (by first | rfl | (simp; done) | (simp [*]; done)), H', ⟨Nat.le_refl _⟩, ⟨by first | exact Kd.R_nil _ _ _ _ _ | exact Kd.N_nil _ _ _ _ _ | exact Kd.V_nil _ _ _ _ _ | exact Kd.Q_nil _ _ _ _ _ | exact Kd.S_nil _ _ _ _ _⟩, ⟨by repeat (first | (with_reducible first | exact HB.out | apply below_alloc | apply pw_below_drewN | apply below_drew1) | exact HB.out)⟩⟩
    case round =>
      clear H'
      try clear c2
      try clear c2b0
      try clear c2b1
      try clear p2
      obtain ⟨x3_1, x4_1, x5_1, x18_1, rfl, rfl, rfl, HA, HK1, HO_5, HB⟩ := hrel
      cases gk with
      | zero => exact absurd HA.out (by simp [agatelaw02_WireWrites.l0])
      | succ k1 =>
        have H := HA.out
        clear HA
        simp only [agatelaw02_WireWrites.l0] at H
        by_cases c5 : x18_1 < (l0.length : Int)
        · rw [if_pos c5] at H
          have c5b0 : decide (x18_1 < (l0.length : Int)) = true := decide_eq_true c5
          clear c5
          by_cases c6 : 0 ≤ x18_1
          · rw [if_pos c6] at H
            have c6b0 : decide (0 ≤ x18_1) = true := decide_eq_true c6
            clear c6
            by_cases c7 : x18_1 < (l0.length : Int)
            · rw [if_pos c7] at H
              have c7b0 : decide (x18_1 < (l0.length : Int)) = true := decide_eq_true c7
              clear c7
              by_cases c8 : (wrap64 (x4_1 + (((rd_T47 l0 x18_1).f3).size : Int))) > 3000
              · rw [if_pos c8] at H
                have c8b0 : decide (3000 < (wrap64 (x4_1 + (((rd_T47 l0 x18_1).f3).size : Int)))) = true := decide_eq_true c8
                clear c8
                replace H := Option.bind_eq_some_iff.mp H
                obtain ⟨t110, A90, H⟩ := H
                replace H : (some t110) = some r := H
                have A9 := Aside0.mk A90
                clear A90
                obtain rfl := Option.some.inj H
                have p108 : 0 ≤ (x18_1 : Int) := of_decide_eq_true (by first | (with_reducible assumption) | assumption)
                have q108 : x18_1 < (l0.length : Int) := of_decide_eq_true (by first | (with_reducible assumption) | assumption)
                obtain ⟨ad108, e108, hx108_0, hx108_1, hx108_2, hx108_3⟩ := at_T47 HR0.out x18_1 p108 q108
                cases e108
                replace hx108_0 := (HB.out.cell (World.block_lt_of_cell? w _ hx108_0)).trans hx108_0
                replace hx108_1 := (HB.out.cell (World.block_lt_of_cell? w _ hx108_1)).trans hx108_1
                replace hx108_2 := (HB.out.cell (World.block_lt_of_cell? w _ hx108_2)).trans hx108_2
                replace hx108_3 := (HB.out.cell (World.block_lt_of_cell? w _ hx108_3)).trans hx108_3
                replace p108 := eq_true p108
                replace q108 := eq_true q108
                go_wp2_with (first | ((with_reducible refine gate_dst (N := 7) rfl ?_); refine box_event ?hg (N := 7) ?hd (cs := #[.int .i64 0, .int .i64 0, .int .u64 0, .string (⟨#[]⟩ : ByteArray)]) (t := 47) ?hr ?_; (case hd => rfl); (case hg => rfl); (case hr => first | (go_simp; done) | (go_simp; rfl)); intro gb109 hg w10 hbox hb; have n0_ := Aside0.mk (Kd.R_below (by (with_reducible repeat (first | apply Kd.R_alloc | apply Kd.R_drewN | apply Kd.R_drew)); exact HO_5.out) hb); have n1_ := Aside0.mk (below_step (by repeat (first | (with_reducible first | exact HB.out | apply below_alloc | apply pw_below_drewN | apply below_drew1) | exact HB.out)) hb); have n2_ := Aside0.mk (hbox); have n3_ := Aside0.mk ((by rw [hg]; exact (below_size (by repeat (first | (with_reducible first | exact HB.out | apply below_alloc | apply pw_below_drewN | apply below_drew1) | exact HB.out))) : w.heap.size ≤ gb109)); have n4_ := Aside0.mk ((by rw [hg]; exact (below_size (by repeat (first | (with_reducible first | exact HB.out | apply below_alloc | apply pw_below_drewN | apply below_drew1) | exact HB.out))) : w.heap.size ≤ gb109)); clear HO_5; clear HB; have HO_5 := n0_; have HB := n1_; have BK109 := n2_; have GW109 := n3_; have GE109 := n4_; clear n0_ n1_ n2_ n3_ n4_; clear hb hbox hg; have hcz11_0 : w10.cell? ⟨gb109, 0, none⟩ = some (.int .i64 0) := (blk_cell BK109.out 0).trans rfl; have hcz11_1 : w10.cell? ⟨gb109, 1, none⟩ = some (.int .i64 0) := (blk_cell BK109.out 1).trans rfl; have hcz11_2 : w10.cell? ⟨gb109, 2, none⟩ = some (.int .u64 0) := (blk_cell BK109.out 2).trans rfl; have hcz11_3 : w10.cell? ⟨gb109, 3, none⟩ = some (.string (⟨#[]⟩ : ByteArray)) := (blk_cell BK109.out 3).trans rfl; have hfz11_0 := blk_frozen BK109.out 0; have hfz11_1 := blk_frozen BK109.out 1; have hfz11_2 := blk_frozen BK109.out 2; have hfz11_3 := blk_frozen BK109.out 3) | ((with_reducible refine gate_callee (f := 20) rfl ?_); refine goesL_ (some 29) rfl rfl Try.func20 (by kernel_rfl) rfl #[] rfl (by (try simp only [List.map_toArray, List.map_cons, List.map_nil]); first | done | rfl | (simp only [List.length_drop, List.length_take]; rfl)) ?_; (with_reducible refine (agatelaw02_Awake_s.calls  t110 _ A9.out).mono ?_); rintro e w12 ⟨rfl, hb⟩; refine ⟨_, rfl, ?_⟩; have n0_ := Aside0.mk (Kd.R_below (by (with_reducible repeat (first | apply Kd.R_alloc | apply Kd.R_drewN | apply Kd.R_drew)); exact (Kd.R_mono (Kd.R_far (p := ⟨gb109, 3, none⟩) (Kd.R_far (p := ⟨gb109, 2, none⟩) (Kd.R_far (p := ⟨gb109, 1, none⟩) (Kd.R_far (p := ⟨gb109, 0, none⟩) (Kd.R_types HO_5.out BK109.out (by decide)) (fun _ hk => hk.2) (.int .i64 ((rd_T47 l0 x18_1).f0))) (fun _ hk => hk.2) (.int .i64 ((rd_T47 l0 x18_1).f1))) (fun _ hk => hk.2) (.int .u64 ((rd_T47 l0 x18_1).f2))) (fun _ hk => hk.2) (.string ((rd_T47 l0 x18_1).f3))) (fun _ h_ => h_.1))) hb); have n1_ := Aside0.mk (blk_below (g := gb109) (o := .cells #[.int .i64 ((rd_T47 l0 x18_1).f0), .int .i64 ((rd_T47 l0 x18_1).f1), .int .u64 ((rd_T47 l0 x18_1).f2), .string ((rd_T47 l0 x18_1).f3)] 47 (0, 0)) (by (with_reducible repeat (first | refine blk_drewN ?_ _ | refine blk_drew ?_ | refine blk_alloc ?_ _)); refine blk_put (cs := #[.int .i64 ((rd_T47 l0 x18_1).f0), .int .i64 ((rd_T47 l0 x18_1).f1), .int .u64 ((rd_T47 l0 x18_1).f2), .string (⟨#[]⟩ : ByteArray)]) ?_ 3 _ rfl; (with_reducible repeat (first | refine blk_drewN ?_ _ | refine blk_drew ?_ | refine blk_alloc ?_ _)); refine blk_put (cs := #[.int .i64 ((rd_T47 l0 x18_1).f0), .int .i64 ((rd_T47 l0 x18_1).f1), .int .u64 0, .string (⟨#[]⟩ : ByteArray)]) ?_ 2 _ rfl; (with_reducible repeat (first | refine blk_drewN ?_ _ | refine blk_drew ?_ | refine blk_alloc ?_ _)); refine blk_put (cs := #[.int .i64 ((rd_T47 l0 x18_1).f0), .int .i64 0, .int .u64 0, .string (⟨#[]⟩ : ByteArray)]) ?_ 1 _ rfl; (with_reducible repeat (first | refine blk_drewN ?_ _ | refine blk_drew ?_ | refine blk_alloc ?_ _)); refine blk_put (cs := #[.int .i64 0, .int .i64 0, .int .u64 0, .string (⟨#[]⟩ : ByteArray)]) ?_ 0 _ rfl; (with_reducible repeat (first | refine blk_drewN ?_ _ | refine blk_drew ?_ | refine blk_alloc ?_ _)); exact BK109.out) hb); have n2_ := Aside0.mk (below_step (by repeat (first | (with_reducible first | exact HB.out | apply below_alloc | apply pw_below_drewN | apply below_drew1 | refine below_set ?_ GE109.out) | exact HB.out)) hb); clear HO_5; clear BK109; clear HB; have HO_5 := n0_; have BK109 := n1_; have HB := n2_; clear n0_ n1_ n2_; (try clear hb); (try clear hb2); (try clear hk); (try clear hi)))
                go_ret
                exact ⟨by first | rfl | (simp [errW_none, errW_some] <;> rfl) | (simp [*, errW_none, errW_some] <;> rfl), by repeat (first | (with_reducible first | exact HB.out | apply below_alloc | apply pw_below_drewN | apply below_drew1 | refine below_set ?_ GE109.out) | exact HB.out)⟩
              · rw [if_neg c8] at H
                have c8b0 : decide (3000 < (wrap64 (x4_1 + (((rd_T47 l0 x18_1).f3).size : Int)))) = false := decide_eq_false c8
                clear c8
                replace H := Option.bind_eq_some_iff.mp H
                obtain ⟨t112, A130, H⟩ := H
                replace H : ((wire_Field_Bytes_s.f ((rd_T47 l0 x18_1).f0) ((rd_T47 l0 x18_1).f1) ((rd_T47 l0 x18_1).f2) ((rd_T47 l0 x18_1).f3)).bind fun t113 => (if t113.toList = t112.toList then ((wire_Number_s.f ((rd_T47 l0 x18_1).f0) ((rd_T47 l0 x18_1).f2)).bind fun t114 => ((agateref02_Number_s.f ((rd_T47 l0 x18_1).f0) ((rd_T47 l0 x18_1).f2)).bind fun t115 => (if t114.toList = t115.toList then ((wire_Text_s.f ((rd_T47 l0 x18_1).f0) ((rd_T47 l0 x18_1).f3)).bind fun t116 => ((agateref02_Text_s.f ((rd_T47 l0 x18_1).f0) ((rd_T47 l0 x18_1).f3)).bind fun t117 => (agatelaw02_WireWrites.j1 k1 x3_1 (wrap64 (x4_1 + (((rd_T47 l0 x18_1).f3).size : Int))) x5_1 t112 l0 (l0.length : Int) x18_1 (t116.toList != t117.toList) ((rd_T47 l0 x18_1).f0) ((rd_T47 l0 x18_1).f1) ((rd_T47 l0 x18_1).f2) ((rd_T47 l0 x18_1).f3) ((rd_T47 l0 x18_1).f0) ((rd_T47 l0 x18_1).f1) ((rd_T47 l0 x18_1).f2) ((rd_T47 l0 x18_1).f3)))) else (agatelaw02_WireWrites.j1 k1 x3_1 (wrap64 (x4_1 + (((rd_T47 l0 x18_1).f3).size : Int))) x5_1 t112 l0 (l0.length : Int) x18_1 true ((rd_T47 l0 x18_1).f0) ((rd_T47 l0 x18_1).f1) ((rd_T47 l0 x18_1).f2) ((rd_T47 l0 x18_1).f3) ((rd_T47 l0 x18_1).f0) ((rd_T47 l0 x18_1).f1) ((rd_T47 l0 x18_1).f2) ((rd_T47 l0 x18_1).f3))))) else (agatelaw02_WireWrites.j1 k1 x3_1 (wrap64 (x4_1 + (((rd_T47 l0 x18_1).f3).size : Int))) x5_1 t112 l0 (l0.length : Int) x18_1 true ((rd_T47 l0 x18_1).f0) ((rd_T47 l0 x18_1).f1) ((rd_T47 l0 x18_1).f2) ((rd_T47 l0 x18_1).f3) ((rd_T47 l0 x18_1).f0) ((rd_T47 l0 x18_1).f1) ((rd_T47 l0 x18_1).f2) ((rd_T47 l0 x18_1).f3)))) = some r := H
                have A13 := Aside0.mk A130
                clear A130
                have HC14 := Aside0.mk H
                clear H
                have p108 : 0 ≤ (x18_1 : Int) := of_decide_eq_true (by first | (with_reducible assumption) | assumption)
                have q108 : x18_1 < (l0.length : Int) := of_decide_eq_true (by first | (with_reducible assumption) | assumption)
                obtain ⟨ad108, e108, hx108_0, hx108_1, hx108_2, hx108_3⟩ := at_T47 HR0.out x18_1 p108 q108
                cases e108
                replace hx108_0 := (HB.out.cell (World.block_lt_of_cell? w _ hx108_0)).trans hx108_0
                replace hx108_1 := (HB.out.cell (World.block_lt_of_cell? w _ hx108_1)).trans hx108_1
                replace hx108_2 := (HB.out.cell (World.block_lt_of_cell? w _ hx108_2)).trans hx108_2
                replace hx108_3 := (HB.out.cell (World.block_lt_of_cell? w _ hx108_3)).trans hx108_3
                replace p108 := eq_true p108
                replace q108 := eq_true q108
                go_upto_region 13 with (first | ((with_reducible refine gate_dst (N := 7) rfl ?_); refine box_event ?hg (N := 7) ?hd (cs := #[.int .i64 0, .int .i64 0, .int .u64 0, .string (⟨#[]⟩ : ByteArray)]) (t := 47) ?hr ?_; (case hd => rfl); (case hg => rfl); (case hr => first | (go_simp; done) | (go_simp; rfl)); intro gb109 hg w15 hbox hb; have n0_ := Aside0.mk (Kd.R_below (by (with_reducible repeat (first | apply Kd.R_alloc | apply Kd.R_drewN | apply Kd.R_drew)); exact HO_5.out) hb); have n1_ := Aside0.mk (below_step (by repeat (first | (with_reducible first | exact HB.out | apply below_alloc | apply pw_below_drewN | apply below_drew1) | exact HB.out)) hb); have n2_ := Aside0.mk (hbox); have n3_ := Aside0.mk ((by rw [hg]; exact (below_size (by repeat (first | (with_reducible first | exact HB.out | apply below_alloc | apply pw_below_drewN | apply below_drew1) | exact HB.out))) : w.heap.size ≤ gb109)); have n4_ := Aside0.mk ((by rw [hg]; exact (below_size (by repeat (first | (with_reducible first | exact HB.out | apply below_alloc | apply pw_below_drewN | apply below_drew1) | exact HB.out))) : w.heap.size ≤ gb109)); clear HO_5; clear HB; have HO_5 := n0_; have HB := n1_; have BK109 := n2_; have GW109 := n3_; have GE109 := n4_; clear n0_ n1_ n2_ n3_ n4_; clear hb hbox hg; have hcz16_0 : w15.cell? ⟨gb109, 0, none⟩ = some (.int .i64 0) := (blk_cell BK109.out 0).trans rfl; have hcz16_1 : w15.cell? ⟨gb109, 1, none⟩ = some (.int .i64 0) := (blk_cell BK109.out 1).trans rfl; have hcz16_2 : w15.cell? ⟨gb109, 2, none⟩ = some (.int .u64 0) := (blk_cell BK109.out 2).trans rfl; have hcz16_3 : w15.cell? ⟨gb109, 3, none⟩ = some (.string (⟨#[]⟩ : ByteArray)) := (blk_cell BK109.out 3).trans rfl; have hfz16_0 := blk_frozen BK109.out 0; have hfz16_1 := blk_frozen BK109.out 1; have hfz16_2 := blk_frozen BK109.out 2; have hfz16_3 := blk_frozen BK109.out 3) | ((with_reducible refine gate_dst (N := 8) rfl ?_); refine box_event ?hg (N := 8) ?hd (cs := #[.int .i64 0, .int .i64 0, .int .u64 0, .string (⟨#[]⟩ : ByteArray)]) (t := 50) ?hr ?_; (case hd => rfl); (case hg => rfl); (case hr => first | (go_simp; done) | (go_simp; rfl)); intro gb111 hg w17 hbox hb; have n0_ := Aside0.mk (Kd.R_below (Kd.R_elderB (by (with_reducible repeat (first | apply Kd.R_alloc | apply Kd.R_drewN | apply Kd.R_drew)); exact (Kd.R_mono (Kd.R_far (p := ⟨gb109, 3, none⟩) (Kd.R_far (p := ⟨gb109, 2, none⟩) (Kd.R_far (p := ⟨gb109, 1, none⟩) (Kd.R_far (p := ⟨gb109, 0, none⟩) (Kd.R_types HO_5.out BK109.out (by decide)) (fun _ hk => hk.2) (.int .i64 ((rd_T47 l0 x18_1).f0))) (fun _ hk => hk.2) (.int .i64 ((rd_T47 l0 x18_1).f1))) (fun _ hk => hk.2) (.int .u64 ((rd_T47 l0 x18_1).f2))) (fun _ hk => hk.2) (.string ((rd_T47 l0 x18_1).f3))) (fun _ h_ => h_.1))) gb111 (Nat.le_of_eq hg.symm)) hb); have n1_ := Aside0.mk (blk_below (g := gb109) (o := .cells #[.int .i64 ((rd_T47 l0 x18_1).f0), .int .i64 ((rd_T47 l0 x18_1).f1), .int .u64 ((rd_T47 l0 x18_1).f2), .string ((rd_T47 l0 x18_1).f3)] 47 (0, 0)) (by (with_reducible repeat (first | refine blk_drewN ?_ _ | refine blk_drew ?_ | refine blk_alloc ?_ _)); refine blk_put (cs := #[.int .i64 ((rd_T47 l0 x18_1).f0), .int .i64 ((rd_T47 l0 x18_1).f1), .int .u64 ((rd_T47 l0 x18_1).f2), .string (⟨#[]⟩ : ByteArray)]) ?_ 3 _ rfl; (with_reducible repeat (first | refine blk_drewN ?_ _ | refine blk_drew ?_ | refine blk_alloc ?_ _)); refine blk_put (cs := #[.int .i64 ((rd_T47 l0 x18_1).f0), .int .i64 ((rd_T47 l0 x18_1).f1), .int .u64 0, .string (⟨#[]⟩ : ByteArray)]) ?_ 2 _ rfl; (with_reducible repeat (first | refine blk_drewN ?_ _ | refine blk_drew ?_ | refine blk_alloc ?_ _)); refine blk_put (cs := #[.int .i64 ((rd_T47 l0 x18_1).f0), .int .i64 0, .int .u64 0, .string (⟨#[]⟩ : ByteArray)]) ?_ 1 _ rfl; (with_reducible repeat (first | refine blk_drewN ?_ _ | refine blk_drew ?_ | refine blk_alloc ?_ _)); refine blk_put (cs := #[.int .i64 0, .int .i64 0, .int .u64 0, .string (⟨#[]⟩ : ByteArray)]) ?_ 0 _ rfl; (with_reducible repeat (first | refine blk_drewN ?_ _ | refine blk_drew ?_ | refine blk_alloc ?_ _)); exact BK109.out) hb); have n2_ := Aside0.mk (below_step (by repeat (first | (with_reducible first | exact HB.out | apply below_alloc | apply pw_below_drewN | apply below_drew1 | refine below_set ?_ GE109.out) | exact HB.out)) hb); have n3_ := Aside0.mk (hbox); have n4_ := Aside0.mk ((by rw [hg]; exact (below_size (by repeat (first | (with_reducible first | exact HB.out | apply below_alloc | apply pw_below_drewN | apply below_drew1 | refine below_set ?_ GE109.out) | exact HB.out))) : w.heap.size ≤ gb111)); have n5_ := Aside0.mk ((by rw [hg]; exact (below_size (by repeat (first | (with_reducible first | exact HB.out | apply below_alloc | apply pw_below_drewN | apply below_drew1 | refine below_set ?_ GE109.out) | exact HB.out))) : w.heap.size ≤ gb111)); have n6_ := Aside0.mk ((by rw [hg]; exact Nat.ne_of_lt (blk_lt (g := gb109) (o := .cells #[.int .i64 ((rd_T47 l0 x18_1).f0), .int .i64 ((rd_T47 l0 x18_1).f1), .int .u64 ((rd_T47 l0 x18_1).f2), .string ((rd_T47 l0 x18_1).f3)] 47 (0, 0)) (by (with_reducible repeat (first | refine blk_drewN ?_ _ | refine blk_drew ?_ | refine blk_alloc ?_ _)); refine blk_put (cs := #[.int .i64 ((rd_T47 l0 x18_1).f0), .int .i64 ((rd_T47 l0 x18_1).f1), .int .u64 ((rd_T47 l0 x18_1).f2), .string (⟨#[]⟩ : ByteArray)]) ?_ 3 _ rfl; (with_reducible repeat (first | refine blk_drewN ?_ _ | refine blk_drew ?_ | refine blk_alloc ?_ _)); refine blk_put (cs := #[.int .i64 ((rd_T47 l0 x18_1).f0), .int .i64 ((rd_T47 l0 x18_1).f1), .int .u64 0, .string (⟨#[]⟩ : ByteArray)]) ?_ 2 _ rfl; (with_reducible repeat (first | refine blk_drewN ?_ _ | refine blk_drew ?_ | refine blk_alloc ?_ _)); refine blk_put (cs := #[.int .i64 ((rd_T47 l0 x18_1).f0), .int .i64 0, .int .u64 0, .string (⟨#[]⟩ : ByteArray)]) ?_ 1 _ rfl; (with_reducible repeat (first | refine blk_drewN ?_ _ | refine blk_drew ?_ | refine blk_alloc ?_ _)); refine blk_put (cs := #[.int .i64 0, .int .i64 0, .int .u64 0, .string (⟨#[]⟩ : ByteArray)]) ?_ 0 _ rfl; (with_reducible repeat (first | refine blk_drewN ?_ _ | refine blk_drew ?_ | refine blk_alloc ?_ _)); exact BK109.out)) : gb109 ≠ gb111)); have n7_ := Aside0.mk ((by rw [hg]; exact Nat.ne_of_gt (blk_lt (g := gb109) (o := .cells #[.int .i64 ((rd_T47 l0 x18_1).f0), .int .i64 ((rd_T47 l0 x18_1).f1), .int .u64 ((rd_T47 l0 x18_1).f2), .string ((rd_T47 l0 x18_1).f3)] 47 (0, 0)) (by (with_reducible repeat (first | refine blk_drewN ?_ _ | refine blk_drew ?_ | refine blk_alloc ?_ _)); refine blk_put (cs := #[.int .i64 ((rd_T47 l0 x18_1).f0), .int .i64 ((rd_T47 l0 x18_1).f1), .int .u64 ((rd_T47 l0 x18_1).f2), .string (⟨#[]⟩ : ByteArray)]) ?_ 3 _ rfl; (with_reducible repeat (first | refine blk_drewN ?_ _ | refine blk_drew ?_ | refine blk_alloc ?_ _)); refine blk_put (cs := #[.int .i64 ((rd_T47 l0 x18_1).f0), .int .i64 ((rd_T47 l0 x18_1).f1), .int .u64 0, .string (⟨#[]⟩ : ByteArray)]) ?_ 2 _ rfl; (with_reducible repeat (first | refine blk_drewN ?_ _ | refine blk_drew ?_ | refine blk_alloc ?_ _)); refine blk_put (cs := #[.int .i64 ((rd_T47 l0 x18_1).f0), .int .i64 0, .int .u64 0, .string (⟨#[]⟩ : ByteArray)]) ?_ 1 _ rfl; (with_reducible repeat (first | refine blk_drewN ?_ _ | refine blk_drew ?_ | refine blk_alloc ?_ _)); refine blk_put (cs := #[.int .i64 0, .int .i64 0, .int .u64 0, .string (⟨#[]⟩ : ByteArray)]) ?_ 0 _ rfl; (with_reducible repeat (first | refine blk_drewN ?_ _ | refine blk_drew ?_ | refine blk_alloc ?_ _)); exact BK109.out)) : gb111 ≠ gb109)); clear HO_5; clear BK109; clear HB; have HO_5 := n0_; have BK109 := n1_; have HB := n2_; have BK111 := n3_; have GW111 := n4_; have GE111 := n5_; have NB109_111 := n6_; have NB111_109 := n7_; clear n0_ n1_ n2_ n3_ n4_ n5_ n6_ n7_; clear hb hbox hg; have hnb18 := NB111_109.out; have hnc18 := NB109_111.out; have hcz19_0 : w17.cell? ⟨gb111, 0, none⟩ = some (.int .i64 0) := (blk_cell BK111.out 0).trans rfl; have hcz19_1 : w17.cell? ⟨gb111, 1, none⟩ = some (.int .i64 0) := (blk_cell BK111.out 1).trans rfl; have hcz19_2 : w17.cell? ⟨gb111, 2, none⟩ = some (.int .u64 0) := (blk_cell BK111.out 2).trans rfl; have hcz19_3 : w17.cell? ⟨gb111, 3, none⟩ = some (.string (⟨#[]⟩ : ByteArray)) := (blk_cell BK111.out 3).trans rfl; have hfz19_0 := blk_frozen BK111.out 0; have hfz19_1 := blk_frozen BK111.out 1; have hfz19_2 := blk_frozen BK111.out 2; have hfz19_3 := blk_frozen BK111.out 3) | ((with_reducible refine gate_callee (f := 28) rfl ?_); refine goesL_ (some 32) rfl rfl Try.func28 (by kernel_rfl) rfl #[.agg #[.int .i64 ((rd_T47 l0 x18_1).f0), .int .i64 ((rd_T47 l0 x18_1).f1), .int .u64 ((rd_T47 l0 x18_1).f2), .string ((rd_T47 l0 x18_1).f3)]] rfl (by (try simp only [List.map_toArray, List.map_cons, List.map_nil]); first | done | rfl | (simp only [List.length_drop, List.length_take]; rfl)) ?_; (with_reducible refine (agateref02_Bytes_s.calls ((rd_T47 l0 x18_1).f0) ((rd_T47 l0 x18_1).f1) ((rd_T47 l0 x18_1).f2) ((rd_T47 l0 x18_1).f3) t112 _ A13.out).mono ?_); rintro e w20 ⟨rfl, hb⟩; refine ⟨_, rfl, ?_⟩; have n0_ := Aside0.mk (Kd.R_below (by (with_reducible repeat (first | apply Kd.R_alloc | apply Kd.R_drewN | apply Kd.R_drew)); exact (Kd.R_mono (Kd.R_far (p := ⟨gb111, 3, none⟩) (Kd.R_far (p := ⟨gb111, 2, none⟩) (Kd.R_far (p := ⟨gb111, 1, none⟩) (Kd.R_far (p := ⟨gb111, 0, none⟩) (Kd.R_mono HO_5.out (fun k_ hk => (⟨hk, hk.2⟩ : _ ∧ k_ ≠ gb111))) (fun _ hk => hk.2) (.int .i64 ((rd_T47 l0 x18_1).f0))) (fun _ hk => hk.2) (.int .i64 ((rd_T47 l0 x18_1).f1))) (fun _ hk => hk.2) (.int .u64 ((rd_T47 l0 x18_1).f2))) (fun _ hk => hk.2) (.string ((rd_T47 l0 x18_1).f3))) (fun _ h_ => h_.1))) hb); have n1_ := Aside0.mk (blk_below (g := gb109) (o := .cells #[.int .i64 ((rd_T47 l0 x18_1).f0), .int .i64 ((rd_T47 l0 x18_1).f1), .int .u64 ((rd_T47 l0 x18_1).f2), .string ((rd_T47 l0 x18_1).f3)] 47 (0, 0)) (by (with_reducible repeat (first | refine blk_drewN ?_ _ | refine blk_drew ?_ | refine blk_alloc ?_ _)); refine blk_far ?_ NB109_111.out _; (with_reducible repeat (first | refine blk_drewN ?_ _ | refine blk_drew ?_ | refine blk_alloc ?_ _)); refine blk_far ?_ NB109_111.out _; (with_reducible repeat (first | refine blk_drewN ?_ _ | refine blk_drew ?_ | refine blk_alloc ?_ _)); refine blk_far ?_ NB109_111.out _; (with_reducible repeat (first | refine blk_drewN ?_ _ | refine blk_drew ?_ | refine blk_alloc ?_ _)); refine blk_far ?_ NB109_111.out _; (with_reducible repeat (first | refine blk_drewN ?_ _ | refine blk_drew ?_ | refine blk_alloc ?_ _)); exact BK109.out) hb); have n2_ := Aside0.mk (blk_below (g := gb111) (o := .cells #[.int .i64 ((rd_T47 l0 x18_1).f0), .int .i64 ((rd_T47 l0 x18_1).f1), .int .u64 ((rd_T47 l0 x18_1).f2), .string ((rd_T47 l0 x18_1).f3)] 50 (0, 0)) (by (with_reducible repeat (first | refine blk_drewN ?_ _ | refine blk_drew ?_ | refine blk_alloc ?_ _)); refine blk_put (cs := #[.int .i64 ((rd_T47 l0 x18_1).f0), .int .i64 ((rd_T47 l0 x18_1).f1), .int .u64 ((rd_T47 l0 x18_1).f2), .string (⟨#[]⟩ : ByteArray)]) ?_ 3 _ rfl; (with_reducible repeat (first | refine blk_drewN ?_ _ | refine blk_drew ?_ | refine blk_alloc ?_ _)); refine blk_put (cs := #[.int .i64 ((rd_T47 l0 x18_1).f0), .int .i64 ((rd_T47 l0 x18_1).f1), .int .u64 0, .string (⟨#[]⟩ : ByteArray)]) ?_ 2 _ rfl; (with_reducible repeat (first | refine blk_drewN ?_ _ | refine blk_drew ?_ | refine blk_alloc ?_ _)); refine blk_put (cs := #[.int .i64 ((rd_T47 l0 x18_1).f0), .int .i64 0, .int .u64 0, .string (⟨#[]⟩ : ByteArray)]) ?_ 1 _ rfl; (with_reducible repeat (first | refine blk_drewN ?_ _ | refine blk_drew ?_ | refine blk_alloc ?_ _)); refine blk_put (cs := #[.int .i64 0, .int .i64 0, .int .u64 0, .string (⟨#[]⟩ : ByteArray)]) ?_ 0 _ rfl; (with_reducible repeat (first | refine blk_drewN ?_ _ | refine blk_drew ?_ | refine blk_alloc ?_ _)); exact BK111.out) hb); have n3_ := Aside0.mk (below_step (by repeat (first | (with_reducible first | exact HB.out | apply below_alloc | apply pw_below_drewN | apply below_drew1 | refine below_set ?_ GE109.out | refine below_set ?_ GE111.out) | exact HB.out)) hb); clear HO_5; clear BK109; clear BK111; clear HB; have HO_5 := n0_; have BK109 := n1_; have BK111 := n2_; have HB := n3_; clear n0_ n1_ n2_ n3_; (try clear hb); (try clear hb2); (try clear hk); (try clear hi)))
                (try simp only [Act.put, List.setIfInBounds_toArray, List.set_cons_zero, List.set_cons_succ])
                go_cut [62] (fun v62 wc => ∃ (kq : Nat) (x62_13 : Bool), v62 = .bool x62_13 ∧ Aside0 (agatelaw02_WireWrites.j1 kq x3_1 (wrap64 (x4_1 + (((rd_T47 l0 x18_1).f3).size : Int))) x5_1 t112 l0 (l0.length : Int) x18_1 x62_13 ((rd_T47 l0 x18_1).f0) ((rd_T47 l0 x18_1).f1) ((rd_T47 l0 x18_1).f2) ((rd_T47 l0 x18_1).f3) ((rd_T47 l0 x18_1).f0) ((rd_T47 l0 x18_1).f1) ((rd_T47 l0 x18_1).f2) ((rd_T47 l0 x18_1).f3) = some r) ∧ Aside0 (kq ≤ k1) ∧ Aside0 (Kd.R k50 50 wc w.heap.size (fun k_ => k_ ≠ gb111) u5 x5_1) ∧ Aside0 (wc.heap[gb109]? = some (.cells #[.int .i64 ((rd_T47 l0 x18_1).f0), .int .i64 ((rd_T47 l0 x18_1).f1), .int .u64 ((rd_T47 l0 x18_1).f2), .string ((rd_T47 l0 x18_1).f3)] 47 (0, 0))) ∧ Aside0 (wc.heap[gb111]? = some (.cells #[.int .i64 ((rd_T47 l0 x18_1).f0), .int .i64 ((rd_T47 l0 x18_1).f1), .int .u64 ((rd_T47 l0 x18_1).f2), .string ((rd_T47 l0 x18_1).f3)] 50 (0, 0))) ∧ Aside0 (Below w.heap.size w wc))
                case first =>
                  have H := HC14.out
                  clear HC14
                  replace H := Option.bind_eq_some_iff.mp H
                  obtain ⟨t113, A210, H⟩ := H
                  replace H : (if t113.toList = t112.toList then ((wire_Number_s.f ((rd_T47 l0 x18_1).f0) ((rd_T47 l0 x18_1).f2)).bind fun t114 => ((agateref02_Number_s.f ((rd_T47 l0 x18_1).f0) ((rd_T47 l0 x18_1).f2)).bind fun t115 => (if t114.toList = t115.toList then ((wire_Text_s.f ((rd_T47 l0 x18_1).f0) ((rd_T47 l0 x18_1).f3)).bind fun t116 => ((agateref02_Text_s.f ((rd_T47 l0 x18_1).f0) ((rd_T47 l0 x18_1).f3)).bind fun t117 => (agatelaw02_WireWrites.j1 k1 x3_1 (wrap64 (x4_1 + (((rd_T47 l0 x18_1).f3).size : Int))) x5_1 t112 l0 (l0.length : Int) x18_1 (t116.toList != t117.toList) ((rd_T47 l0 x18_1).f0) ((rd_T47 l0 x18_1).f1) ((rd_T47 l0 x18_1).f2) ((rd_T47 l0 x18_1).f3) ((rd_T47 l0 x18_1).f0) ((rd_T47 l0 x18_1).f1) ((rd_T47 l0 x18_1).f2) ((rd_T47 l0 x18_1).f3)))) else (agatelaw02_WireWrites.j1 k1 x3_1 (wrap64 (x4_1 + (((rd_T47 l0 x18_1).f3).size : Int))) x5_1 t112 l0 (l0.length : Int) x18_1 true ((rd_T47 l0 x18_1).f0) ((rd_T47 l0 x18_1).f1) ((rd_T47 l0 x18_1).f2) ((rd_T47 l0 x18_1).f3) ((rd_T47 l0 x18_1).f0) ((rd_T47 l0 x18_1).f1) ((rd_T47 l0 x18_1).f2) ((rd_T47 l0 x18_1).f3))))) else (agatelaw02_WireWrites.j1 k1 x3_1 (wrap64 (x4_1 + (((rd_T47 l0 x18_1).f3).size : Int))) x5_1 t112 l0 (l0.length : Int) x18_1 true ((rd_T47 l0 x18_1).f0) ((rd_T47 l0 x18_1).f1) ((rd_T47 l0 x18_1).f2) ((rd_T47 l0 x18_1).f3) ((rd_T47 l0 x18_1).f0) ((rd_T47 l0 x18_1).f1) ((rd_T47 l0 x18_1).f2) ((rd_T47 l0 x18_1).f3))) = some r := H
                  have A21 := Aside0.mk A210
                  clear A210
                  by_cases c22 : t113.toList = t112.toList
                  · rw [if_pos c22] at H
                    have c22b0 : (t113.toList == t112.toList) = true := beq_iff_eq.mpr c22
                    have c22b1 : (t113.toList != t112.toList) = false := bne_eq_false_iff_eq.mpr c22
                    clear c22
                    (first | rw [c22b0] | (simp only [i64_w, i32_w]; rw [c22b0]) | skip)
                    replace H := Option.bind_eq_some_iff.mp H
                    obtain ⟨t114, A230, H⟩ := H
                    replace H : ((agateref02_Number_s.f ((rd_T47 l0 x18_1).f0) ((rd_T47 l0 x18_1).f2)).bind fun t115 => (if t114.toList = t115.toList then ((wire_Text_s.f ((rd_T47 l0 x18_1).f0) ((rd_T47 l0 x18_1).f3)).bind fun t116 => ((agateref02_Text_s.f ((rd_T47 l0 x18_1).f0) ((rd_T47 l0 x18_1).f3)).bind fun t117 => (agatelaw02_WireWrites.j1 k1 x3_1 (wrap64 (x4_1 + (((rd_T47 l0 x18_1).f3).size : Int))) x5_1 t112 l0 (l0.length : Int) x18_1 (t116.toList != t117.toList) ((rd_T47 l0 x18_1).f0) ((rd_T47 l0 x18_1).f1) ((rd_T47 l0 x18_1).f2) ((rd_T47 l0 x18_1).f3) ((rd_T47 l0 x18_1).f0) ((rd_T47 l0 x18_1).f1) ((rd_T47 l0 x18_1).f2) ((rd_T47 l0 x18_1).f3)))) else (agatelaw02_WireWrites.j1 k1 x3_1 (wrap64 (x4_1 + (((rd_T47 l0 x18_1).f3).size : Int))) x5_1 t112 l0 (l0.length : Int) x18_1 true ((rd_T47 l0 x18_1).f0) ((rd_T47 l0 x18_1).f1) ((rd_T47 l0 x18_1).f2) ((rd_T47 l0 x18_1).f3) ((rd_T47 l0 x18_1).f0) ((rd_T47 l0 x18_1).f1) ((rd_T47 l0 x18_1).f2) ((rd_T47 l0 x18_1).f3)))) = some r := H
                    have A23 := Aside0.mk A230
                    clear A230
                    replace H := Option.bind_eq_some_iff.mp H
                    obtain ⟨t115, A240, H⟩ := H
                    replace H : (if t114.toList = t115.toList then ((wire_Text_s.f ((rd_T47 l0 x18_1).f0) ((rd_T47 l0 x18_1).f3)).bind fun t116 => ((agateref02_Text_s.f ((rd_T47 l0 x18_1).f0) ((rd_T47 l0 x18_1).f3)).bind fun t117 => (agatelaw02_WireWrites.j1 k1 x3_1 (wrap64 (x4_1 + (((rd_T47 l0 x18_1).f3).size : Int))) x5_1 t112 l0 (l0.length : Int) x18_1 (t116.toList != t117.toList) ((rd_T47 l0 x18_1).f0) ((rd_T47 l0 x18_1).f1) ((rd_T47 l0 x18_1).f2) ((rd_T47 l0 x18_1).f3) ((rd_T47 l0 x18_1).f0) ((rd_T47 l0 x18_1).f1) ((rd_T47 l0 x18_1).f2) ((rd_T47 l0 x18_1).f3)))) else (agatelaw02_WireWrites.j1 k1 x3_1 (wrap64 (x4_1 + (((rd_T47 l0 x18_1).f3).size : Int))) x5_1 t112 l0 (l0.length : Int) x18_1 true ((rd_T47 l0 x18_1).f0) ((rd_T47 l0 x18_1).f1) ((rd_T47 l0 x18_1).f2) ((rd_T47 l0 x18_1).f3) ((rd_T47 l0 x18_1).f0) ((rd_T47 l0 x18_1).f1) ((rd_T47 l0 x18_1).f2) ((rd_T47 l0 x18_1).f3))) = some r := H
                    have A24 := Aside0.mk A240
                    clear A240
                    by_cases c25 : t114.toList = t115.toList
                    · rw [if_pos c25] at H
                      have c25b0 : (t114.toList == t115.toList) = true := beq_iff_eq.mpr c25
                      have c25b1 : (t114.toList != t115.toList) = false := bne_eq_false_iff_eq.mpr c25
                      clear c25
                      replace H := Option.bind_eq_some_iff.mp H
                      obtain ⟨t116, A260, H⟩ := H
                      replace H : ((agateref02_Text_s.f ((rd_T47 l0 x18_1).f0) ((rd_T47 l0 x18_1).f3)).bind fun t117 => (agatelaw02_WireWrites.j1 k1 x3_1 (wrap64 (x4_1 + (((rd_T47 l0 x18_1).f3).size : Int))) x5_1 t112 l0 (l0.length : Int) x18_1 (t116.toList != t117.toList) ((rd_T47 l0 x18_1).f0) ((rd_T47 l0 x18_1).f1) ((rd_T47 l0 x18_1).f2) ((rd_T47 l0 x18_1).f3) ((rd_T47 l0 x18_1).f0) ((rd_T47 l0 x18_1).f1) ((rd_T47 l0 x18_1).f2) ((rd_T47 l0 x18_1).f3))) = some r := H
                      have A26 := Aside0.mk A260
                      clear A260
                      replace H := Option.bind_eq_some_iff.mp H
                      obtain ⟨t117, A270, H⟩ := H
                      replace H : (agatelaw02_WireWrites.j1 k1 x3_1 (wrap64 (x4_1 + (((rd_T47 l0 x18_1).f3).size : Int))) x5_1 t112 l0 (l0.length : Int) x18_1 (t116.toList != t117.toList) ((rd_T47 l0 x18_1).f0) ((rd_T47 l0 x18_1).f1) ((rd_T47 l0 x18_1).f2) ((rd_T47 l0 x18_1).f3) ((rd_T47 l0 x18_1).f0) ((rd_T47 l0 x18_1).f1) ((rd_T47 l0 x18_1).f2) ((rd_T47 l0 x18_1).f3)) = some r := H
                      have A27 := Aside0.mk A270
                      clear A270
                      have H' := Aside0.mk H
                      clear H
                      try go_wp2
                      have n0_ := Aside0.mk (Kd.R_drew HO_5.out)
                      have n1_ := Aside0.mk (blk_drew BK109.out)
                      have n2_ := Aside0.mk (blk_drew BK111.out)
                      have n3_ := Aside0.mk (below_drew1 HB.out)
                      clear HO_5
                      clear BK109
                      clear BK111
                      clear HB
                      have HO_5 := n0_
                      have BK109 := n1_
                      have BK111 := n2_
                      have HB := n3_
                      clear n0_ n1_ n2_ n3_
                      refine start_ (n := 30) (S := fun w' => w'.cell? ⟨gb109, 0, none⟩ = some (.int .i64 ((rd_T47 l0 x18_1).f0)) ∧ w'.cell? ⟨gb109, 1, none⟩ = some (.int .i64 ((rd_T47 l0 x18_1).f1)) ∧ w'.cell? ⟨gb109, 2, none⟩ = some (.int .u64 ((rd_T47 l0 x18_1).f2)) ∧ w'.cell? ⟨gb109, 3, none⟩ = some (.string ((rd_T47 l0 x18_1).f3))) (ds := []) #[false, false, false, false, false, false, false, false, false, false, false, false, false, false, false, false, false, false, false, false, false, false, false, false, false, false, false, false, false, false] (by kernel_rfl) rfl rfl ⟨(blk_cell BK109.out 0).trans rfl, (blk_cell BK109.out 1).trans rfl, (blk_cell BK109.out 2).trans rfl, (blk_cell BK109.out 3).trans rfl⟩ (fun hHeld => ?_); refine with_tabW agatelaw02_WireWrites.tab13 agatelaw02_WireWrites.bits13 (fun HT_ HW_ => ?_)
                      generalize w20.drew = w28 at HO_5 BK109 BK111 HB hHeld ⊢
                      refine pure_ (i := 2) (N := some 35) (v := ?_) (a' := ?_) #[false, false, true, false, false, false, false, false, false, false, false, false, false, false, false, false, false, false, false, false, false, false, false, false, false, false, false, false, false, false] rfl rfl (any_of HT_.out (by kernel_rfl)) (fun _ _ _ h => h) (Or.inl ⟨by rfl, ?_⟩) ?_ ?_
                      rotate_left
                      · intro w'
                        go_simp
                        with_reducible rfl
                      rotate_left
                      · simp only [Act.put, List.setIfInBounds_toArray, List.set_cons_zero, List.set_cons_succ, i64_w, i32_w]
                        rfl
                      refine take_ (i := 0) (N := some 33) (v := ?_) (a' := ?_) #[true, false, true, false, false, false, false, false, false, false, false, false, false, false, false, false, false, false, false, false, false, false, false, false, false, false, false, false, false, false] rfl rfl (take_ofW HT_.out HW_.out (by kernel_rfl)) (fun _ _ _ h => h) (Or.inl ⟨by rfl, ?_⟩) hHeld ?_ ?_
                      rotate_left
                      · rintro w' ⟨s0, s1, s2, s3⟩
                        go_simp
                        with_reducible rfl
                      rotate_left
                      · simp only [Act.put, List.setIfInBounds_toArray, List.set_cons_zero, List.set_cons_succ, i64_w, i32_w]
                        rfl
                      refine one_ (i := 1) (N := some 34) #[true, true, true, false, false, false, false, false, false, false, false, false, false, false, false, false, false, false, false, false, false, false, false, false, false, false, false, false, false, false] rfl rfl (one_of HT_.out (by kernel_rfl)) (by decide) (fun K hK => ?_)
                      refine goes_ Try.func29 (by kernel_rfl) rfl #[.agg #[.int .i64 ((rd_T47 l0 x18_1).f0), .int .i64 ((rd_T47 l0 x18_1).f1), .int .u64 ((rd_T47 l0 x18_1).f2), .string ((rd_T47 l0 x18_1).f3)]] (by rfl) rfl rfl (by (try simp only [List.map_toArray, List.map_cons, List.map_nil]); first | done | rfl | (simp only [List.length_drop, List.length_take]; rfl)) ?_
                      with_reducible refine (wire_Field_Bytes_s.calls ((rd_T47 l0 x18_1).f0) ((rd_T47 l0 x18_1).f1) ((rd_T47 l0 x18_1).f2) ((rd_T47 l0 x18_1).f3) t113 _ A21.out).mono ?_
                      rintro e w29 ⟨rfl, hb⟩
                      refine ⟨_, rfl, ?_⟩
                      have n0_ := Aside0.mk (Kd.R_below (by (with_reducible repeat (first | apply Kd.R_alloc | apply Kd.R_drewN | apply Kd.R_drew)); exact HO_5.out) hb)
                      have n1_ := Aside0.mk (blk_below (g := gb109) (o := .cells #[.int .i64 ((rd_T47 l0 x18_1).f0), .int .i64 ((rd_T47 l0 x18_1).f1), .int .u64 ((rd_T47 l0 x18_1).f2), .string ((rd_T47 l0 x18_1).f3)] 47 (0, 0)) (by (with_reducible repeat (first | refine blk_drewN ?_ _ | refine blk_drew ?_ | refine blk_alloc ?_ _)); exact BK109.out) hb)
                      have n2_ := Aside0.mk (blk_below (g := gb111) (o := .cells #[.int .i64 ((rd_T47 l0 x18_1).f0), .int .i64 ((rd_T47 l0 x18_1).f1), .int .u64 ((rd_T47 l0 x18_1).f2), .string ((rd_T47 l0 x18_1).f3)] 50 (0, 0)) (by (with_reducible repeat (first | refine blk_drewN ?_ _ | refine blk_drew ?_ | refine blk_alloc ?_ _)); exact BK111.out) hb)
                      have n3_ := Aside0.mk (below_step (by repeat (first | (with_reducible first | exact HB.out | apply below_alloc | apply pw_below_drewN | apply below_drew1 | refine below_set ?_ GE109.out | refine below_set ?_ GE111.out) | exact HB.out)) hb)
                      clear HO_5
                      clear BK109
                      clear BK111
                      clear HB
                      have HO_5 := n0_
                      have BK109 := n1_
                      have BK111 := n2_
                      have HB := n3_
                      clear n0_ n1_ n2_ n3_
                      (try clear hb)
                      (try clear hb2)
                      (try clear hk)
                      (try clear hi)
                      refine hK.out _ _ ⟨(blk_cell BK109.out 0).trans rfl, (blk_cell BK109.out 1).trans rfl, (blk_cell BK109.out 2).trans rfl, (blk_cell BK109.out 3).trans rfl⟩ (fun hHeld => ?_)
                      clear hK K
                      refine norm_ (a' := ?_) ?_ ?_
                      rotate_left
                      · show Act.put _ (some 34) _ = _
                        simp only [Act.put, List.setIfInBounds_toArray, List.set_cons_zero, List.set_cons_succ, i64_w, i32_w]
                        rfl
                      refine pure_ (i := 3) (N := some 36) (v := ?_) (a' := ?_) #[true, true, true, true, false, false, false, false, false, false, false, false, false, false, false, false, false, false, false, false, false, false, false, false, false, false, false, false, false, false] rfl rfl (any_of HT_.out (by kernel_rfl)) (fun _ _ _ h => h) (Or.inl ⟨by rfl, ?_⟩) ?_ ?_
                      rotate_left
                      · intro w'
                        go_simp
                        with_reducible rfl
                      rotate_left
                      · simp only [Act.put, List.setIfInBounds_toArray, List.set_cons_zero, List.set_cons_succ, i64_w, i32_w]
                        rfl
                      refine pure_ (i := 4) (N := some 37) (v := ?_) (a' := ?_) #[true, true, true, true, true, false, false, false, false, false, false, false, false, false, false, false, false, false, false, false, false, false, false, false, false, false, false, false, false, false] rfl rfl (any_of HT_.out (by kernel_rfl)) (fun _ _ _ h => h) (Or.inl ⟨by rfl, ?_⟩) ?_ ?_
                      rotate_left
                      · intro w'
                        go_simp
                        with_reducible rfl
                      rotate_left
                      · simp only [Act.put, List.setIfInBounds_toArray, List.set_cons_zero, List.set_cons_succ, i64_w, i32_w]
                        rfl
                      refine pure_ (i := 5) (N := some 38) (v := ?_) (a' := ?_) #[true, true, true, true, true, true, false, false, false, false, false, false, false, false, false, false, false, false, false, false, false, false, false, false, false, false, false, false, false, false] rfl rfl (any_of HT_.out (by kernel_rfl)) (fun _ _ _ h => h) (Or.inl ⟨by rfl, ?_⟩) ?_ ?_
                      rotate_left
                      · intro w'
                        go_simp
                        with_reducible rfl
                      rotate_left
                      · simp only [Act.put, List.setIfInBounds_toArray, List.set_cons_zero, List.set_cons_succ, i64_w, i32_w]
                        rfl
                      refine pure_ (i := 7) (N := some 40) (v := ?_) (a' := ?_) #[true, true, true, true, true, true, false, true, false, false, false, false, false, false, false, false, false, false, false, false, false, false, false, false, false, false, false, false, false, false] rfl rfl (any_of HT_.out (by kernel_rfl)) (fun _ _ _ h => h) (Or.inl ⟨by rfl, ?_⟩) ?_ ?_
                      rotate_left
                      · intro w'
                        go_simp
                        with_reducible rfl
                      rotate_left
                      · simp only [Act.put, List.setIfInBounds_toArray, List.set_cons_zero, List.set_cons_succ, i64_w, i32_w]
                        rfl
                      refine pure_ (i := 10) (N := some 43) (v := ?_) (a' := ?_) #[true, true, true, true, true, true, false, true, false, false, true, false, false, false, false, false, false, false, false, false, false, false, false, false, false, false, false, false, false, false] rfl rfl (any_of HT_.out (by kernel_rfl)) (fun _ _ _ h => h) (Or.inl ⟨by rfl, ?_⟩) ?_ ?_
                      rotate_left
                      · intro w'
                        go_simp
                        with_reducible rfl
                      rotate_left
                      · simp only [Act.put, List.setIfInBounds_toArray, List.set_cons_zero, List.set_cons_succ, i64_w, i32_w]
                        rfl
                      refine pure_ (i := 12) (N := some 45) (v := ?_) (a' := ?_) #[true, true, true, true, true, true, false, true, false, false, true, false, true, false, false, false, false, false, false, false, false, false, false, false, false, false, false, false, false, false] rfl rfl (any_of HT_.out (by kernel_rfl)) (fun _ _ _ h => h) (Or.inl ⟨by rfl, ?_⟩) ?_ ?_
                      rotate_left
                      · intro w'
                        go_simp
                        with_reducible rfl
                      rotate_left
                      · simp only [Act.put, List.setIfInBounds_toArray, List.set_cons_zero, List.set_cons_succ, i64_w, i32_w]
                        rfl
                      refine take_ (i := 6) (N := some 39) (v := ?_) (a' := ?_) #[true, true, true, true, true, true, true, true, false, false, true, false, true, false, false, false, false, false, false, false, false, false, false, false, false, false, false, false, false, false] rfl rfl (take_ofW HT_.out HW_.out (by kernel_rfl)) (fun _ _ _ h => h) (Or.inl ⟨by rfl, ?_⟩) hHeld ?_ ?_
                      rotate_left
                      · rintro w' ⟨s0, s1, s2, s3⟩
                        go_simp
                        with_reducible rfl
                      rotate_left
                      · simp only [Act.put, List.setIfInBounds_toArray, List.set_cons_zero, List.set_cons_succ, i64_w, i32_w]
                        rfl
                      refine take_ (i := 8) (N := some 41) (v := ?_) (a' := ?_) #[true, true, true, true, true, true, true, true, true, false, true, false, true, false, false, false, false, false, false, false, false, false, false, false, false, false, false, false, false, false] rfl rfl (take_ofW HT_.out HW_.out (by kernel_rfl)) (fun _ _ _ h => h) (Or.inl ⟨by rfl, ?_⟩) hHeld ?_ ?_
                      rotate_left
                      · rintro w' ⟨s0, s1, s2, s3⟩
                        go_simp
                        with_reducible rfl
                      rotate_left
                      · simp only [Act.put, List.setIfInBounds_toArray, List.set_cons_zero, List.set_cons_succ, i64_w, i32_w]
                        rfl
                      refine take_ (i := 11) (N := some 44) (v := ?_) (a' := ?_) #[true, true, true, true, true, true, true, true, true, false, true, true, true, false, false, false, false, false, false, false, false, false, false, false, false, false, false, false, false, false] rfl rfl (take_ofW HT_.out HW_.out (by kernel_rfl)) (fun _ _ _ h => h) (Or.inl ⟨by rfl, ?_⟩) hHeld ?_ ?_
                      rotate_left
                      · rintro w' ⟨s0, s1, s2, s3⟩
                        go_simp
                        with_reducible rfl
                      rotate_left
                      · simp only [Act.put, List.setIfInBounds_toArray, List.set_cons_zero, List.set_cons_succ, i64_w, i32_w]
                        rfl
                      refine take_ (i := 13) (N := some 46) (v := ?_) (a' := ?_) #[true, true, true, true, true, true, true, true, true, false, true, true, true, true, false, false, false, false, false, false, false, false, false, false, false, false, false, false, false, false] rfl rfl (take_ofW HT_.out HW_.out (by kernel_rfl)) (fun _ _ _ h => h) (Or.inl ⟨by rfl, ?_⟩) hHeld ?_ ?_
                      rotate_left
                      · rintro w' ⟨s0, s1, s2, s3⟩
                        go_simp
                        with_reducible rfl
                      rotate_left
                      · simp only [Act.put, List.setIfInBounds_toArray, List.set_cons_zero, List.set_cons_succ, i64_w, i32_w]
                        rfl
                      refine one_ (i := 9) (N := some 42) #[true, true, true, true, true, true, true, true, true, true, true, true, true, true, false, false, false, false, false, false, false, false, false, false, false, false, false, false, false, false] rfl rfl (one_of HT_.out (by kernel_rfl)) (by decide) (fun K hK => ?_)
                      refine goes_ Try.func30 (by kernel_rfl) rfl #[.int .i64 ((rd_T47 l0 x18_1).f0), .int .u64 ((rd_T47 l0 x18_1).f2)] (by rfl) rfl rfl (by (try simp only [List.map_toArray, List.map_cons, List.map_nil]); first | done | rfl | (simp only [List.length_drop, List.length_take]; rfl)) ?_
                      with_reducible refine (wire_Number_s.calls ((rd_T47 l0 x18_1).f0) ((rd_T47 l0 x18_1).f2) t114 _ A23.out).mono ?_
                      rintro e w30 ⟨rfl, hb⟩
                      refine ⟨_, rfl, ?_⟩
                      have n0_ := Aside0.mk (Kd.R_below (by (with_reducible repeat (first | apply Kd.R_alloc | apply Kd.R_drewN | apply Kd.R_drew)); exact HO_5.out) hb)
                      have n1_ := Aside0.mk (blk_below (g := gb109) (o := .cells #[.int .i64 ((rd_T47 l0 x18_1).f0), .int .i64 ((rd_T47 l0 x18_1).f1), .int .u64 ((rd_T47 l0 x18_1).f2), .string ((rd_T47 l0 x18_1).f3)] 47 (0, 0)) (by (with_reducible repeat (first | refine blk_drewN ?_ _ | refine blk_drew ?_ | refine blk_alloc ?_ _)); exact BK109.out) hb)
                      have n2_ := Aside0.mk (blk_below (g := gb111) (o := .cells #[.int .i64 ((rd_T47 l0 x18_1).f0), .int .i64 ((rd_T47 l0 x18_1).f1), .int .u64 ((rd_T47 l0 x18_1).f2), .string ((rd_T47 l0 x18_1).f3)] 50 (0, 0)) (by (with_reducible repeat (first | refine blk_drewN ?_ _ | refine blk_drew ?_ | refine blk_alloc ?_ _)); exact BK111.out) hb)
                      have n3_ := Aside0.mk (below_step (by repeat (first | (with_reducible first | exact HB.out | apply below_alloc | apply pw_below_drewN | apply below_drew1 | refine below_set ?_ GE109.out | refine below_set ?_ GE111.out) | exact HB.out)) hb)
                      clear HO_5
                      clear BK109
                      clear BK111
                      clear HB
                      have HO_5 := n0_
                      have BK109 := n1_
                      have BK111 := n2_
                      have HB := n3_
                      clear n0_ n1_ n2_ n3_
                      (try clear hb)
                      (try clear hb2)
                      (try clear hk)
                      (try clear hi)
                      refine hK.out _ _ ⟨(blk_cell BK109.out 0).trans rfl, (blk_cell BK109.out 1).trans rfl, (blk_cell BK109.out 2).trans rfl, (blk_cell BK109.out 3).trans rfl⟩ (fun hHeld => ?_)
                      clear hK K
                      refine norm_ (a' := ?_) ?_ ?_
                      rotate_left
                      · show Act.put _ (some 42) _ = _
                        simp only [Act.put, List.setIfInBounds_toArray, List.set_cons_zero, List.set_cons_succ, i64_w, i32_w]
                        rfl
                      refine one_ (i := 14) (N := some 47) #[true, true, true, true, true, true, true, true, true, true, true, true, true, true, true, false, false, false, false, false, false, false, false, false, false, false, false, false, false, false] rfl rfl (one_of HT_.out (by kernel_rfl)) (by decide) (fun K hK => ?_)
                      refine goes_ Try.func31 (by kernel_rfl) rfl #[.int .i64 ((rd_T47 l0 x18_1).f0), .int .u64 ((rd_T47 l0 x18_1).f2)] (by rfl) rfl rfl (by (try simp only [List.map_toArray, List.map_cons, List.map_nil]); first | done | rfl | (simp only [List.length_drop, List.length_take]; rfl)) ?_
                      with_reducible refine (agateref02_Number_s.calls ((rd_T47 l0 x18_1).f0) ((rd_T47 l0 x18_1).f2) t115 _ A24.out).mono ?_
                      rintro e w31 ⟨rfl, hb⟩
                      refine ⟨_, rfl, ?_⟩
                      have n0_ := Aside0.mk (Kd.R_below (by (with_reducible repeat (first | apply Kd.R_alloc | apply Kd.R_drewN | apply Kd.R_drew)); exact HO_5.out) hb)
                      have n1_ := Aside0.mk (blk_below (g := gb109) (o := .cells #[.int .i64 ((rd_T47 l0 x18_1).f0), .int .i64 ((rd_T47 l0 x18_1).f1), .int .u64 ((rd_T47 l0 x18_1).f2), .string ((rd_T47 l0 x18_1).f3)] 47 (0, 0)) (by (with_reducible repeat (first | refine blk_drewN ?_ _ | refine blk_drew ?_ | refine blk_alloc ?_ _)); exact BK109.out) hb)
                      have n2_ := Aside0.mk (blk_below (g := gb111) (o := .cells #[.int .i64 ((rd_T47 l0 x18_1).f0), .int .i64 ((rd_T47 l0 x18_1).f1), .int .u64 ((rd_T47 l0 x18_1).f2), .string ((rd_T47 l0 x18_1).f3)] 50 (0, 0)) (by (with_reducible repeat (first | refine blk_drewN ?_ _ | refine blk_drew ?_ | refine blk_alloc ?_ _)); exact BK111.out) hb)
                      have n3_ := Aside0.mk (below_step (by repeat (first | (with_reducible first | exact HB.out | apply below_alloc | apply pw_below_drewN | apply below_drew1 | refine below_set ?_ GE109.out | refine below_set ?_ GE111.out) | exact HB.out)) hb)
                      clear HO_5
                      clear BK109
                      clear BK111
                      clear HB
                      have HO_5 := n0_
                      have BK109 := n1_
                      have BK111 := n2_
                      have HB := n3_
                      clear n0_ n1_ n2_ n3_
                      (try clear hb)
                      (try clear hb2)
                      (try clear hk)
                      (try clear hi)
                      refine hK.out _ _ ⟨(blk_cell BK109.out 0).trans rfl, (blk_cell BK109.out 1).trans rfl, (blk_cell BK109.out 2).trans rfl, (blk_cell BK109.out 3).trans rfl⟩ (fun hHeld => ?_)
                      clear hK K
                      refine norm_ (a' := ?_) ?_ ?_
                      rotate_left
                      · show Act.put _ (some 47) _ = _
                        simp only [Act.put, List.setIfInBounds_toArray, List.set_cons_zero, List.set_cons_succ, i64_w, i32_w]
                        rfl
                      refine pure_ (i := 15) (N := some 48) (v := ?_) (a' := ?_) #[true, true, true, true, true, true, true, true, true, true, true, true, true, true, true, true, false, false, false, false, false, false, false, false, false, false, false, false, false, false] rfl rfl (any_of HT_.out (by kernel_rfl)) (fun _ _ _ h => h) (Or.inl ⟨by rfl, ?_⟩) ?_ ?_
                      rotate_left
                      · intro w'
                        go_simp
                        with_reducible rfl
                      rotate_left
                      · simp only [Act.put, List.setIfInBounds_toArray, List.set_cons_zero, List.set_cons_succ, i64_w, i32_w]
                        rfl
                      refine pure_ (i := 16) (N := some 49) (v := ?_) (a' := ?_) #[true, true, true, true, true, true, true, true, true, true, true, true, true, true, true, true, true, false, false, false, false, false, false, false, false, false, false, false, false, false] rfl rfl (any_of HT_.out (by kernel_rfl)) (fun _ _ _ h => h) (Or.inl ⟨by rfl, ?_⟩) ?_ ?_
                      rotate_left
                      · intro w'
                        go_simp
                        with_reducible rfl
                      rotate_left
                      · simp only [Act.put, List.setIfInBounds_toArray, List.set_cons_zero, List.set_cons_succ, i64_w, i32_w]
                        rfl
                      refine pure_ (i := 17) (N := some 50) (v := ?_) (a' := ?_) #[true, true, true, true, true, true, true, true, true, true, true, true, true, true, true, true, true, true, false, false, false, false, false, false, false, false, false, false, false, false] rfl rfl (any_of HT_.out (by kernel_rfl)) (fun _ _ _ h => h) (Or.inl ⟨by rfl, ?_⟩) ?_ ?_
                      rotate_left
                      · intro w'
                        go_simp
                        with_reducible rfl
                      rotate_left
                      · simp only [Act.put, List.setIfInBounds_toArray, List.set_cons_zero, List.set_cons_succ, i64_w, i32_w]
                        rfl
                      refine pure_ (i := 18) (N := some 51) (v := ?_) (a' := ?_) #[true, true, true, true, true, true, true, true, true, true, true, true, true, true, true, true, true, true, true, false, false, false, false, false, false, false, false, false, false, false] rfl rfl (any_of HT_.out (by kernel_rfl)) (fun _ _ _ h => h) (Or.inl ⟨by rfl, ?_⟩) ?_ ?_
                      rotate_left
                      · intro w'
                        go_simp
                        with_reducible rfl
                      rotate_left
                      · simp only [Act.put, List.setIfInBounds_toArray, List.set_cons_zero, List.set_cons_succ, i64_w, i32_w]
                        rfl
                      refine pure_ (i := 20) (N := some 53) (v := ?_) (a' := ?_) #[true, true, true, true, true, true, true, true, true, true, true, true, true, true, true, true, true, true, true, false, true, false, false, false, false, false, false, false, false, false] rfl rfl (any_of HT_.out (by kernel_rfl)) (fun _ _ _ h => h) (Or.inl ⟨by rfl, ?_⟩) ?_ ?_
                      rotate_left
                      · intro w'
                        go_simp
                        with_reducible rfl
                      rotate_left
                      · simp only [Act.put, List.setIfInBounds_toArray, List.set_cons_zero, List.set_cons_succ, i64_w, i32_w]
                        rfl
                      refine pure_ (i := 23) (N := some 56) (v := ?_) (a' := ?_) #[true, true, true, true, true, true, true, true, true, true, true, true, true, true, true, true, true, true, true, false, true, false, false, true, false, false, false, false, false, false] rfl rfl (any_of HT_.out (by kernel_rfl)) (fun _ _ _ h => h) (Or.inl ⟨by rfl, ?_⟩) ?_ ?_
                      rotate_left
                      · intro w'
                        go_simp
                        with_reducible rfl
                      rotate_left
                      · simp only [Act.put, List.setIfInBounds_toArray, List.set_cons_zero, List.set_cons_succ, i64_w, i32_w]
                        rfl
                      refine pure_ (i := 25) (N := some 58) (v := ?_) (a' := ?_) #[true, true, true, true, true, true, true, true, true, true, true, true, true, true, true, true, true, true, true, false, true, false, false, true, false, true, false, false, false, false] rfl rfl (any_of HT_.out (by kernel_rfl)) (fun _ _ _ h => h) (Or.inl ⟨by rfl, ?_⟩) ?_ ?_
                      rotate_left
                      · intro w'
                        go_simp
                        with_reducible rfl
                      rotate_left
                      · simp only [Act.put, List.setIfInBounds_toArray, List.set_cons_zero, List.set_cons_succ, i64_w, i32_w]
                        rfl
                      refine take_ (i := 19) (N := some 52) (v := ?_) (a' := ?_) #[true, true, true, true, true, true, true, true, true, true, true, true, true, true, true, true, true, true, true, true, true, false, false, true, false, true, false, false, false, false] rfl rfl (take_ofW HT_.out HW_.out (by kernel_rfl)) (fun _ _ _ h => h) (Or.inl ⟨by rfl, ?_⟩) hHeld ?_ ?_
                      rotate_left
                      · rintro w' ⟨s0, s1, s2, s3⟩
                        go_simp
                        with_reducible rfl
                      rotate_left
                      · simp only [Act.put, List.setIfInBounds_toArray, List.set_cons_zero, List.set_cons_succ, i64_w, i32_w]
                        rfl
                      refine take_ (i := 21) (N := some 54) (v := ?_) (a' := ?_) #[true, true, true, true, true, true, true, true, true, true, true, true, true, true, true, true, true, true, true, true, true, true, false, true, false, true, false, false, false, false] rfl rfl (take_ofW HT_.out HW_.out (by kernel_rfl)) (fun _ _ _ h => h) (Or.inl ⟨by rfl, ?_⟩) hHeld ?_ ?_
                      rotate_left
                      · rintro w' ⟨s0, s1, s2, s3⟩
                        go_simp
                        with_reducible rfl
                      rotate_left
                      · simp only [Act.put, List.setIfInBounds_toArray, List.set_cons_zero, List.set_cons_succ, i64_w, i32_w]
                        rfl
                      refine take_ (i := 24) (N := some 57) (v := ?_) (a' := ?_) #[true, true, true, true, true, true, true, true, true, true, true, true, true, true, true, true, true, true, true, true, true, true, false, true, true, true, false, false, false, false] rfl rfl (take_ofW HT_.out HW_.out (by kernel_rfl)) (fun _ _ _ h => h) (Or.inl ⟨by rfl, ?_⟩) hHeld ?_ ?_
                      rotate_left
                      · rintro w' ⟨s0, s1, s2, s3⟩
                        go_simp
                        with_reducible rfl
                      rotate_left
                      · simp only [Act.put, List.setIfInBounds_toArray, List.set_cons_zero, List.set_cons_succ, i64_w, i32_w]
                        rfl
                      refine take_ (i := 26) (N := some 59) (v := ?_) (a' := ?_) #[true, true, true, true, true, true, true, true, true, true, true, true, true, true, true, true, true, true, true, true, true, true, false, true, true, true, true, false, false, false] rfl rfl (take_ofW HT_.out HW_.out (by kernel_rfl)) (fun _ _ _ h => h) (Or.inl ⟨by rfl, ?_⟩) hHeld ?_ ?_
                      rotate_left
                      · rintro w' ⟨s0, s1, s2, s3⟩
                        go_simp
                        with_reducible rfl
                      rotate_left
                      · simp only [Act.put, List.setIfInBounds_toArray, List.set_cons_zero, List.set_cons_succ, i64_w, i32_w]
                        rfl
                      refine one_ (i := 22) (N := some 55) #[true, true, true, true, true, true, true, true, true, true, true, true, true, true, true, true, true, true, true, true, true, true, true, true, true, true, true, false, false, false] rfl rfl (one_of HT_.out (by kernel_rfl)) (by decide) (fun K hK => ?_)
                      refine goes_ Try.func27 (by kernel_rfl) rfl #[.int .i64 ((rd_T47 l0 x18_1).f0), .string ((rd_T47 l0 x18_1).f3)] (by rfl) rfl rfl (by (try simp only [List.map_toArray, List.map_cons, List.map_nil]); first | done | rfl | (simp only [List.length_drop, List.length_take]; rfl)) ?_
                      with_reducible refine (wire_Text_s.calls ((rd_T47 l0 x18_1).f0) ((rd_T47 l0 x18_1).f3) t116 _ A26.out).mono ?_
                      rintro e w32 ⟨rfl, hb⟩
                      refine ⟨_, rfl, ?_⟩
                      have n0_ := Aside0.mk (Kd.R_below (by (with_reducible repeat (first | apply Kd.R_alloc | apply Kd.R_drewN | apply Kd.R_drew)); exact HO_5.out) hb)
                      have n1_ := Aside0.mk (blk_below (g := gb109) (o := .cells #[.int .i64 ((rd_T47 l0 x18_1).f0), .int .i64 ((rd_T47 l0 x18_1).f1), .int .u64 ((rd_T47 l0 x18_1).f2), .string ((rd_T47 l0 x18_1).f3)] 47 (0, 0)) (by (with_reducible repeat (first | refine blk_drewN ?_ _ | refine blk_drew ?_ | refine blk_alloc ?_ _)); exact BK109.out) hb)
                      have n2_ := Aside0.mk (blk_below (g := gb111) (o := .cells #[.int .i64 ((rd_T47 l0 x18_1).f0), .int .i64 ((rd_T47 l0 x18_1).f1), .int .u64 ((rd_T47 l0 x18_1).f2), .string ((rd_T47 l0 x18_1).f3)] 50 (0, 0)) (by (with_reducible repeat (first | refine blk_drewN ?_ _ | refine blk_drew ?_ | refine blk_alloc ?_ _)); exact BK111.out) hb)
                      have n3_ := Aside0.mk (below_step (by repeat (first | (with_reducible first | exact HB.out | apply below_alloc | apply pw_below_drewN | apply below_drew1 | refine below_set ?_ GE109.out | refine below_set ?_ GE111.out) | exact HB.out)) hb)
                      clear HO_5
                      clear BK109
                      clear BK111
                      clear HB
                      have HO_5 := n0_
                      have BK109 := n1_
                      have BK111 := n2_
                      have HB := n3_
                      clear n0_ n1_ n2_ n3_
                      (try clear hb)
                      (try clear hb2)
                      (try clear hk)
                      (try clear hi)
                      refine hK.out _ _ ⟨(blk_cell BK109.out 0).trans rfl, (blk_cell BK109.out 1).trans rfl, (blk_cell BK109.out 2).trans rfl, (blk_cell BK109.out 3).trans rfl⟩ (fun hHeld => ?_)
                      clear hK K
                      refine norm_ (a' := ?_) ?_ ?_
                      rotate_left
                      · show Act.put _ (some 55) _ = _
                        simp only [Act.put, List.setIfInBounds_toArray, List.set_cons_zero, List.set_cons_succ, i64_w, i32_w]
                        rfl
                      refine one_ (i := 27) (N := some 60) #[true, true, true, true, true, true, true, true, true, true, true, true, true, true, true, true, true, true, true, true, true, true, true, true, true, true, true, true, false, false] rfl rfl (one_of HT_.out (by kernel_rfl)) (by decide) (fun K hK => ?_)
                      refine goes_ Try.func32 (by kernel_rfl) rfl #[.int .i64 ((rd_T47 l0 x18_1).f0), .string ((rd_T47 l0 x18_1).f3)] (by rfl) rfl rfl (by (try simp only [List.map_toArray, List.map_cons, List.map_nil]); first | done | rfl | (simp only [List.length_drop, List.length_take]; rfl)) ?_
                      with_reducible refine (agateref02_Text_s.calls ((rd_T47 l0 x18_1).f0) ((rd_T47 l0 x18_1).f3) t117 _ A27.out).mono ?_
                      rintro e w33 ⟨rfl, hb⟩
                      refine ⟨_, rfl, ?_⟩
                      have n0_ := Aside0.mk (Kd.R_below (by (with_reducible repeat (first | apply Kd.R_alloc | apply Kd.R_drewN | apply Kd.R_drew)); exact HO_5.out) hb)
                      have n1_ := Aside0.mk (blk_below (g := gb109) (o := .cells #[.int .i64 ((rd_T47 l0 x18_1).f0), .int .i64 ((rd_T47 l0 x18_1).f1), .int .u64 ((rd_T47 l0 x18_1).f2), .string ((rd_T47 l0 x18_1).f3)] 47 (0, 0)) (by (with_reducible repeat (first | refine blk_drewN ?_ _ | refine blk_drew ?_ | refine blk_alloc ?_ _)); exact BK109.out) hb)
                      have n2_ := Aside0.mk (blk_below (g := gb111) (o := .cells #[.int .i64 ((rd_T47 l0 x18_1).f0), .int .i64 ((rd_T47 l0 x18_1).f1), .int .u64 ((rd_T47 l0 x18_1).f2), .string ((rd_T47 l0 x18_1).f3)] 50 (0, 0)) (by (with_reducible repeat (first | refine blk_drewN ?_ _ | refine blk_drew ?_ | refine blk_alloc ?_ _)); exact BK111.out) hb)
                      have n3_ := Aside0.mk (below_step (by repeat (first | (with_reducible first | exact HB.out | apply below_alloc | apply pw_below_drewN | apply below_drew1 | refine below_set ?_ GE109.out | refine below_set ?_ GE111.out) | exact HB.out)) hb)
                      clear HO_5
                      clear BK109
                      clear BK111
                      clear HB
                      have HO_5 := n0_
                      have BK109 := n1_
                      have BK111 := n2_
                      have HB := n3_
                      clear n0_ n1_ n2_ n3_
                      (try clear hb)
                      (try clear hb2)
                      (try clear hk)
                      (try clear hi)
                      refine hK.out _ _ ⟨(blk_cell BK109.out 0).trans rfl, (blk_cell BK109.out 1).trans rfl, (blk_cell BK109.out 2).trans rfl, (blk_cell BK109.out 3).trans rfl⟩ (fun hHeld => ?_)
                      clear hK K
                      refine norm_ (a' := ?_) ?_ ?_
                      rotate_left
                      · show Act.put _ (some 60) _ = _
                        simp only [Act.put, List.setIfInBounds_toArray, List.set_cons_zero, List.set_cons_succ, i64_w, i32_w]
                        rfl
                      refine pure_ (i := 28) (N := some 61) (v := ?_) (a' := ?_) #[true, true, true, true, true, true, true, true, true, true, true, true, true, true, true, true, true, true, true, true, true, true, true, true, true, true, true, true, true, false] rfl rfl (any_of HT_.out (by kernel_rfl)) (fun _ _ _ h => h) (Or.inl ⟨by rfl, ?_⟩) ?_ ?_
                      rotate_left
                      · intro w'
                        go_simp
                        with_reducible rfl
                      rotate_left
                      · simp only [Act.put, List.setIfInBounds_toArray, List.set_cons_zero, List.set_cons_succ, i64_w, i32_w]
                        rfl
                      refine pure_ (i := 29) (N := some 62) (v := ?_) (a' := ?_) #[true, true, true, true, true, true, true, true, true, true, true, true, true, true, true, true, true, true, true, true, true, true, true, true, true, true, true, true, true, true] rfl rfl (any_of HT_.out (by kernel_rfl)) (fun _ _ _ h => h) (Or.inl ⟨by rfl, ?_⟩) ?_ ?_
                      rotate_left
                      · intro w'
                        go_simp
                        with_reducible rfl
                      rotate_left
                      · simp only [Act.put, List.setIfInBounds_toArray, List.set_cons_zero, List.set_cons_succ, i64_w, i32_w]
                        rfl
                      refine done_ (done_of HT_.out (by kernel_rfl)) ?_
                      try go_wp2
                      go_meet
                      case rel => exact ⟨_, ((t116.toList != t117.toList)), (by first | rfl | (simp; done) | (simp [*]; done)), H', ⟨by have := HK1.out; first | omega | exact Nat.le_refl _⟩, ⟨by (with_reducible repeat (first | apply Kd.R_alloc | apply Kd.R_drewN | apply Kd.R_drew)); exact Kd.R_mono HO_5.out (fun _ hk => hk.2)⟩, ⟨by (with_reducible repeat (first | refine blk_drewN ?_ _ | refine blk_drew ?_ | refine blk_alloc ?_ _)); exact BK109.out⟩, ⟨by (with_reducible repeat (first | refine blk_drewN ?_ _ | refine blk_drew ?_ | refine blk_alloc ?_ _)); exact BK111.out⟩, ⟨by repeat (first | (with_reducible first | exact HB.out | apply below_alloc | apply pw_below_drewN | apply below_drew1 | refine below_set ?_ GE109.out | refine below_set ?_ GE111.out) | exact HB.out)⟩⟩
                    · rw [if_neg c25] at H
                      have c25b0 : (t114.toList == t115.toList) = false := beq_eq_false_iff_ne.mpr c25
                      have c25b1 : (t114.toList != t115.toList) = true := bne_iff_ne.mpr c25
                      have H' := Aside0.mk H
                      clear H
                      try go_wp2
                      have n0_ := Aside0.mk (Kd.R_drew HO_5.out)
                      have n1_ := Aside0.mk (blk_drew BK109.out)
                      have n2_ := Aside0.mk (blk_drew BK111.out)
                      have n3_ := Aside0.mk (below_drew1 HB.out)
                      clear HO_5
                      clear BK109
                      clear BK111
                      clear HB
                      have HO_5 := n0_
                      have BK109 := n1_
                      have BK111 := n2_
                      have HB := n3_
                      clear n0_ n1_ n2_ n3_
                      refine start_ (n := 30) (S := fun w' => w'.cell? ⟨gb109, 0, none⟩ = some (.int .i64 ((rd_T47 l0 x18_1).f0)) ∧ w'.cell? ⟨gb109, 1, none⟩ = some (.int .i64 ((rd_T47 l0 x18_1).f1)) ∧ w'.cell? ⟨gb109, 2, none⟩ = some (.int .u64 ((rd_T47 l0 x18_1).f2)) ∧ w'.cell? ⟨gb109, 3, none⟩ = some (.string ((rd_T47 l0 x18_1).f3))) (ds := []) #[false, false, false, false, false, false, false, false, false, false, false, false, false, false, false, false, false, false, false, false, false, false, false, false, false, false, false, false, false, false] (by kernel_rfl) rfl rfl ⟨(blk_cell BK109.out 0).trans rfl, (blk_cell BK109.out 1).trans rfl, (blk_cell BK109.out 2).trans rfl, (blk_cell BK109.out 3).trans rfl⟩ (fun hHeld => ?_); refine with_tabW agatelaw02_WireWrites.tab13 agatelaw02_WireWrites.bits13 (fun HT_ HW_ => ?_)
                      generalize w20.drew = w34 at HO_5 BK109 BK111 HB hHeld ⊢
                      refine pure_ (i := 2) (N := some 35) (v := ?_) (a' := ?_) #[false, false, true, false, false, false, false, false, false, false, false, false, false, false, false, false, false, false, false, false, false, false, false, false, false, false, false, false, false, false] rfl rfl (any_of HT_.out (by kernel_rfl)) (fun _ _ _ h => h) (Or.inl ⟨by rfl, ?_⟩) ?_ ?_
                      rotate_left
                      · intro w'
                        go_simp
                        with_reducible rfl
                      rotate_left
                      · simp only [Act.put, List.setIfInBounds_toArray, List.set_cons_zero, List.set_cons_succ, i64_w, i32_w]
                        rfl
                      refine take_ (i := 0) (N := some 33) (v := ?_) (a' := ?_) #[true, false, true, false, false, false, false, false, false, false, false, false, false, false, false, false, false, false, false, false, false, false, false, false, false, false, false, false, false, false] rfl rfl (take_ofW HT_.out HW_.out (by kernel_rfl)) (fun _ _ _ h => h) (Or.inl ⟨by rfl, ?_⟩) hHeld ?_ ?_
                      rotate_left
                      · rintro w' ⟨s0, s1, s2, s3⟩
                        go_simp
                        with_reducible rfl
                      rotate_left
                      · simp only [Act.put, List.setIfInBounds_toArray, List.set_cons_zero, List.set_cons_succ, i64_w, i32_w]
                        rfl
                      refine one_ (i := 1) (N := some 34) #[true, true, true, false, false, false, false, false, false, false, false, false, false, false, false, false, false, false, false, false, false, false, false, false, false, false, false, false, false, false] rfl rfl (one_of HT_.out (by kernel_rfl)) (by decide) (fun K hK => ?_)
                      refine goes_ Try.func29 (by kernel_rfl) rfl #[.agg #[.int .i64 ((rd_T47 l0 x18_1).f0), .int .i64 ((rd_T47 l0 x18_1).f1), .int .u64 ((rd_T47 l0 x18_1).f2), .string ((rd_T47 l0 x18_1).f3)]] (by rfl) rfl rfl (by (try simp only [List.map_toArray, List.map_cons, List.map_nil]); first | done | rfl | (simp only [List.length_drop, List.length_take]; rfl)) ?_
                      with_reducible refine (wire_Field_Bytes_s.calls ((rd_T47 l0 x18_1).f0) ((rd_T47 l0 x18_1).f1) ((rd_T47 l0 x18_1).f2) ((rd_T47 l0 x18_1).f3) t113 _ A21.out).mono ?_
                      rintro e w35 ⟨rfl, hb⟩
                      refine ⟨_, rfl, ?_⟩
                      have n0_ := Aside0.mk (Kd.R_below (by (with_reducible repeat (first | apply Kd.R_alloc | apply Kd.R_drewN | apply Kd.R_drew)); exact HO_5.out) hb)
                      have n1_ := Aside0.mk (blk_below (g := gb109) (o := .cells #[.int .i64 ((rd_T47 l0 x18_1).f0), .int .i64 ((rd_T47 l0 x18_1).f1), .int .u64 ((rd_T47 l0 x18_1).f2), .string ((rd_T47 l0 x18_1).f3)] 47 (0, 0)) (by (with_reducible repeat (first | refine blk_drewN ?_ _ | refine blk_drew ?_ | refine blk_alloc ?_ _)); exact BK109.out) hb)
                      have n2_ := Aside0.mk (blk_below (g := gb111) (o := .cells #[.int .i64 ((rd_T47 l0 x18_1).f0), .int .i64 ((rd_T47 l0 x18_1).f1), .int .u64 ((rd_T47 l0 x18_1).f2), .string ((rd_T47 l0 x18_1).f3)] 50 (0, 0)) (by (with_reducible repeat (first | refine blk_drewN ?_ _ | refine blk_drew ?_ | refine blk_alloc ?_ _)); exact BK111.out) hb)
                      have n3_ := Aside0.mk (below_step (by repeat (first | (with_reducible first | exact HB.out | apply below_alloc | apply pw_below_drewN | apply below_drew1 | refine below_set ?_ GE109.out | refine below_set ?_ GE111.out) | exact HB.out)) hb)
                      clear HO_5
                      clear BK109
                      clear BK111
                      clear HB
                      have HO_5 := n0_
                      have BK109 := n1_
                      have BK111 := n2_
                      have HB := n3_
                      clear n0_ n1_ n2_ n3_
                      (try clear hb)
                      (try clear hb2)
                      (try clear hk)
                      (try clear hi)
                      refine hK.out _ _ ⟨(blk_cell BK109.out 0).trans rfl, (blk_cell BK109.out 1).trans rfl, (blk_cell BK109.out 2).trans rfl, (blk_cell BK109.out 3).trans rfl⟩ (fun hHeld => ?_)
                      clear hK K
                      refine norm_ (a' := ?_) ?_ ?_
                      rotate_left
                      · show Act.put _ (some 34) _ = _
                        simp only [Act.put, List.setIfInBounds_toArray, List.set_cons_zero, List.set_cons_succ, i64_w, i32_w]
                        rfl
                      refine pure_ (i := 3) (N := some 36) (v := ?_) (a' := ?_) #[true, true, true, true, false, false, false, false, false, false, false, false, false, false, false, false, false, false, false, false, false, false, false, false, false, false, false, false, false, false] rfl rfl (any_of HT_.out (by kernel_rfl)) (fun _ _ _ h => h) (Or.inl ⟨by rfl, ?_⟩) ?_ ?_
                      rotate_left
                      · intro w'
                        go_simp
                        with_reducible rfl
                      rotate_left
                      · simp only [Act.put, List.setIfInBounds_toArray, List.set_cons_zero, List.set_cons_succ, i64_w, i32_w]
                        rfl
                      refine pure_ (i := 4) (N := some 37) (v := ?_) (a' := ?_) #[true, true, true, true, true, false, false, false, false, false, false, false, false, false, false, false, false, false, false, false, false, false, false, false, false, false, false, false, false, false] rfl rfl (any_of HT_.out (by kernel_rfl)) (fun _ _ _ h => h) (Or.inl ⟨by rfl, ?_⟩) ?_ ?_
                      rotate_left
                      · intro w'
                        go_simp
                        with_reducible rfl
                      rotate_left
                      · simp only [Act.put, List.setIfInBounds_toArray, List.set_cons_zero, List.set_cons_succ, i64_w, i32_w]
                        rfl
                      refine pure_ (i := 5) (N := some 38) (v := ?_) (a' := ?_) #[true, true, true, true, true, true, false, false, false, false, false, false, false, false, false, false, false, false, false, false, false, false, false, false, false, false, false, false, false, false] rfl rfl (any_of HT_.out (by kernel_rfl)) (fun _ _ _ h => h) (Or.inl ⟨by rfl, ?_⟩) ?_ ?_
                      rotate_left
                      · intro w'
                        go_simp
                        with_reducible rfl
                      rotate_left
                      · simp only [Act.put, List.setIfInBounds_toArray, List.set_cons_zero, List.set_cons_succ, i64_w, i32_w]
                        rfl
                      refine pure_ (i := 7) (N := some 40) (v := ?_) (a' := ?_) #[true, true, true, true, true, true, false, true, false, false, false, false, false, false, false, false, false, false, false, false, false, false, false, false, false, false, false, false, false, false] rfl rfl (any_of HT_.out (by kernel_rfl)) (fun _ _ _ h => h) (Or.inl ⟨by rfl, ?_⟩) ?_ ?_
                      rotate_left
                      · intro w'
                        go_simp
                        with_reducible rfl
                      rotate_left
                      · simp only [Act.put, List.setIfInBounds_toArray, List.set_cons_zero, List.set_cons_succ, i64_w, i32_w]
                        rfl
                      refine pure_ (i := 10) (N := some 43) (v := ?_) (a' := ?_) #[true, true, true, true, true, true, false, true, false, false, true, false, false, false, false, false, false, false, false, false, false, false, false, false, false, false, false, false, false, false] rfl rfl (any_of HT_.out (by kernel_rfl)) (fun _ _ _ h => h) (Or.inl ⟨by rfl, ?_⟩) ?_ ?_
                      rotate_left
                      · intro w'
                        go_simp
                        with_reducible rfl
                      rotate_left
                      · simp only [Act.put, List.setIfInBounds_toArray, List.set_cons_zero, List.set_cons_succ, i64_w, i32_w]
                        rfl
                      refine pure_ (i := 12) (N := some 45) (v := ?_) (a' := ?_) #[true, true, true, true, true, true, false, true, false, false, true, false, true, false, false, false, false, false, false, false, false, false, false, false, false, false, false, false, false, false] rfl rfl (any_of HT_.out (by kernel_rfl)) (fun _ _ _ h => h) (Or.inl ⟨by rfl, ?_⟩) ?_ ?_
                      rotate_left
                      · intro w'
                        go_simp
                        with_reducible rfl
                      rotate_left
                      · simp only [Act.put, List.setIfInBounds_toArray, List.set_cons_zero, List.set_cons_succ, i64_w, i32_w]
                        rfl
                      refine take_ (i := 6) (N := some 39) (v := ?_) (a' := ?_) #[true, true, true, true, true, true, true, true, false, false, true, false, true, false, false, false, false, false, false, false, false, false, false, false, false, false, false, false, false, false] rfl rfl (take_ofW HT_.out HW_.out (by kernel_rfl)) (fun _ _ _ h => h) (Or.inl ⟨by rfl, ?_⟩) hHeld ?_ ?_
                      rotate_left
                      · rintro w' ⟨s0, s1, s2, s3⟩
                        go_simp
                        with_reducible rfl
                      rotate_left
                      · simp only [Act.put, List.setIfInBounds_toArray, List.set_cons_zero, List.set_cons_succ, i64_w, i32_w]
                        rfl
                      refine take_ (i := 8) (N := some 41) (v := ?_) (a' := ?_) #[true, true, true, true, true, true, true, true, true, false, true, false, true, false, false, false, false, false, false, false, false, false, false, false, false, false, false, false, false, false] rfl rfl (take_ofW HT_.out HW_.out (by kernel_rfl)) (fun _ _ _ h => h) (Or.inl ⟨by rfl, ?_⟩) hHeld ?_ ?_
                      rotate_left
                      · rintro w' ⟨s0, s1, s2, s3⟩
                        go_simp
                        with_reducible rfl
                      rotate_left
                      · simp only [Act.put, List.setIfInBounds_toArray, List.set_cons_zero, List.set_cons_succ, i64_w, i32_w]
                        rfl
                      refine take_ (i := 11) (N := some 44) (v := ?_) (a' := ?_) #[true, true, true, true, true, true, true, true, true, false, true, true, true, false, false, false, false, false, false, false, false, false, false, false, false, false, false, false, false, false] rfl rfl (take_ofW HT_.out HW_.out (by kernel_rfl)) (fun _ _ _ h => h) (Or.inl ⟨by rfl, ?_⟩) hHeld ?_ ?_
                      rotate_left
                      · rintro w' ⟨s0, s1, s2, s3⟩
                        go_simp
                        with_reducible rfl
                      rotate_left
                      · simp only [Act.put, List.setIfInBounds_toArray, List.set_cons_zero, List.set_cons_succ, i64_w, i32_w]
                        rfl
                      refine take_ (i := 13) (N := some 46) (v := ?_) (a' := ?_) #[true, true, true, true, true, true, true, true, true, false, true, true, true, true, false, false, false, false, false, false, false, false, false, false, false, false, false, false, false, false] rfl rfl (take_ofW HT_.out HW_.out (by kernel_rfl)) (fun _ _ _ h => h) (Or.inl ⟨by rfl, ?_⟩) hHeld ?_ ?_
                      rotate_left
                      · rintro w' ⟨s0, s1, s2, s3⟩
                        go_simp
                        with_reducible rfl
                      rotate_left
                      · simp only [Act.put, List.setIfInBounds_toArray, List.set_cons_zero, List.set_cons_succ, i64_w, i32_w]
                        rfl
                      refine one_ (i := 9) (N := some 42) #[true, true, true, true, true, true, true, true, true, true, true, true, true, true, false, false, false, false, false, false, false, false, false, false, false, false, false, false, false, false] rfl rfl (one_of HT_.out (by kernel_rfl)) (by decide) (fun K hK => ?_)
                      refine goes_ Try.func30 (by kernel_rfl) rfl #[.int .i64 ((rd_T47 l0 x18_1).f0), .int .u64 ((rd_T47 l0 x18_1).f2)] (by rfl) rfl rfl (by (try simp only [List.map_toArray, List.map_cons, List.map_nil]); first | done | rfl | (simp only [List.length_drop, List.length_take]; rfl)) ?_
                      with_reducible refine (wire_Number_s.calls ((rd_T47 l0 x18_1).f0) ((rd_T47 l0 x18_1).f2) t114 _ A23.out).mono ?_
                      rintro e w36 ⟨rfl, hb⟩
                      refine ⟨_, rfl, ?_⟩
                      have n0_ := Aside0.mk (Kd.R_below (by (with_reducible repeat (first | apply Kd.R_alloc | apply Kd.R_drewN | apply Kd.R_drew)); exact HO_5.out) hb)
                      have n1_ := Aside0.mk (blk_below (g := gb109) (o := .cells #[.int .i64 ((rd_T47 l0 x18_1).f0), .int .i64 ((rd_T47 l0 x18_1).f1), .int .u64 ((rd_T47 l0 x18_1).f2), .string ((rd_T47 l0 x18_1).f3)] 47 (0, 0)) (by (with_reducible repeat (first | refine blk_drewN ?_ _ | refine blk_drew ?_ | refine blk_alloc ?_ _)); exact BK109.out) hb)
                      have n2_ := Aside0.mk (blk_below (g := gb111) (o := .cells #[.int .i64 ((rd_T47 l0 x18_1).f0), .int .i64 ((rd_T47 l0 x18_1).f1), .int .u64 ((rd_T47 l0 x18_1).f2), .string ((rd_T47 l0 x18_1).f3)] 50 (0, 0)) (by (with_reducible repeat (first | refine blk_drewN ?_ _ | refine blk_drew ?_ | refine blk_alloc ?_ _)); exact BK111.out) hb)
                      have n3_ := Aside0.mk (below_step (by repeat (first | (with_reducible first | exact HB.out | apply below_alloc | apply pw_below_drewN | apply below_drew1 | refine below_set ?_ GE109.out | refine below_set ?_ GE111.out) | exact HB.out)) hb)
                      clear HO_5
                      clear BK109
                      clear BK111
                      clear HB
                      have HO_5 := n0_
                      have BK109 := n1_
                      have BK111 := n2_
                      have HB := n3_
                      clear n0_ n1_ n2_ n3_
                      (try clear hb)
                      (try clear hb2)
                      (try clear hk)
                      (try clear hi)
                      refine hK.out _ _ ⟨(blk_cell BK109.out 0).trans rfl, (blk_cell BK109.out 1).trans rfl, (blk_cell BK109.out 2).trans rfl, (blk_cell BK109.out 3).trans rfl⟩ (fun hHeld => ?_)
                      clear hK K
                      refine norm_ (a' := ?_) ?_ ?_
                      rotate_left
                      · show Act.put _ (some 42) _ = _
                        simp only [Act.put, List.setIfInBounds_toArray, List.set_cons_zero, List.set_cons_succ, i64_w, i32_w]
                        rfl
                      refine one_ (i := 14) (N := some 47) #[true, true, true, true, true, true, true, true, true, true, true, true, true, true, true, false, false, false, false, false, false, false, false, false, false, false, false, false, false, false] rfl rfl (one_of HT_.out (by kernel_rfl)) (by decide) (fun K hK => ?_)
                      refine goes_ Try.func31 (by kernel_rfl) rfl #[.int .i64 ((rd_T47 l0 x18_1).f0), .int .u64 ((rd_T47 l0 x18_1).f2)] (by rfl) rfl rfl (by (try simp only [List.map_toArray, List.map_cons, List.map_nil]); first | done | rfl | (simp only [List.length_drop, List.length_take]; rfl)) ?_
                      with_reducible refine (agateref02_Number_s.calls ((rd_T47 l0 x18_1).f0) ((rd_T47 l0 x18_1).f2) t115 _ A24.out).mono ?_
                      rintro e w37 ⟨rfl, hb⟩
                      refine ⟨_, rfl, ?_⟩
                      have n0_ := Aside0.mk (Kd.R_below (by (with_reducible repeat (first | apply Kd.R_alloc | apply Kd.R_drewN | apply Kd.R_drew)); exact HO_5.out) hb)
                      have n1_ := Aside0.mk (blk_below (g := gb109) (o := .cells #[.int .i64 ((rd_T47 l0 x18_1).f0), .int .i64 ((rd_T47 l0 x18_1).f1), .int .u64 ((rd_T47 l0 x18_1).f2), .string ((rd_T47 l0 x18_1).f3)] 47 (0, 0)) (by (with_reducible repeat (first | refine blk_drewN ?_ _ | refine blk_drew ?_ | refine blk_alloc ?_ _)); exact BK109.out) hb)
                      have n2_ := Aside0.mk (blk_below (g := gb111) (o := .cells #[.int .i64 ((rd_T47 l0 x18_1).f0), .int .i64 ((rd_T47 l0 x18_1).f1), .int .u64 ((rd_T47 l0 x18_1).f2), .string ((rd_T47 l0 x18_1).f3)] 50 (0, 0)) (by (with_reducible repeat (first | refine blk_drewN ?_ _ | refine blk_drew ?_ | refine blk_alloc ?_ _)); exact BK111.out) hb)
                      have n3_ := Aside0.mk (below_step (by repeat (first | (with_reducible first | exact HB.out | apply below_alloc | apply pw_below_drewN | apply below_drew1 | refine below_set ?_ GE109.out | refine below_set ?_ GE111.out) | exact HB.out)) hb)
                      clear HO_5
                      clear BK109
                      clear BK111
                      clear HB
                      have HO_5 := n0_
                      have BK109 := n1_
                      have BK111 := n2_
                      have HB := n3_
                      clear n0_ n1_ n2_ n3_
                      (try clear hb)
                      (try clear hb2)
                      (try clear hk)
                      (try clear hi)
                      refine hK.out _ _ ⟨(blk_cell BK109.out 0).trans rfl, (blk_cell BK109.out 1).trans rfl, (blk_cell BK109.out 2).trans rfl, (blk_cell BK109.out 3).trans rfl⟩ (fun hHeld => ?_)
                      clear hK K
                      refine norm_ (a' := ?_) ?_ ?_
                      rotate_left
                      · show Act.put _ (some 47) _ = _
                        simp only [Act.put, List.setIfInBounds_toArray, List.set_cons_zero, List.set_cons_succ, i64_w, i32_w]
                        rfl
                      refine pure_ (i := 15) (N := some 48) (v := ?_) (a' := ?_) #[true, true, true, true, true, true, true, true, true, true, true, true, true, true, true, true, false, false, false, false, false, false, false, false, false, false, false, false, false, false] rfl rfl (any_of HT_.out (by kernel_rfl)) (fun _ _ _ h => h) (Or.inl ⟨by rfl, ?_⟩) ?_ ?_
                      rotate_left
                      · intro w'
                        go_simp
                        with_reducible rfl
                      rotate_left
                      · simp only [Act.put, List.setIfInBounds_toArray, List.set_cons_zero, List.set_cons_succ, i64_w, i32_w]
                        rfl
                      refine pure_ (i := 16) (N := some 49) (v := ?_) (a' := ?_) #[true, true, true, true, true, true, true, true, true, true, true, true, true, true, true, true, true, false, false, false, false, false, false, false, false, false, false, false, false, false] rfl rfl (any_of HT_.out (by kernel_rfl)) (fun _ _ _ h => h) (Or.inl ⟨by rfl, ?_⟩) ?_ ?_
                      rotate_left
                      · intro w'
                        go_simp
                        with_reducible rfl
                      rotate_left
                      · simp only [Act.put, List.setIfInBounds_toArray, List.set_cons_zero, List.set_cons_succ, i64_w, i32_w]
                        rfl
                      refine pure_ (i := 17) (N := some 50) (v := ?_) (a' := ?_) #[true, true, true, true, true, true, true, true, true, true, true, true, true, true, true, true, true, true, false, false, false, false, false, false, false, false, false, false, false, false] rfl rfl (any_of HT_.out (by kernel_rfl)) (fun _ _ _ h => h) (Or.inl ⟨by rfl, ?_⟩) ?_ ?_
                      rotate_left
                      · intro w'
                        go_simp
                        with_reducible rfl
                      rotate_left
                      · simp only [Act.put, List.setIfInBounds_toArray, List.set_cons_zero, List.set_cons_succ, i64_w, i32_w]
                        rfl
                      refine pure_ (i := 18) (N := some 51) (v := undef) (a' := ?_) #[true, true, true, true, true, true, true, true, true, true, true, true, true, true, true, true, true, true, true, false, false, false, false, false, false, false, false, false, false, false] rfl rfl (any_of HT_.out (by kernel_rfl)) (fun _ _ _ h => h) (Or.inr ⟨by rfl, rfl⟩) ?_ ?_
                      rotate_left
                      · simp only [Act.put, List.setIfInBounds_toArray, List.set_cons_zero, List.set_cons_succ, i64_w, i32_w]
                        rfl
                      refine pure_ (i := 19) (N := some 52) (v := undef) (a' := ?_) #[true, true, true, true, true, true, true, true, true, true, true, true, true, true, true, true, true, true, true, true, false, false, false, false, false, false, false, false, false, false] rfl rfl (any_of HT_.out (by kernel_rfl)) (fun _ _ _ h => h) (Or.inr ⟨by rfl, rfl⟩) ?_ ?_
                      rotate_left
                      · simp only [Act.put, List.setIfInBounds_toArray, List.set_cons_zero, List.set_cons_succ, i64_w, i32_w]
                        rfl
                      refine pure_ (i := 20) (N := some 53) (v := undef) (a' := ?_) #[true, true, true, true, true, true, true, true, true, true, true, true, true, true, true, true, true, true, true, true, true, false, false, false, false, false, false, false, false, false] rfl rfl (any_of HT_.out (by kernel_rfl)) (fun _ _ _ h => h) (Or.inr ⟨by rfl, rfl⟩) ?_ ?_
                      rotate_left
                      · simp only [Act.put, List.setIfInBounds_toArray, List.set_cons_zero, List.set_cons_succ, i64_w, i32_w]
                        rfl
                      refine pure_ (i := 21) (N := some 54) (v := undef) (a' := ?_) #[true, true, true, true, true, true, true, true, true, true, true, true, true, true, true, true, true, true, true, true, true, true, false, false, false, false, false, false, false, false] rfl rfl (any_of HT_.out (by kernel_rfl)) (fun _ _ _ h => h) (Or.inr ⟨by rfl, rfl⟩) ?_ ?_
                      rotate_left
                      · simp only [Act.put, List.setIfInBounds_toArray, List.set_cons_zero, List.set_cons_succ, i64_w, i32_w]
                        rfl
                      refine pure_ (i := 22) (N := some 55) (v := undef) (a' := ?_) #[true, true, true, true, true, true, true, true, true, true, true, true, true, true, true, true, true, true, true, true, true, true, true, false, false, false, false, false, false, false] rfl rfl (any_of HT_.out (by kernel_rfl)) (fun _ _ _ h => h) (Or.inr ⟨by rfl, rfl⟩) ?_ ?_
                      rotate_left
                      · simp only [Act.put, List.setIfInBounds_toArray, List.set_cons_zero, List.set_cons_succ, i64_w, i32_w]
                        rfl
                      refine pure_ (i := 23) (N := some 56) (v := undef) (a' := ?_) #[true, true, true, true, true, true, true, true, true, true, true, true, true, true, true, true, true, true, true, true, true, true, true, true, false, false, false, false, false, false] rfl rfl (any_of HT_.out (by kernel_rfl)) (fun _ _ _ h => h) (Or.inr ⟨by rfl, rfl⟩) ?_ ?_
                      rotate_left
                      · simp only [Act.put, List.setIfInBounds_toArray, List.set_cons_zero, List.set_cons_succ, i64_w, i32_w]
                        rfl
                      refine pure_ (i := 24) (N := some 57) (v := undef) (a' := ?_) #[true, true, true, true, true, true, true, true, true, true, true, true, true, true, true, true, true, true, true, true, true, true, true, true, true, false, false, false, false, false] rfl rfl (any_of HT_.out (by kernel_rfl)) (fun _ _ _ h => h) (Or.inr ⟨by rfl, rfl⟩) ?_ ?_
                      rotate_left
                      · simp only [Act.put, List.setIfInBounds_toArray, List.set_cons_zero, List.set_cons_succ, i64_w, i32_w]
                        rfl
                      refine pure_ (i := 25) (N := some 58) (v := undef) (a' := ?_) #[true, true, true, true, true, true, true, true, true, true, true, true, true, true, true, true, true, true, true, true, true, true, true, true, true, true, false, false, false, false] rfl rfl (any_of HT_.out (by kernel_rfl)) (fun _ _ _ h => h) (Or.inr ⟨by rfl, rfl⟩) ?_ ?_
                      rotate_left
                      · simp only [Act.put, List.setIfInBounds_toArray, List.set_cons_zero, List.set_cons_succ, i64_w, i32_w]
                        rfl
                      refine pure_ (i := 26) (N := some 59) (v := undef) (a' := ?_) #[true, true, true, true, true, true, true, true, true, true, true, true, true, true, true, true, true, true, true, true, true, true, true, true, true, true, true, false, false, false] rfl rfl (any_of HT_.out (by kernel_rfl)) (fun _ _ _ h => h) (Or.inr ⟨by rfl, rfl⟩) ?_ ?_
                      rotate_left
                      · simp only [Act.put, List.setIfInBounds_toArray, List.set_cons_zero, List.set_cons_succ, i64_w, i32_w]
                        rfl
                      refine pure_ (i := 27) (N := some 60) (v := undef) (a' := ?_) #[true, true, true, true, true, true, true, true, true, true, true, true, true, true, true, true, true, true, true, true, true, true, true, true, true, true, true, true, false, false] rfl rfl (any_of HT_.out (by kernel_rfl)) (fun _ _ _ h => h) (Or.inr ⟨by rfl, rfl⟩) ?_ ?_
                      rotate_left
                      · simp only [Act.put, List.setIfInBounds_toArray, List.set_cons_zero, List.set_cons_succ, i64_w, i32_w]
                        rfl
                      refine pure_ (i := 28) (N := some 61) (v := undef) (a' := ?_) #[true, true, true, true, true, true, true, true, true, true, true, true, true, true, true, true, true, true, true, true, true, true, true, true, true, true, true, true, true, false] rfl rfl (any_of HT_.out (by kernel_rfl)) (fun _ _ _ h => h) (Or.inr ⟨by rfl, rfl⟩) ?_ ?_
                      rotate_left
                      · simp only [Act.put, List.setIfInBounds_toArray, List.set_cons_zero, List.set_cons_succ, i64_w, i32_w]
                        rfl
                      refine pure_ (i := 29) (N := some 62) (v := ?_) (a' := ?_) #[true, true, true, true, true, true, true, true, true, true, true, true, true, true, true, true, true, true, true, true, true, true, true, true, true, true, true, true, true, true] rfl rfl (any_of HT_.out (by kernel_rfl)) (fun _ _ _ h => h) (Or.inl ⟨by rfl, ?_⟩) ?_ ?_
                      rotate_left
                      · intro w'
                        go_simp
                        with_reducible rfl
                      rotate_left
                      · simp only [Act.put, List.setIfInBounds_toArray, List.set_cons_zero, List.set_cons_succ, i64_w, i32_w]
                        rfl
                      refine done_ (done_of HT_.out (by kernel_rfl)) ?_
                      try go_wp2
                      go_meet
                      case rel => exact ⟨_, (true), (by first | rfl | (simp; done) | (simp [*]; done)), H', ⟨by have := HK1.out; first | omega | exact Nat.le_refl _⟩, ⟨by (with_reducible repeat (first | apply Kd.R_alloc | apply Kd.R_drewN | apply Kd.R_drew)); exact Kd.R_mono HO_5.out (fun _ hk => hk.2)⟩, ⟨by (with_reducible repeat (first | refine blk_drewN ?_ _ | refine blk_drew ?_ | refine blk_alloc ?_ _)); exact BK109.out⟩, ⟨by (with_reducible repeat (first | refine blk_drewN ?_ _ | refine blk_drew ?_ | refine blk_alloc ?_ _)); exact BK111.out⟩, ⟨by repeat (first | (with_reducible first | exact HB.out | apply below_alloc | apply pw_below_drewN | apply below_drew1 | refine below_set ?_ GE109.out | refine below_set ?_ GE111.out) | exact HB.out)⟩⟩
                  · rw [if_neg c22] at H
                    have c22b0 : (t113.toList == t112.toList) = false := beq_eq_false_iff_ne.mpr c22
                    have c22b1 : (t113.toList != t112.toList) = true := bne_iff_ne.mpr c22
                    (first | rw [c22b0] | (simp only [i64_w, i32_w]; rw [c22b0]) | skip)
                    have H' := Aside0.mk H
                    clear H
                    try go_wp2
                    have n0_ := Aside0.mk (Kd.R_drew HO_5.out)
                    have n1_ := Aside0.mk (blk_drew BK109.out)
                    have n2_ := Aside0.mk (blk_drew BK111.out)
                    have n3_ := Aside0.mk (below_drew1 HB.out)
                    clear HO_5
                    clear BK109
                    clear BK111
                    clear HB
                    have HO_5 := n0_
                    have BK109 := n1_
                    have BK111 := n2_
                    have HB := n3_
                    clear n0_ n1_ n2_ n3_
                    refine start_ (n := 30) (S := fun w' => w'.cell? ⟨gb109, 0, none⟩ = some (.int .i64 ((rd_T47 l0 x18_1).f0)) ∧ w'.cell? ⟨gb109, 1, none⟩ = some (.int .i64 ((rd_T47 l0 x18_1).f1)) ∧ w'.cell? ⟨gb109, 2, none⟩ = some (.int .u64 ((rd_T47 l0 x18_1).f2)) ∧ w'.cell? ⟨gb109, 3, none⟩ = some (.string ((rd_T47 l0 x18_1).f3))) (ds := []) #[false, false, false, false, false, false, false, false, false, false, false, false, false, false, false, false, false, false, false, false, false, false, false, false, false, false, false, false, false, false] (by kernel_rfl) rfl rfl ⟨(blk_cell BK109.out 0).trans rfl, (blk_cell BK109.out 1).trans rfl, (blk_cell BK109.out 2).trans rfl, (blk_cell BK109.out 3).trans rfl⟩ (fun hHeld => ?_); refine with_tabW agatelaw02_WireWrites.tab13 agatelaw02_WireWrites.bits13 (fun HT_ HW_ => ?_)
                    generalize w20.drew = w38 at HO_5 BK109 BK111 HB hHeld ⊢
                    refine pure_ (i := 2) (N := some 35) (v := ?_) (a' := ?_) #[false, false, true, false, false, false, false, false, false, false, false, false, false, false, false, false, false, false, false, false, false, false, false, false, false, false, false, false, false, false] rfl rfl (any_of HT_.out (by kernel_rfl)) (fun _ _ _ h => h) (Or.inl ⟨by rfl, ?_⟩) ?_ ?_
                    rotate_left
                    · intro w'
                      go_simp
                      with_reducible rfl
                    rotate_left
                    · simp only [Act.put, List.setIfInBounds_toArray, List.set_cons_zero, List.set_cons_succ, i64_w, i32_w]
                      rfl
                    refine take_ (i := 0) (N := some 33) (v := ?_) (a' := ?_) #[true, false, true, false, false, false, false, false, false, false, false, false, false, false, false, false, false, false, false, false, false, false, false, false, false, false, false, false, false, false] rfl rfl (take_ofW HT_.out HW_.out (by kernel_rfl)) (fun _ _ _ h => h) (Or.inl ⟨by rfl, ?_⟩) hHeld ?_ ?_
                    rotate_left
                    · rintro w' ⟨s0, s1, s2, s3⟩
                      go_simp
                      with_reducible rfl
                    rotate_left
                    · simp only [Act.put, List.setIfInBounds_toArray, List.set_cons_zero, List.set_cons_succ, i64_w, i32_w]
                      rfl
                    refine one_ (i := 1) (N := some 34) #[true, true, true, false, false, false, false, false, false, false, false, false, false, false, false, false, false, false, false, false, false, false, false, false, false, false, false, false, false, false] rfl rfl (one_of HT_.out (by kernel_rfl)) (by decide) (fun K hK => ?_)
                    refine goes_ Try.func29 (by kernel_rfl) rfl #[.agg #[.int .i64 ((rd_T47 l0 x18_1).f0), .int .i64 ((rd_T47 l0 x18_1).f1), .int .u64 ((rd_T47 l0 x18_1).f2), .string ((rd_T47 l0 x18_1).f3)]] (by rfl) rfl rfl (by (try simp only [List.map_toArray, List.map_cons, List.map_nil]); first | done | rfl | (simp only [List.length_drop, List.length_take]; rfl)) ?_
                    with_reducible refine (wire_Field_Bytes_s.calls ((rd_T47 l0 x18_1).f0) ((rd_T47 l0 x18_1).f1) ((rd_T47 l0 x18_1).f2) ((rd_T47 l0 x18_1).f3) t113 _ A21.out).mono ?_
                    rintro e w39 ⟨rfl, hb⟩
                    refine ⟨_, rfl, ?_⟩
                    have n0_ := Aside0.mk (Kd.R_below (by (with_reducible repeat (first | apply Kd.R_alloc | apply Kd.R_drewN | apply Kd.R_drew)); exact HO_5.out) hb)
                    have n1_ := Aside0.mk (blk_below (g := gb109) (o := .cells #[.int .i64 ((rd_T47 l0 x18_1).f0), .int .i64 ((rd_T47 l0 x18_1).f1), .int .u64 ((rd_T47 l0 x18_1).f2), .string ((rd_T47 l0 x18_1).f3)] 47 (0, 0)) (by (with_reducible repeat (first | refine blk_drewN ?_ _ | refine blk_drew ?_ | refine blk_alloc ?_ _)); exact BK109.out) hb)
                    have n2_ := Aside0.mk (blk_below (g := gb111) (o := .cells #[.int .i64 ((rd_T47 l0 x18_1).f0), .int .i64 ((rd_T47 l0 x18_1).f1), .int .u64 ((rd_T47 l0 x18_1).f2), .string ((rd_T47 l0 x18_1).f3)] 50 (0, 0)) (by (with_reducible repeat (first | refine blk_drewN ?_ _ | refine blk_drew ?_ | refine blk_alloc ?_ _)); exact BK111.out) hb)
                    have n3_ := Aside0.mk (below_step (by repeat (first | (with_reducible first | exact HB.out | apply below_alloc | apply pw_below_drewN | apply below_drew1 | refine below_set ?_ GE109.out | refine below_set ?_ GE111.out) | exact HB.out)) hb)
                    clear HO_5
                    clear BK109
                    clear BK111
                    clear HB
                    have HO_5 := n0_
                    have BK109 := n1_
                    have BK111 := n2_
                    have HB := n3_
                    clear n0_ n1_ n2_ n3_
                    (try clear hb)
                    (try clear hb2)
                    (try clear hk)
                    (try clear hi)
                    refine hK.out _ _ ⟨(blk_cell BK109.out 0).trans rfl, (blk_cell BK109.out 1).trans rfl, (blk_cell BK109.out 2).trans rfl, (blk_cell BK109.out 3).trans rfl⟩ (fun hHeld => ?_)
                    clear hK K
                    refine norm_ (a' := ?_) ?_ ?_
                    rotate_left
                    · show Act.put _ (some 34) _ = _
                      simp only [Act.put, List.setIfInBounds_toArray, List.set_cons_zero, List.set_cons_succ, i64_w, i32_w]
                      rfl
                    refine pure_ (i := 3) (N := some 36) (v := ?_) (a' := ?_) #[true, true, true, true, false, false, false, false, false, false, false, false, false, false, false, false, false, false, false, false, false, false, false, false, false, false, false, false, false, false] rfl rfl (any_of HT_.out (by kernel_rfl)) (fun _ _ _ h => h) (Or.inl ⟨by rfl, ?_⟩) ?_ ?_
                    rotate_left
                    · intro w'
                      go_simp
                      with_reducible rfl
                    rotate_left
                    · simp only [Act.put, List.setIfInBounds_toArray, List.set_cons_zero, List.set_cons_succ, i64_w, i32_w]
                      rfl
                    refine pure_ (i := 4) (N := some 37) (v := ?_) (a' := ?_) #[true, true, true, true, true, false, false, false, false, false, false, false, false, false, false, false, false, false, false, false, false, false, false, false, false, false, false, false, false, false] rfl rfl (any_of HT_.out (by kernel_rfl)) (fun _ _ _ h => h) (Or.inl ⟨by rfl, ?_⟩) ?_ ?_
                    rotate_left
                    · intro w'
                      go_simp
                      with_reducible rfl
                    rotate_left
                    · simp only [Act.put, List.setIfInBounds_toArray, List.set_cons_zero, List.set_cons_succ, i64_w, i32_w]
                      rfl
                    refine pure_ (i := 5) (N := some 38) (v := undef) (a' := ?_) #[true, true, true, true, true, true, false, false, false, false, false, false, false, false, false, false, false, false, false, false, false, false, false, false, false, false, false, false, false, false] rfl rfl (any_of HT_.out (by kernel_rfl)) (fun _ _ _ h => h) (Or.inr ⟨by rfl, rfl⟩) ?_ ?_
                    rotate_left
                    · simp only [Act.put, List.setIfInBounds_toArray, List.set_cons_zero, List.set_cons_succ, i64_w, i32_w]
                      rfl
                    refine pure_ (i := 6) (N := some 39) (v := undef) (a' := ?_) #[true, true, true, true, true, true, true, false, false, false, false, false, false, false, false, false, false, false, false, false, false, false, false, false, false, false, false, false, false, false] rfl rfl (any_of HT_.out (by kernel_rfl)) (fun _ _ _ h => h) (Or.inr ⟨by rfl, rfl⟩) ?_ ?_
                    rotate_left
                    · simp only [Act.put, List.setIfInBounds_toArray, List.set_cons_zero, List.set_cons_succ, i64_w, i32_w]
                      rfl
                    refine pure_ (i := 7) (N := some 40) (v := undef) (a' := ?_) #[true, true, true, true, true, true, true, true, false, false, false, false, false, false, false, false, false, false, false, false, false, false, false, false, false, false, false, false, false, false] rfl rfl (any_of HT_.out (by kernel_rfl)) (fun _ _ _ h => h) (Or.inr ⟨by rfl, rfl⟩) ?_ ?_
                    rotate_left
                    · simp only [Act.put, List.setIfInBounds_toArray, List.set_cons_zero, List.set_cons_succ, i64_w, i32_w]
                      rfl
                    refine pure_ (i := 8) (N := some 41) (v := undef) (a' := ?_) #[true, true, true, true, true, true, true, true, true, false, false, false, false, false, false, false, false, false, false, false, false, false, false, false, false, false, false, false, false, false] rfl rfl (any_of HT_.out (by kernel_rfl)) (fun _ _ _ h => h) (Or.inr ⟨by rfl, rfl⟩) ?_ ?_
                    rotate_left
                    · simp only [Act.put, List.setIfInBounds_toArray, List.set_cons_zero, List.set_cons_succ, i64_w, i32_w]
                      rfl
                    refine pure_ (i := 9) (N := some 42) (v := undef) (a' := ?_) #[true, true, true, true, true, true, true, true, true, true, false, false, false, false, false, false, false, false, false, false, false, false, false, false, false, false, false, false, false, false] rfl rfl (any_of HT_.out (by kernel_rfl)) (fun _ _ _ h => h) (Or.inr ⟨by rfl, rfl⟩) ?_ ?_
                    rotate_left
                    · simp only [Act.put, List.setIfInBounds_toArray, List.set_cons_zero, List.set_cons_succ, i64_w, i32_w]
                      rfl
                    refine pure_ (i := 10) (N := some 43) (v := undef) (a' := ?_) #[true, true, true, true, true, true, true, true, true, true, true, false, false, false, false, false, false, false, false, false, false, false, false, false, false, false, false, false, false, false] rfl rfl (any_of HT_.out (by kernel_rfl)) (fun _ _ _ h => h) (Or.inr ⟨by rfl, rfl⟩) ?_ ?_
                    rotate_left
                    · simp only [Act.put, List.setIfInBounds_toArray, List.set_cons_zero, List.set_cons_succ, i64_w, i32_w]
                      rfl
                    refine pure_ (i := 11) (N := some 44) (v := undef) (a' := ?_) #[true, true, true, true, true, true, true, true, true, true, true, true, false, false, false, false, false, false, false, false, false, false, false, false, false, false, false, false, false, false] rfl rfl (any_of HT_.out (by kernel_rfl)) (fun _ _ _ h => h) (Or.inr ⟨by rfl, rfl⟩) ?_ ?_
                    rotate_left
                    · simp only [Act.put, List.setIfInBounds_toArray, List.set_cons_zero, List.set_cons_succ, i64_w, i32_w]
                      rfl
                    refine pure_ (i := 12) (N := some 45) (v := undef) (a' := ?_) #[true, true, true, true, true, true, true, true, true, true, true, true, true, false, false, false, false, false, false, false, false, false, false, false, false, false, false, false, false, false] rfl rfl (any_of HT_.out (by kernel_rfl)) (fun _ _ _ h => h) (Or.inr ⟨by rfl, rfl⟩) ?_ ?_
                    rotate_left
                    · simp only [Act.put, List.setIfInBounds_toArray, List.set_cons_zero, List.set_cons_succ, i64_w, i32_w]
                      rfl
                    refine pure_ (i := 13) (N := some 46) (v := undef) (a' := ?_) #[true, true, true, true, true, true, true, true, true, true, true, true, true, true, false, false, false, false, false, false, false, false, false, false, false, false, false, false, false, false] rfl rfl (any_of HT_.out (by kernel_rfl)) (fun _ _ _ h => h) (Or.inr ⟨by rfl, rfl⟩) ?_ ?_
                    rotate_left
                    · simp only [Act.put, List.setIfInBounds_toArray, List.set_cons_zero, List.set_cons_succ, i64_w, i32_w]
                      rfl
                    refine pure_ (i := 14) (N := some 47) (v := undef) (a' := ?_) #[true, true, true, true, true, true, true, true, true, true, true, true, true, true, true, false, false, false, false, false, false, false, false, false, false, false, false, false, false, false] rfl rfl (any_of HT_.out (by kernel_rfl)) (fun _ _ _ h => h) (Or.inr ⟨by rfl, rfl⟩) ?_ ?_
                    rotate_left
                    · simp only [Act.put, List.setIfInBounds_toArray, List.set_cons_zero, List.set_cons_succ, i64_w, i32_w]
                      rfl
                    refine pure_ (i := 15) (N := some 48) (v := undef) (a' := ?_) #[true, true, true, true, true, true, true, true, true, true, true, true, true, true, true, true, false, false, false, false, false, false, false, false, false, false, false, false, false, false] rfl rfl (any_of HT_.out (by kernel_rfl)) (fun _ _ _ h => h) (Or.inr ⟨by rfl, rfl⟩) ?_ ?_
                    rotate_left
                    · simp only [Act.put, List.setIfInBounds_toArray, List.set_cons_zero, List.set_cons_succ, i64_w, i32_w]
                      rfl
                    refine pure_ (i := 16) (N := some 49) (v := ?_) (a' := ?_) #[true, true, true, true, true, true, true, true, true, true, true, true, true, true, true, true, true, false, false, false, false, false, false, false, false, false, false, false, false, false] rfl rfl (any_of HT_.out (by kernel_rfl)) (fun _ _ _ h => h) (Or.inl ⟨by rfl, ?_⟩) ?_ ?_
                    rotate_left
                    · intro w'
                      go_simp
                      with_reducible rfl
                    rotate_left
                    · simp only [Act.put, List.setIfInBounds_toArray, List.set_cons_zero, List.set_cons_succ, i64_w, i32_w]
                      rfl
                    refine pure_ (i := 17) (N := some 50) (v := ?_) (a' := ?_) #[true, true, true, true, true, true, true, true, true, true, true, true, true, true, true, true, true, true, false, false, false, false, false, false, false, false, false, false, false, false] rfl rfl (any_of HT_.out (by kernel_rfl)) (fun _ _ _ h => h) (Or.inl ⟨by rfl, ?_⟩) ?_ ?_
                    rotate_left
                    · intro w'
                      go_simp
                      with_reducible rfl
                    rotate_left
                    · simp only [Act.put, List.setIfInBounds_toArray, List.set_cons_zero, List.set_cons_succ, i64_w, i32_w]
                      rfl
                    refine pure_ (i := 18) (N := some 51) (v := undef) (a' := ?_) #[true, true, true, true, true, true, true, true, true, true, true, true, true, true, true, true, true, true, true, false, false, false, false, false, false, false, false, false, false, false] rfl rfl (any_of HT_.out (by kernel_rfl)) (fun _ _ _ h => h) (Or.inr ⟨by rfl, rfl⟩) ?_ ?_
                    rotate_left
                    · simp only [Act.put, List.setIfInBounds_toArray, List.set_cons_zero, List.set_cons_succ, i64_w, i32_w]
                      rfl
                    refine pure_ (i := 19) (N := some 52) (v := undef) (a' := ?_) #[true, true, true, true, true, true, true, true, true, true, true, true, true, true, true, true, true, true, true, true, false, false, false, false, false, false, false, false, false, false] rfl rfl (any_of HT_.out (by kernel_rfl)) (fun _ _ _ h => h) (Or.inr ⟨by rfl, rfl⟩) ?_ ?_
                    rotate_left
                    · simp only [Act.put, List.setIfInBounds_toArray, List.set_cons_zero, List.set_cons_succ, i64_w, i32_w]
                      rfl
                    refine pure_ (i := 20) (N := some 53) (v := undef) (a' := ?_) #[true, true, true, true, true, true, true, true, true, true, true, true, true, true, true, true, true, true, true, true, true, false, false, false, false, false, false, false, false, false] rfl rfl (any_of HT_.out (by kernel_rfl)) (fun _ _ _ h => h) (Or.inr ⟨by rfl, rfl⟩) ?_ ?_
                    rotate_left
                    · simp only [Act.put, List.setIfInBounds_toArray, List.set_cons_zero, List.set_cons_succ, i64_w, i32_w]
                      rfl
                    refine pure_ (i := 21) (N := some 54) (v := undef) (a' := ?_) #[true, true, true, true, true, true, true, true, true, true, true, true, true, true, true, true, true, true, true, true, true, true, false, false, false, false, false, false, false, false] rfl rfl (any_of HT_.out (by kernel_rfl)) (fun _ _ _ h => h) (Or.inr ⟨by rfl, rfl⟩) ?_ ?_
                    rotate_left
                    · simp only [Act.put, List.setIfInBounds_toArray, List.set_cons_zero, List.set_cons_succ, i64_w, i32_w]
                      rfl
                    refine pure_ (i := 22) (N := some 55) (v := undef) (a' := ?_) #[true, true, true, true, true, true, true, true, true, true, true, true, true, true, true, true, true, true, true, true, true, true, true, false, false, false, false, false, false, false] rfl rfl (any_of HT_.out (by kernel_rfl)) (fun _ _ _ h => h) (Or.inr ⟨by rfl, rfl⟩) ?_ ?_
                    rotate_left
                    · simp only [Act.put, List.setIfInBounds_toArray, List.set_cons_zero, List.set_cons_succ, i64_w, i32_w]
                      rfl
                    refine pure_ (i := 23) (N := some 56) (v := undef) (a' := ?_) #[true, true, true, true, true, true, true, true, true, true, true, true, true, true, true, true, true, true, true, true, true, true, true, true, false, false, false, false, false, false] rfl rfl (any_of HT_.out (by kernel_rfl)) (fun _ _ _ h => h) (Or.inr ⟨by rfl, rfl⟩) ?_ ?_
                    rotate_left
                    · simp only [Act.put, List.setIfInBounds_toArray, List.set_cons_zero, List.set_cons_succ, i64_w, i32_w]
                      rfl
                    refine pure_ (i := 24) (N := some 57) (v := undef) (a' := ?_) #[true, true, true, true, true, true, true, true, true, true, true, true, true, true, true, true, true, true, true, true, true, true, true, true, true, false, false, false, false, false] rfl rfl (any_of HT_.out (by kernel_rfl)) (fun _ _ _ h => h) (Or.inr ⟨by rfl, rfl⟩) ?_ ?_
                    rotate_left
                    · simp only [Act.put, List.setIfInBounds_toArray, List.set_cons_zero, List.set_cons_succ, i64_w, i32_w]
                      rfl
                    refine pure_ (i := 25) (N := some 58) (v := undef) (a' := ?_) #[true, true, true, true, true, true, true, true, true, true, true, true, true, true, true, true, true, true, true, true, true, true, true, true, true, true, false, false, false, false] rfl rfl (any_of HT_.out (by kernel_rfl)) (fun _ _ _ h => h) (Or.inr ⟨by rfl, rfl⟩) ?_ ?_
                    rotate_left
                    · simp only [Act.put, List.setIfInBounds_toArray, List.set_cons_zero, List.set_cons_succ, i64_w, i32_w]
                      rfl
                    refine pure_ (i := 26) (N := some 59) (v := undef) (a' := ?_) #[true, true, true, true, true, true, true, true, true, true, true, true, true, true, true, true, true, true, true, true, true, true, true, true, true, true, true, false, false, false] rfl rfl (any_of HT_.out (by kernel_rfl)) (fun _ _ _ h => h) (Or.inr ⟨by rfl, rfl⟩) ?_ ?_
                    rotate_left
                    · simp only [Act.put, List.setIfInBounds_toArray, List.set_cons_zero, List.set_cons_succ, i64_w, i32_w]
                      rfl
                    refine pure_ (i := 27) (N := some 60) (v := undef) (a' := ?_) #[true, true, true, true, true, true, true, true, true, true, true, true, true, true, true, true, true, true, true, true, true, true, true, true, true, true, true, true, false, false] rfl rfl (any_of HT_.out (by kernel_rfl)) (fun _ _ _ h => h) (Or.inr ⟨by rfl, rfl⟩) ?_ ?_
                    rotate_left
                    · simp only [Act.put, List.setIfInBounds_toArray, List.set_cons_zero, List.set_cons_succ, i64_w, i32_w]
                      rfl
                    refine pure_ (i := 28) (N := some 61) (v := undef) (a' := ?_) #[true, true, true, true, true, true, true, true, true, true, true, true, true, true, true, true, true, true, true, true, true, true, true, true, true, true, true, true, true, false] rfl rfl (any_of HT_.out (by kernel_rfl)) (fun _ _ _ h => h) (Or.inr ⟨by rfl, rfl⟩) ?_ ?_
                    rotate_left
                    · simp only [Act.put, List.setIfInBounds_toArray, List.set_cons_zero, List.set_cons_succ, i64_w, i32_w]
                      rfl
                    refine pure_ (i := 29) (N := some 62) (v := ?_) (a' := ?_) #[true, true, true, true, true, true, true, true, true, true, true, true, true, true, true, true, true, true, true, true, true, true, true, true, true, true, true, true, true, true] rfl rfl (any_of HT_.out (by kernel_rfl)) (fun _ _ _ h => h) (Or.inl ⟨by rfl, ?_⟩) ?_ ?_
                    rotate_left
                    · intro w'
                      go_simp
                      with_reducible rfl
                    rotate_left
                    · simp only [Act.put, List.setIfInBounds_toArray, List.set_cons_zero, List.set_cons_succ, i64_w, i32_w]
                      rfl
                    refine done_ (done_of HT_.out (by kernel_rfl)) ?_
                    try go_wp2
                    go_meet
                    case rel => exact ⟨_, (true), (by first | rfl | (simp; done) | (simp [*]; done)), H', ⟨by have := HK1.out; first | omega | exact Nat.le_refl _⟩, ⟨by (with_reducible repeat (first | apply Kd.R_alloc | apply Kd.R_drewN | apply Kd.R_drew)); exact Kd.R_mono HO_5.out (fun _ hk => hk.2)⟩, ⟨by (with_reducible repeat (first | refine blk_drewN ?_ _ | refine blk_drew ?_ | refine blk_alloc ?_ _)); exact BK109.out⟩, ⟨by (with_reducible repeat (first | refine blk_drewN ?_ _ | refine blk_drew ?_ | refine blk_alloc ?_ _)); exact BK111.out⟩, ⟨by repeat (first | (with_reducible first | exact HB.out | apply below_alloc | apply pw_below_drewN | apply below_drew1 | refine below_set ?_ GE109.out | refine below_set ?_ GE111.out) | exact HB.out)⟩⟩
                case rest =>
                  clear HC14
                  try clear c2
                  try clear p2
                  try clear c3
                  try clear c22
                  try clear c22b0
                  try clear c22b1
                  try clear c25
                  try clear c25b0
                  try clear c25b1
                  try clear c27
                  try clear c29
                  try clear c30
                  try clear c31
                  try clear c32
                  obtain ⟨kq, x62_13, rfl, HA, HJ13, HO_5, BK109, BK111, HB⟩ := hcut
                  cases kq with
                  | zero => exact absurd HA.out (by simp [agatelaw02_WireWrites.j1])
                  | succ kj13 =>
                    have H := HA.out
                    clear HA
                    simp only [agatelaw02_WireWrites.j1] at H
                    by_cases c40 : x62_13 = true
                    · subst c40
                      have H1 : (some false) = some r := by rw [if_pos rfl] at H; exact H
                      clear H
                      have H := H1
                      clear H1
                      obtain rfl := Option.some.inj H
                      go_wp2
                      go_ret
                      exact ⟨by first | rfl | (simp [errW_none, errW_some] <;> rfl) | (simp [*, errW_none, errW_some] <;> rfl), by repeat (first | (with_reducible first | exact HB.out | apply below_alloc | apply pw_below_drewN | apply below_drew1 | refine below_set ?_ GE109.out | refine below_set ?_ GE111.out) | exact HB.out)⟩
                    · replace c40 := Bool.eq_false_iff.mpr c40
                      subst c40
                      have H1 : (if t112.toList = ([] : List UInt8) then (agatelaw02_WireWrites.l0 kj13 x3_1 (wrap64 (x4_1 + (((rd_T47 l0 x18_1).f3).size : Int))) x5_1 l0 (l0.length : Int) (wrap64 (x18_1 + 1))) else (if ((rd_T47 l0 x18_1).f1) = 2 then ((wire_Field_Bytes_s.f ((rd_T47 l0 x18_1).f0) ((rd_T47 l0 x18_1).f1) ((rd_T47 l0 x18_1).f2) ((rd_T47 l0 x18_1).f3)).bind fun t118 => (if x3_1.size + t118.size ≤ 9223372036854775807 then (if x5_1.length < 3518437208883 then (agatelaw02_WireWrites.l0 kj13 (x3_1 ++ t118) (wrap64 (x4_1 + (((rd_T47 l0 x18_1).f3).size : Int))) (x5_1 ++ [(⟨((rd_T47 l0 x18_1).f0), ((rd_T47 l0 x18_1).f1), 0, ((rd_T47 l0 x18_1).f3)⟩ : S50)]) l0 (l0.length : Int) (wrap64 (x18_1 + 1))) else (none)) else (none))) else ((wire_Field_Bytes_s.f ((rd_T47 l0 x18_1).f0) ((rd_T47 l0 x18_1).f1) ((rd_T47 l0 x18_1).f2) ((rd_T47 l0 x18_1).f3)).bind fun t122 => (if x3_1.size + t122.size ≤ 9223372036854775807 then (if x5_1.length < 3518437208883 then (agatelaw02_WireWrites.l0 kj13 (x3_1 ++ t122) (wrap64 (x4_1 + (((rd_T47 l0 x18_1).f3).size : Int))) (x5_1 ++ [(⟨((rd_T47 l0 x18_1).f0), ((rd_T47 l0 x18_1).f1), ((rd_T47 l0 x18_1).f2), (⟨#[]⟩ : ByteArray)⟩ : S50)]) l0 (l0.length : Int) (wrap64 (x18_1 + 1))) else (none)) else (none))))) = some r := by rw [if_neg (show ¬ (false = true) by decide)] at H; exact H
                      clear H
                      have H := H1
                      clear H1
                      by_cases c41 : t112.toList = ([] : List UInt8)
                      · rw [if_pos c41] at H
                        have c41b0 : (t112.toList == ([] : List UInt8)) = true := beq_iff_eq.mpr c41
                        have c41b1 : (t112.toList != ([] : List UInt8)) = false := bne_eq_false_iff_eq.mpr c41
                        clear c41
                        have H' := Aside0.mk H
                        clear H
                        go_wp2
                        go_roundg kj13
                        case measure => have := HK1.out; have := HJ13.out; omega
                        case rel => exact ⟨(x3_1), ((wrap64 (x4_1 + (((rd_T47 l0 x18_1).f3).size : Int)))), (x5_1), (wrap64 (x18_1 + 1)), (by first | rfl | (simp; done) | (simp [*]; done)), (by first | rfl | (simp; done) | (simp [*]; done)), (by first | rfl | (simp; done) | (simp [*]; done)), H', ⟨by have := HK1.out; have := HJ13.out; omega⟩, ⟨by (with_reducible repeat (first | apply Kd.R_alloc | apply Kd.R_drewN | apply Kd.R_drew)); exact Kd.R_mono HO_5.out (fun _ hk => trivial)⟩, ⟨by repeat (first | (with_reducible first | exact HB.out | apply below_alloc | apply pw_below_drewN | apply below_drew1 | refine below_set ?_ GE109.out | refine below_set ?_ GE111.out) | exact HB.out)⟩⟩
                      · rw [if_neg c41] at H
                        have c41b0 : (t112.toList == ([] : List UInt8)) = false := beq_eq_false_iff_ne.mpr c41
                        have c41b1 : (t112.toList != ([] : List UInt8)) = true := bne_iff_ne.mpr c41
                        by_cases c42 : ((rd_T47 l0 x18_1).f1) = 2
                        · rw [if_pos c42] at H
                          have c42b0 : (((rd_T47 l0 x18_1).f1) == 2) = true := beq_iff_eq.mpr c42
                          have c42b1 : (((rd_T47 l0 x18_1).f1) != 2) = false := bne_eq_false_iff_eq.mpr c42
                          clear c42
                          replace H := Option.bind_eq_some_iff.mp H
                          obtain ⟨t118, A430, H⟩ := H
                          replace H : (if x3_1.size + t118.size ≤ 9223372036854775807 then (if x5_1.length < 3518437208883 then (agatelaw02_WireWrites.l0 kj13 (x3_1 ++ t118) (wrap64 (x4_1 + (((rd_T47 l0 x18_1).f3).size : Int))) (x5_1 ++ [(⟨((rd_T47 l0 x18_1).f0), ((rd_T47 l0 x18_1).f1), 0, ((rd_T47 l0 x18_1).f3)⟩ : S50)]) l0 (l0.length : Int) (wrap64 (x18_1 + 1))) else (none)) else (none)) = some r := H
                          have A43 := Aside0.mk A430
                          clear A430
                          by_cases c44 : x3_1.size + t118.size ≤ 9223372036854775807
                          · rw [if_pos c44] at H
                            have c44b0 := eq_true c44
                            have c44b1 : decide (x3_1.size + t118.size ≤ 9223372036854775807) = true := decide_eq_true c44
                            try have c44b2 : (9223372036854775807 < x3_1.size + t118.size) = False := eq_false (Nat.not_lt.2 c44)
                            try have c44b3 := c44b2
                            try simp only [ByteArray.size_append] at c44b3
                            by_cases c45 : x5_1.length < 3518437208883
                            · rw [if_pos c45] at H
                              have LMc45 := Aside0.mk c45
                              clear c45
                              obtain ⟨y119, hy119⟩ : ∃ y_ : List (S50), y_ = (x5_1 ++ [(⟨((rd_T47 l0 x18_1).f0), ((rd_T47 l0 x18_1).f1), 0, ((rd_T47 l0 x18_1).f3)⟩ : S50)]) := ⟨_, rfl⟩
                              replace H : (agatelaw02_WireWrites.l0 kj13 (x3_1 ++ t118) (wrap64 (x4_1 + (((rd_T47 l0 x18_1).f3).size : Int))) y119 l0 (l0.length : Int) (wrap64 (x18_1 + 1))) = some r := by first | (rw [hy119]; with_reducible exact H) | (have H2_ := (Option.bind_some _ _).symm.trans H; rw [hy119]; with_reducible exact H2_) | (have H2_ := (Option.bind_some _ _).symm.trans H; with_reducible exact H2_) | with_reducible exact H | (rw [hy119]; exact H) | exact H
                              have Ny119 := Aside0.mk hy119
                              clear hy119
                              have H' := Aside0.mk H
                              clear H
                              have hnb46 := NB111_109.out
                              have hnc46 := NB109_111.out
                              have hcz47_0 : wc.cell? ⟨gb111, 0, none⟩ = some (.int .i64 ((rd_T47 l0 x18_1).f0)) := (blk_cell BK111.out 0).trans rfl
                              have hcz47_1 : wc.cell? ⟨gb111, 1, none⟩ = some (.int .i64 ((rd_T47 l0 x18_1).f1)) := (blk_cell BK111.out 1).trans rfl
                              have hcz47_2 : wc.cell? ⟨gb111, 2, none⟩ = some (.int .u64 ((rd_T47 l0 x18_1).f2)) := (blk_cell BK111.out 2).trans rfl
                              have hcz47_3 : wc.cell? ⟨gb111, 3, none⟩ = some (.string ((rd_T47 l0 x18_1).f3)) := (blk_cell BK111.out 3).trans rfl
                              have hfz47_0 := blk_frozen BK111.out 0
                              have hfz47_1 := blk_frozen BK111.out 1
                              have hfz47_2 := blk_frozen BK111.out 2
                              have hfz47_3 := blk_frozen BK111.out 3
                              have hcz48_0 : wc.cell? ⟨gb109, 0, none⟩ = some (.int .i64 ((rd_T47 l0 x18_1).f0)) := (blk_cell BK109.out 0).trans rfl
                              have hcz48_1 : wc.cell? ⟨gb109, 1, none⟩ = some (.int .i64 ((rd_T47 l0 x18_1).f1)) := (blk_cell BK109.out 1).trans rfl
                              have hcz48_2 : wc.cell? ⟨gb109, 2, none⟩ = some (.int .u64 ((rd_T47 l0 x18_1).f2)) := (blk_cell BK109.out 2).trans rfl
                              have hcz48_3 : wc.cell? ⟨gb109, 3, none⟩ = some (.string ((rd_T47 l0 x18_1).f3)) := (blk_cell BK109.out 3).trans rfl
                              have hfz48_0 := blk_frozen BK109.out 0
                              have hfz48_1 := blk_frozen BK109.out 1
                              have hfz48_2 := blk_frozen BK109.out 2
                              have hfz48_3 := blk_frozen BK109.out 3
                              go_wp2_with (first | ((with_reducible refine gate_callee (f := 29) rfl ?_); refine goesL_ (some 72) rfl rfl Try.func29 (by kernel_rfl) rfl #[.agg #[.int .i64 ((rd_T47 l0 x18_1).f0), .int .i64 ((rd_T47 l0 x18_1).f1), .int .u64 ((rd_T47 l0 x18_1).f2), .string ((rd_T47 l0 x18_1).f3)]] rfl (by (try simp only [List.map_toArray, List.map_cons, List.map_nil]); first | done | rfl | (simp only [List.length_drop, List.length_take]; rfl)) ?_; (with_reducible refine (wire_Field_Bytes_s.calls ((rd_T47 l0 x18_1).f0) ((rd_T47 l0 x18_1).f1) ((rd_T47 l0 x18_1).f2) ((rd_T47 l0 x18_1).f3) t118 _ A43.out).mono ?_); rintro e w49 ⟨rfl, hb⟩; refine ⟨_, rfl, ?_⟩; have n0_ := Aside0.mk (Kd.R_below (by (with_reducible repeat (first | apply Kd.R_alloc | apply Kd.R_drewN | apply Kd.R_drew)); exact (Kd.R_mono (Kd.R_far (p := ⟨gb111, 2, none⟩) (Kd.R_mono HO_5.out (fun k_ hk => (⟨hk, hk⟩ : _ ∧ k_ ≠ gb111))) (fun _ hk => hk.2) (.int .u64 0)) (fun _ h_ => h_.1))) hb); have n1_ := Aside0.mk (blk_below (g := gb109) (o := .cells #[.int .i64 ((rd_T47 l0 x18_1).f0), .int .i64 ((rd_T47 l0 x18_1).f1), .int .u64 ((rd_T47 l0 x18_1).f2), .string ((rd_T47 l0 x18_1).f3)] 47 (0, 0)) (by (with_reducible repeat (first | refine blk_drewN ?_ _ | refine blk_drew ?_ | refine blk_alloc ?_ _)); refine blk_far ?_ NB109_111.out _; (with_reducible repeat (first | refine blk_drewN ?_ _ | refine blk_drew ?_ | refine blk_alloc ?_ _)); exact BK109.out) hb); have n2_ := Aside0.mk (blk_below (g := gb111) (o := .cells #[.int .i64 ((rd_T47 l0 x18_1).f0), .int .i64 ((rd_T47 l0 x18_1).f1), .int .u64 0, .string ((rd_T47 l0 x18_1).f3)] 50 (0, 0)) (by (with_reducible repeat (first | refine blk_drewN ?_ _ | refine blk_drew ?_ | refine blk_alloc ?_ _)); refine blk_put (cs := #[.int .i64 ((rd_T47 l0 x18_1).f0), .int .i64 ((rd_T47 l0 x18_1).f1), .int .u64 ((rd_T47 l0 x18_1).f2), .string ((rd_T47 l0 x18_1).f3)]) ?_ 2 _ rfl; (with_reducible repeat (first | refine blk_drewN ?_ _ | refine blk_drew ?_ | refine blk_alloc ?_ _)); exact BK111.out) hb); have n3_ := Aside0.mk (below_step (by repeat (first | (with_reducible first | exact HB.out | apply below_alloc | apply pw_below_drewN | apply below_drew1 | refine below_set ?_ GE109.out | refine below_set ?_ GE111.out) | exact HB.out)) hb); clear HO_5; clear BK109; clear BK111; clear HB; have HO_5 := n0_; have BK109 := n1_; have BK111 := n2_; have HB := n3_; clear n0_ n1_ n2_ n3_; (try clear hb); (try clear hb2); (try clear hk); (try clear hi); have hcz50_0 : w49.cell? ⟨gb111, 0, none⟩ = some (.int .i64 ((rd_T47 l0 x18_1).f0)) := (blk_cell BK111.out 0).trans rfl; have hcz50_1 : w49.cell? ⟨gb111, 1, none⟩ = some (.int .i64 ((rd_T47 l0 x18_1).f1)) := (blk_cell BK111.out 1).trans rfl; have hcz50_2 : w49.cell? ⟨gb111, 2, none⟩ = some (.int .u64 0) := (blk_cell BK111.out 2).trans rfl; have hcz50_3 : w49.cell? ⟨gb111, 3, none⟩ = some (.string ((rd_T47 l0 x18_1).f3)) := (blk_cell BK111.out 3).trans rfl; have hfz50_0 := blk_frozen BK111.out 0; have hfz50_1 := blk_frozen BK111.out 1; have hfz50_2 := blk_frozen BK111.out 2; have hfz50_3 := blk_frozen BK111.out 3) | ((with_reducible refine gate_builtin (b := .append) (xs := #[.tmp 74, .tmp 76]) rfl ?_); at_builtin; refine Kd.R_append k50 (w0 := w) w.heap.size rfl (.tmp 74) (.tmp 76) 40 50 (.agg #[(.int .i64 0), (.int .i64 0), (.int .u64 0), (.string ⟨#[]⟩)]) 40 rfl Try.underlying40 info50 rfl (by decide) (by omega) u5 x5_1 (⟨((rd_T47 l0 x18_1).f0), ((rd_T47 l0 x18_1).f1), 0, ((rd_T47 l0 x18_1).f3)⟩ : S50) [.int .i64 ((rd_T47 l0 x18_1).f0), .int .i64 ((rd_T47 l0 x18_1).f1), .int .u64 0, .string ((rd_T47 l0 x18_1).f3)] (fun k_ => k_ ≠ gb111) (fun _ => False) rfl rfl ?aP (fun _ hk => hk.elim) ?aF ?aO ?aB ?aS ?aL ?_; (case aP => exact k50_mkM _ _ _ (⟨((rd_T47 l0 x18_1).f0), ((rd_T47 l0 x18_1).f1), 0, ((rd_T47 l0 x18_1).f3)⟩ : S50)); (case aB => exact (by repeat (first | (with_reducible first | exact HB.out | apply below_alloc | apply pw_below_drewN | apply below_drew1 | refine below_set ?_ GE109.out | refine below_set ?_ GE111.out) | exact HB.out))); (case aF => exact (fun k_ hk => Kd.freshB (g := gb111) (o := .cells #[.int .i64 ((rd_T47 l0 x18_1).f0), .int .i64 ((rd_T47 l0 x18_1).f1), .int .u64 0, .string ((rd_T47 l0 x18_1).f3)] 50 (0, 0)) (by (with_reducible repeat (first | refine blk_drewN ?_ _ | refine blk_drew ?_ | refine blk_alloc ?_ _)); exact BK111.out) k_ hk)); (case aO => exact (by (with_reducible repeat (first | apply Kd.R_alloc | apply Kd.R_drewN | apply Kd.R_drew)); exact HO_5.out)); (case aS => exact (below_size (by repeat (first | (with_reducible first | exact HB.out | apply below_alloc | apply pw_below_drewN | apply below_drew1 | refine below_set ?_ GE109.out | refine below_set ?_ GE111.out) | exact HB.out)))); (case aL => have := LMc45.out; omega); intro v120 w51 ho hb hg hat; rw [← Ny119.out] at ho; have n0_ := Aside0.mk (blk_grown (g := gb109) (o := .cells #[.int .i64 ((rd_T47 l0 x18_1).f0), .int .i64 ((rd_T47 l0 x18_1).f1), .int .u64 ((rd_T47 l0 x18_1).f2), .string ((rd_T47 l0 x18_1).f3)] 47 (0, 0)) (by (with_reducible repeat (first | refine blk_drewN ?_ _ | refine blk_drew ?_ | refine blk_alloc ?_ _)); exact BK109.out) hg (Kd.R_ne HO_5.out BK109.out (by decide))); have n1_ := Aside0.mk (blk_grown (g := gb111) (o := .cells #[.int .i64 ((rd_T47 l0 x18_1).f0), .int .i64 ((rd_T47 l0 x18_1).f1), .int .u64 0, .string ((rd_T47 l0 x18_1).f3)] 50 (0, 0)) (by (with_reducible repeat (first | refine blk_drewN ?_ _ | refine blk_drew ?_ | refine blk_alloc ?_ _)); exact BK111.out) hg (Kd.R_away HO_5.out (fun _ hk => hk))); have n2_ := Aside0.mk (hb); have n3_ := Aside0.mk (ho); clear BK109; clear BK111; clear HB; clear HO_5; have BK109 := n0_; have BK111 := n1_; have HB := n2_; have HO121 := n3_; clear n0_ n1_ n2_ n3_; clear ho hb hg hat))
                              go_roundg kj13
                              case measure => have := HK1.out; have := HJ13.out; omega
                              case rel => exact ⟨(x3_1 ++ t118), ((wrap64 (x4_1 + (((rd_T47 l0 x18_1).f3).size : Int)))), (y119), (wrap64 (x18_1 + 1)), (by first | rfl | (simp; done) | (simp [*]; done)), (by first | rfl | (simp; done) | (simp [*]; done)), (by first | rfl | (simp; done) | (simp [*]; done)), H', ⟨by have := HK1.out; have := HJ13.out; omega⟩, ⟨by (with_reducible repeat (first | apply Kd.R_alloc | apply Kd.R_drewN | apply Kd.R_drew)); exact Kd.R_mono HO121.out (fun _ hk => trivial)⟩, ⟨by repeat (first | (with_reducible first | exact HB.out | apply below_alloc | apply pw_below_drewN | apply below_drew1 | refine below_set ?_ GE109.out | refine below_set ?_ GE111.out) | exact HB.out)⟩⟩
                            · rw [if_neg c45] at H
                              exact absurd H (by simp)
                          · rw [if_neg c44] at H
                            exact absurd H (by simp)
                        · rw [if_neg c42] at H
                          have c42b0 : (((rd_T47 l0 x18_1).f1) == 2) = false := beq_eq_false_iff_ne.mpr c42
                          have c42b1 : (((rd_T47 l0 x18_1).f1) != 2) = true := bne_iff_ne.mpr c42
                          replace H := Option.bind_eq_some_iff.mp H
                          obtain ⟨t122, A520, H⟩ := H
                          replace H : (if x3_1.size + t122.size ≤ 9223372036854775807 then (if x5_1.length < 3518437208883 then (agatelaw02_WireWrites.l0 kj13 (x3_1 ++ t122) (wrap64 (x4_1 + (((rd_T47 l0 x18_1).f3).size : Int))) (x5_1 ++ [(⟨((rd_T47 l0 x18_1).f0), ((rd_T47 l0 x18_1).f1), ((rd_T47 l0 x18_1).f2), (⟨#[]⟩ : ByteArray)⟩ : S50)]) l0 (l0.length : Int) (wrap64 (x18_1 + 1))) else (none)) else (none)) = some r := H
                          have A52 := Aside0.mk A520
                          clear A520
                          by_cases c53 : x3_1.size + t122.size ≤ 9223372036854775807
                          · rw [if_pos c53] at H
                            have c53b0 := eq_true c53
                            have c53b1 : decide (x3_1.size + t122.size ≤ 9223372036854775807) = true := decide_eq_true c53
                            try have c53b2 : (9223372036854775807 < x3_1.size + t122.size) = False := eq_false (Nat.not_lt.2 c53)
                            try have c53b3 := c53b2
                            try simp only [ByteArray.size_append] at c53b3
                            by_cases c54 : x5_1.length < 3518437208883
                            · rw [if_pos c54] at H
                              have LMc54 := Aside0.mk c54
                              clear c54
                              obtain ⟨y123, hy123⟩ : ∃ y_ : List (S50), y_ = (x5_1 ++ [(⟨((rd_T47 l0 x18_1).f0), ((rd_T47 l0 x18_1).f1), ((rd_T47 l0 x18_1).f2), (⟨#[]⟩ : ByteArray)⟩ : S50)]) := ⟨_, rfl⟩
                              replace H : (agatelaw02_WireWrites.l0 kj13 (x3_1 ++ t122) (wrap64 (x4_1 + (((rd_T47 l0 x18_1).f3).size : Int))) y123 l0 (l0.length : Int) (wrap64 (x18_1 + 1))) = some r := by first | (rw [hy123]; with_reducible exact H) | (have H2_ := (Option.bind_some _ _).symm.trans H; rw [hy123]; with_reducible exact H2_) | (have H2_ := (Option.bind_some _ _).symm.trans H; with_reducible exact H2_) | with_reducible exact H | (rw [hy123]; exact H) | exact H
                              have Ny123 := Aside0.mk hy123
                              clear hy123
                              have H' := Aside0.mk H
                              clear H
                              have hnb55 := NB111_109.out
                              have hnc55 := NB109_111.out
                              have hcz56_0 : wc.cell? ⟨gb111, 0, none⟩ = some (.int .i64 ((rd_T47 l0 x18_1).f0)) := (blk_cell BK111.out 0).trans rfl
                              have hcz56_1 : wc.cell? ⟨gb111, 1, none⟩ = some (.int .i64 ((rd_T47 l0 x18_1).f1)) := (blk_cell BK111.out 1).trans rfl
                              have hcz56_2 : wc.cell? ⟨gb111, 2, none⟩ = some (.int .u64 ((rd_T47 l0 x18_1).f2)) := (blk_cell BK111.out 2).trans rfl
                              have hcz56_3 : wc.cell? ⟨gb111, 3, none⟩ = some (.string ((rd_T47 l0 x18_1).f3)) := (blk_cell BK111.out 3).trans rfl
                              have hfz56_0 := blk_frozen BK111.out 0
                              have hfz56_1 := blk_frozen BK111.out 1
                              have hfz56_2 := blk_frozen BK111.out 2
                              have hfz56_3 := blk_frozen BK111.out 3
                              have hcz57_0 : wc.cell? ⟨gb109, 0, none⟩ = some (.int .i64 ((rd_T47 l0 x18_1).f0)) := (blk_cell BK109.out 0).trans rfl
                              have hcz57_1 : wc.cell? ⟨gb109, 1, none⟩ = some (.int .i64 ((rd_T47 l0 x18_1).f1)) := (blk_cell BK109.out 1).trans rfl
                              have hcz57_2 : wc.cell? ⟨gb109, 2, none⟩ = some (.int .u64 ((rd_T47 l0 x18_1).f2)) := (blk_cell BK109.out 2).trans rfl
                              have hcz57_3 : wc.cell? ⟨gb109, 3, none⟩ = some (.string ((rd_T47 l0 x18_1).f3)) := (blk_cell BK109.out 3).trans rfl
                              have hfz57_0 := blk_frozen BK109.out 0
                              have hfz57_1 := blk_frozen BK109.out 1
                              have hfz57_2 := blk_frozen BK109.out 2
                              have hfz57_3 := blk_frozen BK109.out 3
                              go_wp2_with (first | ((with_reducible refine gate_callee (f := 29) rfl ?_); refine goesL_ (some 72) rfl rfl Try.func29 (by kernel_rfl) rfl #[.agg #[.int .i64 ((rd_T47 l0 x18_1).f0), .int .i64 ((rd_T47 l0 x18_1).f1), .int .u64 ((rd_T47 l0 x18_1).f2), .string ((rd_T47 l0 x18_1).f3)]] rfl (by (try simp only [List.map_toArray, List.map_cons, List.map_nil]); first | done | rfl | (simp only [List.length_drop, List.length_take]; rfl)) ?_; (with_reducible refine (wire_Field_Bytes_s.calls ((rd_T47 l0 x18_1).f0) ((rd_T47 l0 x18_1).f1) ((rd_T47 l0 x18_1).f2) ((rd_T47 l0 x18_1).f3) t122 _ A52.out).mono ?_); rintro e w58 ⟨rfl, hb⟩; refine ⟨_, rfl, ?_⟩; have n0_ := Aside0.mk (Kd.R_below (by (with_reducible repeat (first | apply Kd.R_alloc | apply Kd.R_drewN | apply Kd.R_drew)); exact (Kd.R_mono (Kd.R_far (p := ⟨gb111, 3, none⟩) (Kd.R_mono HO_5.out (fun k_ hk => (⟨hk, hk⟩ : _ ∧ k_ ≠ gb111))) (fun _ hk => hk.2) (.string (⟨#[]⟩ : ByteArray))) (fun _ h_ => h_.1))) hb); have n1_ := Aside0.mk (blk_below (g := gb109) (o := .cells #[.int .i64 ((rd_T47 l0 x18_1).f0), .int .i64 ((rd_T47 l0 x18_1).f1), .int .u64 ((rd_T47 l0 x18_1).f2), .string ((rd_T47 l0 x18_1).f3)] 47 (0, 0)) (by (with_reducible repeat (first | refine blk_drewN ?_ _ | refine blk_drew ?_ | refine blk_alloc ?_ _)); refine blk_far ?_ NB109_111.out _; (with_reducible repeat (first | refine blk_drewN ?_ _ | refine blk_drew ?_ | refine blk_alloc ?_ _)); exact BK109.out) hb); have n2_ := Aside0.mk (blk_below (g := gb111) (o := .cells #[.int .i64 ((rd_T47 l0 x18_1).f0), .int .i64 ((rd_T47 l0 x18_1).f1), .int .u64 ((rd_T47 l0 x18_1).f2), .string (⟨#[]⟩ : ByteArray)] 50 (0, 0)) (by (with_reducible repeat (first | refine blk_drewN ?_ _ | refine blk_drew ?_ | refine blk_alloc ?_ _)); refine blk_put (cs := #[.int .i64 ((rd_T47 l0 x18_1).f0), .int .i64 ((rd_T47 l0 x18_1).f1), .int .u64 ((rd_T47 l0 x18_1).f2), .string ((rd_T47 l0 x18_1).f3)]) ?_ 3 _ rfl; (with_reducible repeat (first | refine blk_drewN ?_ _ | refine blk_drew ?_ | refine blk_alloc ?_ _)); exact BK111.out) hb); have n3_ := Aside0.mk (below_step (by repeat (first | (with_reducible first | exact HB.out | apply below_alloc | apply pw_below_drewN | apply below_drew1 | refine below_set ?_ GE109.out | refine below_set ?_ GE111.out) | exact HB.out)) hb); clear HO_5; clear BK109; clear BK111; clear HB; have HO_5 := n0_; have BK109 := n1_; have BK111 := n2_; have HB := n3_; clear n0_ n1_ n2_ n3_; (try clear hb); (try clear hb2); (try clear hk); (try clear hi); have hcz59_0 : w58.cell? ⟨gb111, 0, none⟩ = some (.int .i64 ((rd_T47 l0 x18_1).f0)) := (blk_cell BK111.out 0).trans rfl; have hcz59_1 : w58.cell? ⟨gb111, 1, none⟩ = some (.int .i64 ((rd_T47 l0 x18_1).f1)) := (blk_cell BK111.out 1).trans rfl; have hcz59_2 : w58.cell? ⟨gb111, 2, none⟩ = some (.int .u64 ((rd_T47 l0 x18_1).f2)) := (blk_cell BK111.out 2).trans rfl; have hcz59_3 : w58.cell? ⟨gb111, 3, none⟩ = some (.string (⟨#[]⟩ : ByteArray)) := (blk_cell BK111.out 3).trans rfl; have hfz59_0 := blk_frozen BK111.out 0; have hfz59_1 := blk_frozen BK111.out 1; have hfz59_2 := blk_frozen BK111.out 2; have hfz59_3 := blk_frozen BK111.out 3) | ((with_reducible refine gate_builtin (b := .append) (xs := #[.tmp 74, .tmp 76]) rfl ?_); at_builtin; refine Kd.R_append k50 (w0 := w) w.heap.size rfl (.tmp 74) (.tmp 76) 40 50 (.agg #[(.int .i64 0), (.int .i64 0), (.int .u64 0), (.string ⟨#[]⟩)]) 40 rfl Try.underlying40 info50 rfl (by decide) (by omega) u5 x5_1 (⟨((rd_T47 l0 x18_1).f0), ((rd_T47 l0 x18_1).f1), ((rd_T47 l0 x18_1).f2), (⟨#[]⟩ : ByteArray)⟩ : S50) [.int .i64 ((rd_T47 l0 x18_1).f0), .int .i64 ((rd_T47 l0 x18_1).f1), .int .u64 ((rd_T47 l0 x18_1).f2), .string (⟨#[]⟩ : ByteArray)] (fun k_ => k_ ≠ gb111) (fun _ => False) rfl rfl ?aP (fun _ hk => hk.elim) ?aF ?aO ?aB ?aS ?aL ?_; (case aP => exact k50_mkM _ _ _ (⟨((rd_T47 l0 x18_1).f0), ((rd_T47 l0 x18_1).f1), ((rd_T47 l0 x18_1).f2), (⟨#[]⟩ : ByteArray)⟩ : S50)); (case aB => exact (by repeat (first | (with_reducible first | exact HB.out | apply below_alloc | apply pw_below_drewN | apply below_drew1 | refine below_set ?_ GE109.out | refine below_set ?_ GE111.out) | exact HB.out))); (case aF => exact (fun k_ hk => Kd.freshB (g := gb111) (o := .cells #[.int .i64 ((rd_T47 l0 x18_1).f0), .int .i64 ((rd_T47 l0 x18_1).f1), .int .u64 ((rd_T47 l0 x18_1).f2), .string (⟨#[]⟩ : ByteArray)] 50 (0, 0)) (by (with_reducible repeat (first | refine blk_drewN ?_ _ | refine blk_drew ?_ | refine blk_alloc ?_ _)); exact BK111.out) k_ hk)); (case aO => exact (by (with_reducible repeat (first | apply Kd.R_alloc | apply Kd.R_drewN | apply Kd.R_drew)); exact HO_5.out)); (case aS => exact (below_size (by repeat (first | (with_reducible first | exact HB.out | apply below_alloc | apply pw_below_drewN | apply below_drew1 | refine below_set ?_ GE109.out | refine below_set ?_ GE111.out) | exact HB.out)))); (case aL => have := LMc54.out; omega); intro v124 w60 ho hb hg hat; rw [← Ny123.out] at ho; have n0_ := Aside0.mk (blk_grown (g := gb109) (o := .cells #[.int .i64 ((rd_T47 l0 x18_1).f0), .int .i64 ((rd_T47 l0 x18_1).f1), .int .u64 ((rd_T47 l0 x18_1).f2), .string ((rd_T47 l0 x18_1).f3)] 47 (0, 0)) (by (with_reducible repeat (first | refine blk_drewN ?_ _ | refine blk_drew ?_ | refine blk_alloc ?_ _)); exact BK109.out) hg (Kd.R_ne HO_5.out BK109.out (by decide))); have n1_ := Aside0.mk (blk_grown (g := gb111) (o := .cells #[.int .i64 ((rd_T47 l0 x18_1).f0), .int .i64 ((rd_T47 l0 x18_1).f1), .int .u64 ((rd_T47 l0 x18_1).f2), .string (⟨#[]⟩ : ByteArray)] 50 (0, 0)) (by (with_reducible repeat (first | refine blk_drewN ?_ _ | refine blk_drew ?_ | refine blk_alloc ?_ _)); exact BK111.out) hg (Kd.R_away HO_5.out (fun _ hk => hk))); have n2_ := Aside0.mk (hb); have n3_ := Aside0.mk (ho); clear BK109; clear BK111; clear HB; clear HO_5; have BK109 := n0_; have BK111 := n1_; have HB := n2_; have HO125 := n3_; clear n0_ n1_ n2_ n3_; clear ho hb hg hat))
                              go_roundg kj13
                              case measure => have := HK1.out; have := HJ13.out; omega
                              case rel => exact ⟨(x3_1 ++ t122), ((wrap64 (x4_1 + (((rd_T47 l0 x18_1).f3).size : Int)))), (y123), (wrap64 (x18_1 + 1)), (by first | rfl | (simp; done) | (simp [*]; done)), (by first | rfl | (simp; done) | (simp [*]; done)), (by first | rfl | (simp; done) | (simp [*]; done)), H', ⟨by have := HK1.out; have := HJ13.out; omega⟩, ⟨by (with_reducible repeat (first | apply Kd.R_alloc | apply Kd.R_drewN | apply Kd.R_drew)); exact Kd.R_mono HO125.out (fun _ hk => trivial)⟩, ⟨by repeat (first | (with_reducible first | exact HB.out | apply below_alloc | apply pw_below_drewN | apply below_drew1 | refine below_set ?_ GE109.out | refine below_set ?_ GE111.out) | exact HB.out)⟩⟩
                            · rw [if_neg c54] at H
                              exact absurd H (by simp)
                          · rw [if_neg c53] at H
                            exact absurd H (by simp)
            · rw [if_neg c7] at H
              exact absurd H (by simp)
          · rw [if_neg c6] at H
            exact absurd H (by simp)
        · rw [if_neg c5] at H
          have c5b0 : decide (x18_1 < (l0.length : Int)) = false := decide_eq_false c5
          clear c5
          replace H := Option.bind_eq_some_iff.mp H
          obtain ⟨⟨t102, t103⟩, A610, H⟩ := H
          replace H : ((agatelaw02_Awake_s.f).bind fun t106 => (if t106 = true then (if t103 = 0 then ((agatelaw02_Same_s.f t102 x5_1).bind fun t107 => (some t107)) else (some false)) else (some false))) = some r := H
          have A61 := Aside0.mk A610
          clear A610
          replace H := Option.bind_eq_some_iff.mp H
          obtain ⟨t106, A620, H⟩ := H
          replace H : (if t106 = true then (if t103 = 0 then ((agatelaw02_Same_s.f t102 x5_1).bind fun t107 => (some t107)) else (some false)) else (some false)) = some r := H
          have A62 := Aside0.mk A620
          clear A620
          by_cases c63 : t106 = true
          · subst c63
            have H1 : (if t103 = 0 then ((agatelaw02_Same_s.f t102 x5_1).bind fun t107 => (some t107)) else (some false)) = some r := by rw [if_pos rfl] at H; exact H
            clear H
            have H := H1
            clear H1
            by_cases c64 : t103 = 0
            · rw [if_pos c64] at H
              have c64b0 : (t103 == 0) = true := beq_iff_eq.mpr c64
              have c64b1 : (t103 != 0) = false := bne_eq_false_iff_eq.mpr c64
              clear c64
              replace H := Option.bind_eq_some_iff.mp H
              obtain ⟨t107, A650, H⟩ := H
              replace H : (some t107) = some r := H
              have A65 := Aside0.mk A650
              clear A650
              obtain rfl := Option.some.inj H
              go_wp2_with (first | ((with_reducible refine gate_callee (f := 21) rfl ?_); refine goesL_ (some 81) rfl rfl Try.func21 (by kernel_rfl) rfl #[.string x3_1] rfl (by (try simp only [List.map_toArray, List.map_cons, List.map_nil]); first | done | rfl | (simp only [List.length_drop, List.length_take]; rfl)) ?_; (with_reducible refine (wire_Fields_s.calls x3_1 t102 t103 _ A61.out).mono ?_); rintro e w66 ⟨v104, rfl, ho0, hb⟩; refine ⟨_, rfl, ?_⟩; have n0_ := Aside0.mk (Kd.R_below (by (with_reducible repeat (first | apply Kd.R_alloc | apply Kd.R_drewN | apply Kd.R_drew)); exact HO_5.out) hb); have n1_ := Aside0.mk (Kd.R_lower ho0 (below_size (by repeat (first | (with_reducible first | exact HB.out | apply below_alloc | apply pw_below_drewN | apply below_drew1) | exact HB.out)))); have n2_ := Aside0.mk (below_step (by repeat (first | (with_reducible first | exact HB.out | apply below_alloc | apply pw_below_drewN | apply below_drew1) | exact HB.out)) hb); clear HO_5; clear HB; have HO_5 := n0_; have HO105 := n1_; have HB := n2_; clear n0_ n1_ n2_; (try clear hb); (try clear hb2); (try clear hk); (try clear hi); (try clear ho0)) | ((with_reducible refine gate_callee (f := 20) rfl ?_); refine goesL_ (some 84) rfl rfl Try.func20 (by kernel_rfl) rfl #[] rfl (by (try simp only [List.map_toArray, List.map_cons, List.map_nil]); first | done | rfl | (simp only [List.length_drop, List.length_take]; rfl)) ?_; (with_reducible refine (agatelaw02_Awake_s.calls  true _ A62.out).mono ?_); rintro e w67 ⟨rfl, hb⟩; refine ⟨_, rfl, ?_⟩; have n0_ := Aside0.mk (Kd.R_below (by (with_reducible repeat (first | apply Kd.R_alloc | apply Kd.R_drewN | apply Kd.R_drew)); exact HO_5.out) hb); have n1_ := Aside0.mk (Kd.R_below (by (with_reducible repeat (first | apply Kd.R_alloc | apply Kd.R_drewN | apply Kd.R_drew)); exact HO105.out) hb); have n2_ := Aside0.mk (below_step (by repeat (first | (with_reducible first | exact HB.out | apply below_alloc | apply pw_below_drewN | apply below_drew1) | exact HB.out)) hb); clear HO_5; clear HO105; clear HB; have HO_5 := n0_; have HO105 := n1_; have HB := n2_; clear n0_ n1_ n2_; (try clear hb); (try clear hb2); (try clear hk); (try clear hi); obtain ⟨Ao68, co68, eo68⟩ := Kd.R_slice HO105.out; subst eo68; obtain ⟨Ao69, co69, eo69⟩ := Kd.R_slice HO_5.out; subst eo69) | (go_at_call 23; (with_reducible refine (agatelaw02_Same_s.calls _ _ t102 _ _ x5_1 t107 _ ?side1 ?side2 ?side3 ?side4 A65.out).mono ?_); (case side1 => repeat (first | exact (Kd.R_reads' HO105.out).2.2 | (with_reducible refine Kd.C_alloc ?_ _) | (with_reducible refine Kd.C_drewN ?_ _) | (with_reducible refine Kd.C_drew ?_))); (case side2 => exact (Kd.R_reads' HO105.out).2.1); (case side3 => repeat (first | exact (Kd.R_reads' HO_5.out).2.2 | (with_reducible refine Kd.C_alloc ?_ _) | (with_reducible refine Kd.C_drewN ?_ _) | (with_reducible refine Kd.C_drew ?_))); (case side4 => exact (Kd.R_reads' HO_5.out).2.1); rintro e w' ⟨rfl, ⟨nd, rfl⟩⟩))
              go_ret
              exact ⟨by first | rfl | (simp [errW_none, errW_some] <;> rfl) | (simp [*, errW_none, errW_some] <;> rfl), by repeat (first | (with_reducible first | exact HB.out | apply below_alloc | apply pw_below_drewN | apply below_drew1) | exact HB.out)⟩
            · rw [if_neg c64] at H
              have c64b0 : (t103 == 0) = false := beq_eq_false_iff_ne.mpr c64
              have c64b1 : (t103 != 0) = true := bne_iff_ne.mpr c64
              obtain rfl := Option.some.inj H
              go_wp2_with (first | ((with_reducible refine gate_callee (f := 21) rfl ?_); refine goesL_ (some 81) rfl rfl Try.func21 (by kernel_rfl) rfl #[.string x3_1] rfl (by (try simp only [List.map_toArray, List.map_cons, List.map_nil]); first | done | rfl | (simp only [List.length_drop, List.length_take]; rfl)) ?_; (with_reducible refine (wire_Fields_s.calls x3_1 t102 t103 _ A61.out).mono ?_); rintro e w70 ⟨v104, rfl, ho0, hb⟩; refine ⟨_, rfl, ?_⟩; have n0_ := Aside0.mk (Kd.R_below (by (with_reducible repeat (first | apply Kd.R_alloc | apply Kd.R_drewN | apply Kd.R_drew)); exact HO_5.out) hb); have n1_ := Aside0.mk (Kd.R_lower ho0 (below_size (by repeat (first | (with_reducible first | exact HB.out | apply below_alloc | apply pw_below_drewN | apply below_drew1) | exact HB.out)))); have n2_ := Aside0.mk (below_step (by repeat (first | (with_reducible first | exact HB.out | apply below_alloc | apply pw_below_drewN | apply below_drew1) | exact HB.out)) hb); clear HO_5; clear HB; have HO_5 := n0_; have HO105 := n1_; have HB := n2_; clear n0_ n1_ n2_; (try clear hb); (try clear hb2); (try clear hk); (try clear hi); (try clear ho0)) | ((with_reducible refine gate_callee (f := 20) rfl ?_); refine goesL_ (some 84) rfl rfl Try.func20 (by kernel_rfl) rfl #[] rfl (by (try simp only [List.map_toArray, List.map_cons, List.map_nil]); first | done | rfl | (simp only [List.length_drop, List.length_take]; rfl)) ?_; (with_reducible refine (agatelaw02_Awake_s.calls  true _ A62.out).mono ?_); rintro e w71 ⟨rfl, hb⟩; refine ⟨_, rfl, ?_⟩; have n0_ := Aside0.mk (Kd.R_below (by (with_reducible repeat (first | apply Kd.R_alloc | apply Kd.R_drewN | apply Kd.R_drew)); exact HO_5.out) hb); have n1_ := Aside0.mk (Kd.R_below (by (with_reducible repeat (first | apply Kd.R_alloc | apply Kd.R_drewN | apply Kd.R_drew)); exact HO105.out) hb); have n2_ := Aside0.mk (below_step (by repeat (first | (with_reducible first | exact HB.out | apply below_alloc | apply pw_below_drewN | apply below_drew1) | exact HB.out)) hb); clear HO_5; clear HO105; clear HB; have HO_5 := n0_; have HO105 := n1_; have HB := n2_; clear n0_ n1_ n2_; (try clear hb); (try clear hb2); (try clear hk); (try clear hi)))
              go_ret
              exact ⟨by first | rfl | (simp [errW_none, errW_some] <;> rfl) | (simp [*, errW_none, errW_some] <;> rfl), by repeat (first | (with_reducible first | exact HB.out | apply below_alloc | apply pw_below_drewN | apply below_drew1) | exact HB.out)⟩
          · replace c63 := Bool.eq_false_iff.mpr c63
            subst c63
            have H1 : (some false) = some r := by rw [if_neg (show ¬ (false = true) by decide)] at H; exact H
            clear H
            have H := H1
            clear H1
            obtain rfl := Option.some.inj H
            go_wp2_with (first | ((with_reducible refine gate_callee (f := 21) rfl ?_); refine goesL_ (some 81) rfl rfl Try.func21 (by kernel_rfl) rfl #[.string x3_1] rfl (by (try simp only [List.map_toArray, List.map_cons, List.map_nil]); first | done | rfl | (simp only [List.length_drop, List.length_take]; rfl)) ?_; (with_reducible refine (wire_Fields_s.calls x3_1 t102 t103 _ A61.out).mono ?_); rintro e w72 ⟨v104, rfl, ho0, hb⟩; refine ⟨_, rfl, ?_⟩; have n0_ := Aside0.mk (Kd.R_below (by (with_reducible repeat (first | apply Kd.R_alloc | apply Kd.R_drewN | apply Kd.R_drew)); exact HO_5.out) hb); have n1_ := Aside0.mk (Kd.R_lower ho0 (below_size (by repeat (first | (with_reducible first | exact HB.out | apply below_alloc | apply pw_below_drewN | apply below_drew1) | exact HB.out)))); have n2_ := Aside0.mk (below_step (by repeat (first | (with_reducible first | exact HB.out | apply below_alloc | apply pw_below_drewN | apply below_drew1) | exact HB.out)) hb); clear HO_5; clear HB; have HO_5 := n0_; have HO105 := n1_; have HB := n2_; clear n0_ n1_ n2_; (try clear hb); (try clear hb2); (try clear hk); (try clear hi); (try clear ho0)) | ((with_reducible refine gate_callee (f := 20) rfl ?_); refine goesL_ (some 84) rfl rfl Try.func20 (by kernel_rfl) rfl #[] rfl (by (try simp only [List.map_toArray, List.map_cons, List.map_nil]); first | done | rfl | (simp only [List.length_drop, List.length_take]; rfl)) ?_; (with_reducible refine (agatelaw02_Awake_s.calls  false _ A62.out).mono ?_); rintro e w73 ⟨rfl, hb⟩; refine ⟨_, rfl, ?_⟩; have n0_ := Aside0.mk (Kd.R_below (by (with_reducible repeat (first | apply Kd.R_alloc | apply Kd.R_drewN | apply Kd.R_drew)); exact HO_5.out) hb); have n1_ := Aside0.mk (Kd.R_below (by (with_reducible repeat (first | apply Kd.R_alloc | apply Kd.R_drewN | apply Kd.R_drew)); exact HO105.out) hb); have n2_ := Aside0.mk (below_step (by repeat (first | (with_reducible first | exact HB.out | apply below_alloc | apply pw_below_drewN | apply below_drew1) | exact HB.out)) hb); clear HO_5; clear HO105; clear HB; have HO_5 := n0_; have HO105 := n1_; have HB := n2_; clear n0_ n1_ n2_; (try clear hb); (try clear hb2); (try clear hk); (try clear hi)))
            go_ret
            exact ⟨by first | rfl | (simp [errW_none, errW_some] <;> rfl) | (simp [*, errW_none, errW_some] <;> rfl), by repeat (first | (with_reducible first | exact HB.out | apply below_alloc | apply pw_below_drewN | apply below_drew1) | exact HB.out)⟩

def agatelaw02_WireWrites.Pure : Prop := ∀ (x0 : List (S47)), (fun l => l.length ≤ maxLen ∧ l.length * 40 ≤ 140737488351232 ∧ ∀ x ∈ l, wf47 x) x0 → ∃ k, agatelaw02_WireWrites.f k x0 = some true

end Go.Proofs.Ytohddbiedabmhaa.X
