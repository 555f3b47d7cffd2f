import Derived.Test.YtohddbiedabmhaaMPackBack0
import Derived.ChangeSlices
import Derived.SizedLaws
import Derived.ProofKit
import Derived.OpenShut
import Derived.ShutString
import Derived.ChangeOld
import Derived.Test.YtohddbiedabmhaaMPackBack1
import Derived.Test.YtohddbiedabmhaaMPackBack2
-- by xprint.py, a program of this session, over the kit's print.py
namespace Go.Proofs.Ytohddbiedabmhaa.X
open Go.RowKit Go.Proofs.YtohddbiedabmhaaW.PrintWords Go.Proofs.YtohddbiedabmhaaW.PrintLast Go.Proofs.YtohddbiedabmhaaW.PrintMore
attribute [local go_sem] max2_int min2_int max_two min_two max_three min_three max_four min_four   -- for this text's walks alone
set_option linter.unusedVariables false
set_option linter.unusedSimpArgs false

/-! What data read at a type says of a kind: scalars, slices, structs. -/
open Go.ChangeShapes Go.WideShapes
/-- what is read at type t is of the kind d, and is well formed -/
structure Opens {H : Type} (enc : TypeId × Value → H) (P : Program) (W : World) (t : TypeId) {α : Type} (d : Kd α) (wf : α → Prop) : Prop where
  cells : P.cellsOf t = d.sz
  go : ∀ (fuel : Nat) (cs : List Value) (x : DataW H × List MemPlace), DataW.trod enc P W 0 (fun _ => true) true fuel t cs = some x →
    (∀ n ∈ DataW.weights P t x.1, n ≤ reachBytes) → ∃ a, d.K W a cs ∧ wf a
theorem Opens.int {H : Type} {enc : TypeId × Value → H} {P : Program} {W : World} {t : TypeId} {k : IntKind} (ht : P.underlying t = some (.int k)) (hc : P.cellsOf t = 1) :
    Opens enc P W t (Kd.int k) (fun a => (Lit.int k a).wf = true) := by
  refine ⟨hc, fun fuel cs x h _ => ?_⟩
  obtain ⟨n, rfl, _, hw⟩ := DataW.trod_int ht h
  exact ⟨n, rfl, hw⟩
theorem Opens.bool {H : Type} {enc : TypeId × Value → H} {P : Program} {W : World} {t : TypeId} (ht : P.underlying t = some .bool) (hc : P.cellsOf t = 1) :
    Opens enc P W t Kd.bool (fun _ => True) := by
  refine ⟨hc, fun fuel cs x h _ => ?_⟩
  obtain ⟨b, rfl, _⟩ := DataW.trod_bool ht h
  exact ⟨b, rfl, trivial⟩
theorem Opens.string {H : Type} {enc : TypeId × Value → H} {P : Program} {W : World} {t : TypeId} (ht : P.underlying t = some .string) (hc : P.cellsOf t = 1) :
    Opens enc P W t Kd.string (fun a => a.size ≤ 140737488351232) := by
  refine ⟨hc, fun fuel cs x h hw => ?_⟩
  obtain ⟨s, rfl, rfl, _⟩ := DataW.trod_string ht h
  refine ⟨s, rfl, ?_⟩
  have := hw s.data.toList.length (by simp [DataW.weights])
  rw [Array.length_toList] at this
  exact this
theorem weights_all_mem {H : Type} {P : Program} {e : TypeId} : ∀ {l : List (DataW H)} {y : DataW H}, y ∈ l → ∀ n ∈ DataW.weights P e y, n ∈ DataW.weightsAll P e l
  | d :: r, y, hy, n, hn => by
    simp only [DataW.weightsAll, List.mem_append]
    rcases List.mem_cons.1 hy with rfl | hy
    · exact .inl hn
    · exact .inr (weights_all_mem hy n hn)
theorem Opens.slice {H : Type} {enc : TypeId × Value → H} {P : Program} {W : World} {t e : TypeId} {α : Type} {d : Kd α} {wf : α → Prop} {B : Nat} (ht : P.underlying t = some (.slice e)) (hc : P.cellsOf t = 1) (hB : P.bytesOf e = B)
    (he : Opens enc P W e d wf) :
    Opens enc P W t (Kd.slice e d) (fun l => l.length ≤ maxLen ∧ l.length * B ≤ 140737488351232 ∧ ∀ x ∈ l, wf x) := by
  refine ⟨hc, fun fuel cs x h hw => ?_⟩
  rcases DataW.trod_slice ht h with ⟨rfl, rfl⟩ | ⟨a, len, cap, elems, rest, n, _, rfl, rfl, hb, hl, hm, hlen, hel, hsp, hns⟩
  · exact ⟨[], ⟨none, 0, rfl, Nat.le_refl _, rfl, Nat.zero_le _, fun h => absurd h (Nat.lt_irrefl 0)⟩, by simp, by simp, by simp⟩
  · have hwe : ∀ y ∈ elems, ∀ n ∈ DataW.weights P e y.1, n ≤ reachBytes := by
      intro y hy n hn
      refine hw n ?_
      simp only [DataW.weights, ht, List.mem_cons, List.mem_append]
      exact .inr (.inl (weights_all_mem (List.mem_map_of_mem hy) n hn))
    have hsize : (elems.length + rest.length) * P.bytesOf e ≤ reachBytes := by
      have := hw ((elems.length + rest.length) * P.bytesOf e) (by simp [DataW.weights, ht])
      exact this
    have each : ∀ i, i < len → ∃ y c, W.cells? 0 (a.add (i * P.cellsOf e)) (P.cellsOf e) = some c ∧ d.K W y c ∧ wf y := by
      intro i hi
      have h1 := hel i hi
      have h2 : elems[i]? = some elems[i] := List.getElem?_eq_getElem (by omega)
      rw [h2, Option.bind_eq_some_iff] at h1
      obtain ⟨c, hcs, hy⟩ := h1
      obtain ⟨y, hk, hwf⟩ := he.go n c _ hy (hwe _ (List.getElem_mem _))
      exact ⟨y, c, hcs, hk, hwf⟩
    obtain ⟨l, hll, hlp⟩ : ∃ l : List α, l.length = len ∧ ∀ i p, l[i]? = some p → ∃ c, W.cells? 0 (a.add (i * P.cellsOf e)) (P.cellsOf e) = some c ∧ d.K W p c ∧ wf p := by
      clear hel h hw hwe hsize hlen hl hsp hns hm hb ht hc
      induction len with
      | zero => exact ⟨[], rfl, by simp⟩
      | succ m ih =>
        obtain ⟨l, hll, hlp⟩ := ih (fun i hi => each i (by omega))
        obtain ⟨y, c, hcs, hk, hwf⟩ := each m (by omega)
        refine ⟨l ++ [y], by simp [hll], fun i p hp => ?_⟩
        rcases Nat.lt_or_ge i l.length with hi | hi
        · rw [List.getElem?_append_left hi] at hp
          exact hlp i p hp
        · rw [List.getElem?_append_right hi] at hp
          obtain ⟨h0, rfl⟩ : i - l.length = 0 ∧ y = p := by
            rcases hq : i - l.length with _ | q
            · rw [hq] at hp; simpa using hp
            · rw [hq] at hp; simp at hp
          obtain rfl : i = m := by omega
          exact ⟨c, hcs, hk, hwf⟩
    subst hll
    refine ⟨l, ⟨some a, cap, rfl, hl, rfl, by unfold maxLen at hm; omega, fun _ => ⟨a, rfl, fun j p hp => ?_⟩⟩, by omega, ?_, ?_⟩
    · obtain ⟨c, hcs, hk, _⟩ := hlp j p hp
      have hclen := (World.cells?_some hcs).2.1
      refine ⟨c, by rw [hclen, he.cells], hk, fun i u hu => ?_⟩
      have hi : i < P.cellsOf e := by have := (List.getElem?_eq_some_iff.1 hu).1; omega
      have := (World.cells?_some hcs).2.2 i hi
      rw [hu, Addr.add_add] at this
      rw [← he.cells]
      exact this
    · rw [hB] at hsize
      have : l.length * B ≤ (elems.length + rest.length) * B := Nat.mul_le_mul_right _ (by omega)
      exact Nat.le_trans this hsize
    · intro x hx
      obtain ⟨i, hi⟩ := List.getElem?_of_mem hx
      obtain ⟨c, _, _, hwf⟩ := hlp i x hi
      exact hwf
/-- the fields of a struct, from a place on -/
structure OpensF {H : Type} (enc : TypeId × Value → H) (P : Program) (W : World) (fs : List Field) (off : Nat) {α : Type} (d : Kd α) (wf : α → Prop) : Prop where
  go : ∀ (n : Nat) (cs : List Value) (xs : List (DataW H × List MemPlace)), cs.length = off + d.sz →
    (∀ (i : Nat) (f : Field), fs[i]? = some f → DataW.trod enc P W 0 (fun _ => true) true n f.type ((cs.drop f.offset).take (P.cellsOf f.type)) = xs[i]?) → xs.length = fs.length →
    (∀ n ∈ DataW.weightsEach P (fs.map (·.type)) (xs.map (·.1)), n ≤ reachBytes) → ∃ a, d.K W a (cs.drop off) ∧ wf a
theorem OpensF.one {H : Type} {enc : TypeId × Value → H} {P : Program} {W : World} {f : Field} {off : Nat} {α : Type} {d : Kd α} {wf : α → Prop} (ho : f.offset = off) (h : Opens enc P W f.type d wf) :
    OpensF enc P W [f] off d wf := by
  refine ⟨fun n cs xs hl hx hxl hw => ?_⟩
  obtain ⟨x, rfl⟩ : ∃ x, xs = [x] := by
    match xs, hxl with
    | [x], _ => exact ⟨x, rfl⟩
  have h1 := hx 0 f rfl
  rw [ho, List.take_of_length_le (by rw [List.length_drop, h.cells]; omega)] at h1
  exact h.go n _ x h1 (fun m hm => hw m (by simp [DataW.weightsEach, hm]))
theorem OpensF.more {H : Type} {enc : TypeId × Value → H} {P : Program} {W : World} {f : Field} {fs : List Field} {off : Nat} {α β : Type} {d : Kd α} {e : Kd β} {wf : α → Prop} {wg : β → Prop} (ho : f.offset = off) (h : Opens enc P W f.type d wf)
    (hs : OpensF enc P W fs (off + d.sz) e wg) : OpensF enc P W (f :: fs) off (Kd.pair d e) (fun a => wf a.1 ∧ wg a.2) := by
  refine ⟨fun n cs xs hl hx hxl hw => ?_⟩
  obtain ⟨x, xs, rfl⟩ : ∃ x ys, xs = x :: ys := by
    match xs, hxl with
    | x :: ys, _ => exact ⟨x, ys, rfl⟩
  have hsz : (Kd.pair d e).sz = d.sz + e.sz := rfl
  have h1 := hx 0 f rfl
  rw [ho, h.cells] at h1
  obtain ⟨a, hk, hwf⟩ := h.go n _ x h1 (fun m hm => hw m (by simp [DataW.weightsEach, hm]))
  obtain ⟨b, hk2, hwg⟩ := hs.go n cs xs (by omega) (fun i g hg => hx (i + 1) g (by simpa using hg)) (by simpa using hxl) (fun m hm => hw m (by simp [DataW.weightsEach, hm]))
  refine ⟨(a, b), ⟨_, _, ?_, hk, hk2⟩, hwf, hwg⟩
  rw [← List.drop_drop, List.take_append_drop]
theorem Opens.struct {H : Type} {enc : TypeId × Value → H} {P : Program} {W : World} {t : TypeId} {fs : Array Field} {α β : Type} {d : Kd α} {wf : α → Prop} {f : β → α} (mk : α → β) (hmk : ∀ a, f (mk a) = a) (ht : P.underlying t = some (.struct fs))
    (hc : P.cellsOf t = d.sz) (h : OpensF enc P W fs.toList 0 d wf) : Opens enc P W t (Kd.iso d f) (fun b => wf (f b)) := by
  refine ⟨hc, fun fuel cs x hx hw => ?_⟩
  obtain ⟨xs, n, _, rfl, hl, hxl, hf⟩ := DataW.trod_struct ht hx
  obtain ⟨a, hk, hwf⟩ := h.go n cs xs (by rw [hl, hc]; omega) (fun i g hg => hf i g (by simpa using hg)) (by simpa using hxl) (fun m hm => hw m (by simpa [DataW.weights, ht] using hm))
  refine ⟨mk a, ?_, by rw [hmk]; exact hwf⟩
  show d.K W (f (mk a)) cs
  rw [hmk]
  simpa using hk

end Go.Proofs.Ytohddbiedabmhaa.X
-- by xprint.py, a program of this session, over the kit's print.py
namespace Go.Proofs.Ytohddbiedabmhaa.X
open Go.RowKit Go.Proofs.YtohddbiedabmhaaW.PrintWords Go.Proofs.YtohddbiedabmhaaW.PrintLast Go.Proofs.YtohddbiedabmhaaW.PrintMore
attribute [local go_sem] max2_int min2_int max_two min_two max_three min_three max_four min_four   -- for this text's walks alone
set_option linter.unusedVariables false
set_option linter.unusedSimpArgs false

def wf47 (b : S47) : Prop := (fun p : (Int) × (Int) × (Int) × (ByteArray) => (fun a => (Lit.int .i64 a).wf = true) p.1 ∧ ((fun a => (Lit.int .i64 a).wf = true) p.2.1 ∧ ((fun a => (Lit.int .u64 a).wf = true) p.2.2.1 ∧ ((fun a => a.size ≤ 140737488351232) p.2.2.2)))) (b.f0, b.f1, b.f2, b.f3)
theorem op47 {H : Type} (enc : TypeId × Value → H) (W : World) : Opens enc Try.prog W 47 k47 wf47 :=
  Opens.struct (fun p => ⟨p.1, p.2.1, p.2.2.1, p.2.2.2⟩) (fun _ => rfl) Try.underlying47 (by kernel_rfl) (OpensF.more rfl (Opens.int Try.underlying3 (by kernel_rfl)) (OpensF.more rfl (Opens.int Try.underlying3 (by kernel_rfl)) (OpensF.more rfl (Opens.int Try.underlying22 (by kernel_rfl)) (OpensF.one rfl (Opens.string Try.underlying9 (by kernel_rfl))))))

end Go.Proofs.Ytohddbiedabmhaa.X
-- by xprint.py, a program of this session, over the kit's print.py
namespace Go.Proofs.Ytohddbiedabmhaa.X
open Go.RowKit Go.Proofs.YtohddbiedabmhaaW.PrintWords Go.Proofs.YtohddbiedabmhaaW.PrintLast Go.Proofs.YtohddbiedabmhaaW.PrintMore
attribute [local go_sem] max2_int min2_int max_two min_two max_three min_three max_four min_four   -- for this text's walks alone
set_option linter.unusedVariables false
set_option linter.unusedSimpArgs false

theorem wf_u64 {a : Int} (h : (Lit.int .u64 a).wf = true) : 0 ≤ a ∧ a < 18446744073709551616 := by
  have e1 : IntKind.u64.min = 0 := by decide
  have e2 : IntKind.u64.max = 18446744073709551615 := by decide
  simp only [Lit.wf, Bool.and_eq_true, decide_eq_true_eq, e1, e2] at h; omega
theorem wf_i64 {a : Int} (h : (Lit.int .i64 a).wf = true) : -9223372036854775808 ≤ a ∧ a < 9223372036854775808 := by
  have e1 : IntKind.i64.min = -9223372036854775808 := by decide
  have e2 : IntKind.i64.max = 9223372036854775807 := by decide
  simp only [Lit.wf, Bool.and_eq_true, decide_eq_true_eq, e1, e2] at h; omega
theorem wf_u8 {a : Int} (h : (Lit.int .u8 a).wf = true) : 0 ≤ a ∧ a < 256 := by
  have e1 : IntKind.u8.min = 0 := by decide
  have e2 : IntKind.u8.max = 255 := by decide
  simp only [Lit.wf, Bool.and_eq_true, decide_eq_true_eq, e1, e2] at h; omega

end Go.Proofs.Ytohddbiedabmhaa.X
-- by xprint.py, a program of this session, over the kit's print.py
namespace Go.Proofs.Ytohddbiedabmhaa.X
open Go.RowKit Go.Proofs.YtohddbiedabmhaaW.PrintWords Go.Proofs.YtohddbiedabmhaaW.PrintLast Go.Proofs.YtohddbiedabmhaaW.PrintMore
attribute [local go_sem] max2_int min2_int max_two min_two max_three min_three max_four min_four   -- for this text's walks alone
set_option linter.unusedVariables false
set_option linter.unusedSimpArgs false

/-! Fields laid one behind the other: plain Lean -/
/-- what a field that may be is read as -/
def fieldOf (x : S47) : Fl := (x.f0, x.f1, if x.f1 = 2 then 0 else x.f2, if x.f1 = 2 then x.f3 else ⟨#[]⟩)
def mayF (x : S47) : Prop := 1 ≤ x.f0 ∧ x.f0 ≤ 536870911 ∧ (x.f1 = 0 ∨ x.f1 = 1 ∨ x.f1 = 2 ∨ x.f1 = 5) ∧ (x.f1 = 5 → x.f2 ≤ 4294967295)
theorem bytes_nil (x : S47) : bytesS x.f0 x.f1 x.f2 x.f3 = ⟨#[]⟩ ↔ ¬ mayF x := by
  have hne : ∀ (v : Nat) (b : ByteArray), vStr v ++ b ≠ ⟨#[]⟩ := by
    intro v b h
    have := congrArg ByteArray.size h
    rw [ByteArray.size_append, vStr_size] at this
    have h1 := vSize_pos v
    have h2 : ByteArray.size ⟨#[]⟩ = 0 := rfl
    omega
  unfold bytesS mayF
  by_cases h : 1 ≤ x.f0 ∧ x.f0 ≤ 536870911 ∧ (x.f1 = 0 ∨ x.f1 = 1 ∨ x.f1 = 2 ∨ x.f1 = 5)
  · rw [if_pos h]
    obtain ⟨h0, h1, h2⟩ := h
    by_cases e0 : x.f1 = 0
    · rw [if_pos e0]
      exact ⟨fun g => absurd g (hne _ _), fun g => absurd ⟨h0, h1, h2, by omega⟩ g⟩
    · rw [if_neg e0]
      by_cases e2 : x.f1 = 2
      · rw [if_pos e2, ByteArray.append_assoc]
        exact ⟨fun g => absurd g (hne _ _), fun g => absurd ⟨h0, h1, h2, by omega⟩ g⟩
      · rw [if_neg e2]
        by_cases e1 : x.f1 = 1
        · rw [if_pos e1]
          exact ⟨fun g => absurd g (hne _ _), fun g => absurd ⟨h0, h1, h2, by omega⟩ g⟩
        · rw [if_neg e1]
          by_cases e4 : x.f2 > 4294967295
          · rw [if_pos e4]
            exact ⟨fun _ g => by have := g.2.2.2 (by omega); omega, fun _ => rfl⟩
          · rw [if_neg e4]
            exact ⟨fun g => absurd g (hne _ _), fun g => absurd ⟨h0, h1, h2, by omega⟩ g⟩
  · rw [if_neg h]
    exact ⟨fun _ g => h ⟨g.1, g.2.1, g.2.2.1⟩, fun _ => rfl⟩
theorem drop_put (v : Nat) (r : List Nat) : (vPut v ++ r).drop (vSize v) = r := by
  rw [← vPut_length, List.drop_left]
/-- a field that may be, whatever follows, is read as it was -/
theorem oneS_bytes (x : S47) (rest : ByteArray) (hm : mayF x) (h2 : 0 ≤ x.f2) (h2' : x.f2 < 18446744073709551616) (h3 : x.f3.size ≤ 140737488351232) :
    oneS (bytesS x.f0 x.f1 x.f2 x.f3 ++ rest) = (fieldOf x, (bytesS x.f0 x.f1 x.f2 x.f3).size, 0) := by
  obtain ⟨m0, m1, m2, m3⟩ := hm
  obtain ⟨num, en⟩ := Int.eq_ofNat_of_zero_le (show 0 ≤ x.f0 by omega)
  obtain ⟨ty, et⟩ := Int.eq_ofNat_of_zero_le (show 0 ≤ x.f1 by omega)
  obtain ⟨v, ev⟩ := Int.eq_ofNat_of_zero_le h2
  have htag : (8 * x.f0 + x.f1).toNat = 8 * num + ty := by omega
  have hmay : 1 ≤ x.f0 ∧ x.f0 ≤ 536870911 ∧ (x.f1 = 0 ∨ x.f1 = 1 ∨ x.f1 = 2 ∨ x.f1 = 5) := ⟨m0, m1, m2⟩
  have hlt : 8 * num + ty < 18446744073709551616 := by omega
  have hs10 := vSize_10 _ hlt
  -- what stands behind the tag
  obtain ⟨body, hb⟩ : ∃ body, bytesS x.f0 x.f1 x.f2 x.f3 = vStr (8 * num + ty) ++ body ∧ (ty = 0 → body = vStr v) ∧ (ty = 2 → body = vStr x.f3.size ++ x.f3) ∧ (ty = 1 → body = laidStr v 8) ∧ (ty = 5 → body = laidStr v 4) := by
    unfold bytesS
    rw [if_pos hmay, htag]
    rcases m2 with e | e | e | e
    · rw [if_pos e, ev]; exact ⟨_, rfl, fun _ => rfl, fun g => by omega, fun g => by omega, fun g => by omega⟩
    · rw [if_neg (by omega), if_neg (by omega), if_pos e, ev]; exact ⟨_, rfl, fun g => by omega, fun g => by omega, fun _ => rfl, fun g => by omega⟩
    · rw [if_neg (by omega), if_pos e, ByteArray.append_assoc]; exact ⟨_, rfl, fun g => by omega, fun _ => rfl, fun g => by omega, fun g => by omega⟩
    · have := m3 e
      rw [if_neg (by omega), if_neg (by omega), if_neg (by omega), if_neg (by omega), ev]; exact ⟨_, rfl, fun g => by omega, fun g => by omega, fun g => by omega, fun _ => rfl⟩
  obtain ⟨hb, b0, b2, b1, b5⟩ := hb
  have hr : vRead (bytesS x.f0 x.f1 x.f2 x.f3 ++ rest) = (8 * num + ty, vSize (8 * num + ty), 0) := by
    rw [hb, ByteArray.append_assoc, vRead_put _ hlt]
  have hsz : (bytesS x.f0 x.f1 x.f2 x.f3).size = vSize (8 * num + ty) + body.size := by rw [hb, ByteArray.size_append, vStr_size]
  have hsz2 : (bytesS x.f0 x.f1 x.f2 x.f3 ++ rest).size = vSize (8 * num + ty) + body.size + rest.size := by rw [ByteArray.size_append, hsz]
  have hns : ns (bytesS x.f0 x.f1 x.f2 x.f3 ++ rest) = vPut (8 * num + ty) ++ (ns body ++ ns rest) := by
    rw [hb, ns_append, ns_append, ns_vStr, List.append_assoc]
  have hex : (bytesS x.f0 x.f1 x.f2 x.f3 ++ rest).extract (vSize (8 * num + ty)) (bytesS x.f0 x.f1 x.f2 x.f3 ++ rest).size = body ++ rest := by
    apply ns_inj
    rw [ns_extract, hns, drop_put, ns_append, List.take_of_length_le]
    rw [hsz2, List.length_append, ns_length, ns_length]; omega
  unfold oneS fieldOf
  simp only [hr, hex]
  have hn8 : (8 * num + ty) / 8 = num := by omega
  have hm8 : (8 * num + ty) % 8 = ty := by omega
  rw [hn8, hm8]
  rw [if_neg (show ¬ ((0 : Nat) ≠ 0) by simp), if_neg (show ¬ ¬ (1 ≤ num ∧ num ≤ 536870911 ∧ (ty = 0 ∨ ty = 1 ∨ ty = 2 ∨ ty = 5)) by omega)]
  rcases m2 with e | e | e | e
  · obtain rfl : ty = 0 := by omega
    have hbody := b0 rfl
    rw [if_pos (Or.inl rfl), hbody, vRead_put v (by omega)]
    rw [hbody, vStr_size] at hsz
    simp only [hsz]
    rw [if_neg (show ¬ ((0 : Nat) ≠ 0) by simp), if_pos trivial]
    have e8 : (((8 * num + 0 : Nat) : Int) / 8) = (num : Int) := by omega
    rw [e8]
    simp [en, et, ev]
  · obtain rfl : ty = 1 := by omega
    have hbody := b1 rfl
    rw [hbody, laidStr_size] at hsz hsz2
    have hx : ns ((bytesS x.f0 x.f1 x.f2 x.f3 ++ rest).extract (vSize (8 * num + 1)) (vSize (8 * num + 1) + 8)) = laidS v 8 := by
      rw [ns_extract, hns, drop_put, hbody, ns_laidStr, show vSize (8 * num + 1) + 8 - vSize (8 * num + 1) = (laidS v 8).length by rw [laidS_length]; omega, List.take_left]
    rw [if_neg (by omega)]
    simp only [show ¬ ((1 : Nat) = 5) by decide, if_false, hx, lowS_laidS, hsz2, hsz]
    have e8 : (((8 * num + 1 : Nat) : Int) / 8) = (num : Int) := by omega
    rw [if_neg (by omega), if_neg (by omega), if_neg (by omega), show v % 256 ^ 8 = v from Nat.mod_eq_of_lt (by omega), e8]
    simp [en, et, ev]
  · obtain rfl : ty = 2 := by omega
    have hbody := b2 rfl
    rw [if_pos (Or.inr rfl)]
    have hq : vRead (body ++ rest) = (x.f3.size, vSize x.f3.size, 0) := by
      rw [hbody, ByteArray.append_assoc, vRead_put _ (by omega)]
    simp only [hq]
    have hbz : body.size = vSize x.f3.size + x.f3.size := by rw [hbody, ByteArray.size_append, vStr_size]
    rw [hbz] at hsz hsz2
    have hx : (bytesS x.f0 x.f1 x.f2 x.f3 ++ rest).extract (vSize (8 * num + 2) + vSize x.f3.size) (vSize (8 * num + 2) + vSize x.f3.size + x.f3.size) = x.f3 := by
      apply ns_inj
      rw [ns_extract, hns, hbody, ← List.drop_drop, drop_put, ns_append, ns_vStr, List.append_assoc, drop_put]
      rw [show vSize (8 * num + 2) + vSize x.f3.size + x.f3.size - (vSize (8 * num + 2) + vSize x.f3.size) = (ns x.f3).length by rw [ns_length]; omega, List.take_left]
    have e8 : (((8 * num + 2 : Nat) : Int) / 8) = (num : Int) := by omega
    rw [if_neg (show ¬ ((0 : Nat) ≠ 0) by simp), if_neg (show ¬ (2 = 0) by decide), hsz2, if_neg (by omega), hx, hsz, if_pos e, if_pos e, e8]
    simp [en, et, Nat.add_assoc]
  · obtain rfl : ty = 5 := by omega
    have hbody := b5 rfl
    have h4 := m3 e
    rw [hbody, laidStr_size] at hsz hsz2
    have hx : ns ((bytesS x.f0 x.f1 x.f2 x.f3 ++ rest).extract (vSize (8 * num + 5)) (vSize (8 * num + 5) + 4)) = laidS v 4 := by
      rw [ns_extract, hns, drop_put, hbody, ns_laidStr, show vSize (8 * num + 5) + 4 - vSize (8 * num + 5) = (laidS v 4).length by rw [laidS_length]; omega, List.take_left]
    rw [if_neg (by omega)]
    simp only [if_true, hx, lowS_laidS, hsz2, hsz]
    have e8 : (((8 * num + 5 : Nat) : Int) / 8) = (num : Int) := by omega
    rw [if_neg (by omega), if_neg (by omega), if_neg (by omega), show v % 256 ^ 4 = v from Nat.mod_eq_of_lt (by omega), e8]
    simp [en, et, ev]
/-- fields written one behind the other -/
def laidF : List (S47) → ByteArray
  | [] => ⟨#[]⟩
  | x :: l => bytesS x.f0 x.f1 x.f2 x.f3 ++ laidF l
theorem fieldsF_laid (l : List (S47)) (hl : ∀ x ∈ l, mayF x ∧ 0 ≤ x.f2 ∧ x.f2 < 18446744073709551616 ∧ x.f3.size ≤ 140737488351232) : ∀ d, l.length ≤ d → fieldsF d (laidF l) = (l.map fieldOf, 0) := by
  induction l with
  | nil =>
    intro d _
    cases d with
    | zero => rfl
    | succ d => rfl
  | cons x l ih =>
    intro d hd
    obtain ⟨d, rfl⟩ : ∃ m, d = m + 1 := ⟨d - 1, by simp at hd; omega⟩
    obtain ⟨h0, h1, h2, h3⟩ := hl x (List.mem_cons_self ..)
    have ho := oneS_bytes x (laidF l) h0 h1 h2 h3
    have hpos := oneS_pos (bytesS x.f0 x.f1 x.f2 x.f3 ++ laidF l) (by rw [ho])
    rw [ho] at hpos
    have hex : (bytesS x.f0 x.f1 x.f2 x.f3 ++ laidF l).extract (bytesS x.f0 x.f1 x.f2 x.f3).size (bytesS x.f0 x.f1 x.f2 x.f3 ++ laidF l).size = laidF l := by
      apply ns_inj
      rw [ns_extract, ns_append, show (bytesS x.f0 x.f1 x.f2 x.f3).size = (ns (bytesS x.f0 x.f1 x.f2 x.f3)).length from (ns_length _).symm, List.drop_left, List.take_of_length_le]
      rw [ByteArray.size_append, ns_length, ns_length]; omega
    have hi := ih (fun y hy => hl y (List.mem_cons_of_mem _ hy)) d (by simp at hd; omega)
    show fieldsF (d + 1) (bytesS x.f0 x.f1 x.f2 x.f3 ++ laidF l) = _
    rw [fieldsF, if_neg (by simp only at hpos; omega), ho]
    simp only [hex, hi]
    simp
theorem laidF_snoc (l : List (S47)) (x : S47) : laidF (l ++ [x]) = laidF l ++ bytesS x.f0 x.f1 x.f2 x.f3 := by
  induction l with
  | nil => apply ns_inj; simp [laidF, ns_append, ns]
  | cons y l ih => rw [List.cons_append, laidF, ih, laidF, ByteArray.append_assoc]
theorem bytes_size (x : S47) (h2 : 0 ≤ x.f2) (h2' : x.f2 < 18446744073709551616) (h3 : x.f3.size ≤ 140737488351232) : (bytesS x.f0 x.f1 x.f2 x.f3).size ≤ 20 + x.f3.size := by
  unfold bytesS
  split
  · rename_i h
    have hs := vSize_10 (8 * x.f0 + x.f1).toNat (by omega)
    have hv := vSize_10 x.f2.toNat (by omega)
    have hd := vSize_10 x.f3.size (by omega)
    split
    · rw [ByteArray.size_append, vStr_size, vStr_size]; omega
    · split
      · rw [ByteArray.size_append, ByteArray.size_append, vStr_size, vStr_size]; omega
      · split
        · rw [ByteArray.size_append, vStr_size, laidStr_size]; omega
        · split
          · show 0 ≤ _; omega
          · rw [ByteArray.size_append, vStr_size, laidStr_size]; omega
  · show 0 ≤ _; omega
theorem laidF_len (l : List (S47)) (hl : ∀ x ∈ l, mayF x) : l.length ≤ (laidF l).size := by
  induction l with
  | nil => simp
  | cons x l ih =>
    have h1 := ih (fun y hy => hl y (List.mem_cons_of_mem _ hy))
    have h2 : (bytesS x.f0 x.f1 x.f2 x.f3).size ≠ 0 := by
      intro h
      have : bytesS x.f0 x.f1 x.f2 x.f3 = ⟨#[]⟩ := ns_inj (List.eq_nil_of_length_eq_zero (by rw [ns_length]; exact h))
      exact ((bytes_nil x).1 this) (hl x (List.mem_cons_self ..))
    simp only [List.length_cons, laidF, ByteArray.size_append]
    omega

end Go.Proofs.Ytohddbiedabmhaa.X
