import Derived.Test.YtfejdnkmmjffcaaMModelTells3
import Derived.Test.YtfejdnkmmjffcaaMModelTells11
import Derived.Test.YtfejdnkmmjffcaaMModelTells4
import Derived.Test.YtfejdnkmmjffcaaMModelTells10
import Derived.Test.YtfejdnkmmjffcaaMModelTells14
import Derived.Test.YtfejdnkmmjffcaaMModelTells16
import Derived.Test.YtfejdnkmmjffcaaMModelTells19
import Derived.Test.YtfejdnkmmjffcaaMModelTells12
import Derived.Test.YtfejdnkmmjffcaaMModelTells13
import Derived.Test.YtfejdnkmmjffcaaMModelTells15
import Derived.Test.YtfejdnkmmjffcaaMModelTells17
import Derived.Test.YtfejdnkmmjffcaaMModelTells18
import Derived.Test.YtfejdnkmmjffcaaMModelTells5
import Derived.Test.YtfejdnkmmjffcaaMModelTells8
namespace Go.Proofs.Ytfejdnkmmjffcaa.X
open Go.RowKit Go.Proofs.YtfejdnkmmjffcaaW.PrintWords Go.Proofs.YtfejdnkmmjffcaaW.PrintLast Go.Proofs.YtfejdnkmmjffcaaW.PrintMore
attribute [local go_sem] max2_int min2_int max_two min_two max_three min_three max_four min_four
set_option linter.unusedVariables false
set_option linter.unusedSimpArgs false
theorem reps_choose {α : Type} {R R' : α → List Value → Prop} {sz : Nat} {xs : List α} {cs : List Value} (hR : ∀ x c, R x c → ∃ y, R' y c) (h : Reps R sz xs cs) : ∃ ys : List α, ys.length = xs.length ∧ Reps R' sz ys cs := by
  classical
  refine ⟨xs.mapIdx (fun i x => if k : ∃ y, R' y ((cs.drop (i * sz)).take sz) then Classical.choose k else x), by simp, by simpa using h.1, fun j p hj => ?_⟩
  rw [List.getElem?_mapIdx] at hj
  obtain ⟨x, hx, rfl⟩ := Option.map_eq_some_iff.1 hj
  have k := hR _ _ (h.2 j x hx)
  rw [dif_pos k]
  exact Classical.choose_spec k
def Stir {α : Type} (d : Kd α) (t : Nat) (P : Value → Prop) : Prop :=
  ∀ {w : World} {base : Nat} {ok : Nat → Prop} {x : α} {cs : List Value} {g j : Nat} {cells : Array Value} {u : Value}, w.heap[g]? = some (.cells cells t (0, 0)) → P u → d.M w base ok x cs → ∃ y, d.M (w.setCell ⟨g, j, none⟩ u) base ok y cs
def StirR {α : Type} (d : Kd α) (e t : Nat) (P : Value → Prop) : Prop :=
  ∀ {w : World} {base : Nat} {ok : Nat → Prop} {v : Value} {xs : List α} {g j : Nat} {cells : Array Value} {u : Value}, w.heap[g]? = some (.cells cells t (0, 0)) → P u → d.R e w base ok v xs → ∃ ys, ys.length = xs.length ∧ d.R e (w.setCell ⟨g, j, none⟩ u) base ok v ys
section
variable {α β : Type} {t e : Nat} {P : Value → Prop}
theorem stir_scalar {enc : α → Value} {h1 : ∀ x, (enc x).oneCell' = true} : Stir (Kd.scalar enc h1) t P := fun _ _ h => ⟨_, h⟩
theorem stir_pair {a : Kd α} {b : Kd β} (ha : Stir a t P) (hb : Stir b t P) : Stir (Kd.pair a b) t P := by
  rintro w base ok x cs g j cells u hg hu ⟨c0, c1, rfl, h0, h1⟩
  obtain ⟨y0, k0⟩ := ha (j := j) hg hu h0
  obtain ⟨y1, k1⟩ := hb (j := j) hg hu h1
  exact ⟨(y0, y1), c0, c1, rfl, k0, k1⟩
theorem stir_iso {d : Kd α} {f : β → α} (k : α → β) (hf : ∀ a, f (k a) = a) (h : Stir d t P) : Stir (Kd.iso d f) t P := by
  intro w base ok x cs g j cells u hg hu hx
  obtain ⟨y, hy⟩ := h (j := j) hg hu hx
  exact ⟨k y, by show d.M _ _ _ (f (k y)) _; rw [hf]; exact hy⟩
theorem stir_other {d : Kd α} (h : Stir d t P) (hne : e ≠ t) : StirR d e t P := by
  rintro w base ok v xs g j cells u hg hu ⟨h0, inner, ho, hr⟩
  obtain ⟨ys, hl, hy⟩ := reps_choose (fun x c hx => h (j := j) hg hu hx) hr
  exact ⟨ys, hl, h0, inner, by rw [hl]; exact own_setCell ho (own_ne ho hg hne) u, hy⟩
def resK {α : Type} (d : Kd α) (F : α → Prop) : Kd α where
  sz := d.sz
  E := d.E
  K := fun w x cs => d.K w x cs ∧ F x
  M := fun w base ok x cs => d.M w base ok x cs ∧ F x
  K_len := fun h => d.K_len h.1
  K_one := fun h => d.K_one h.1
  K_below := fun hb h => ⟨d.K_below hb h.1, h.2⟩
  K_of_M := fun h => ⟨d.K_of_M h.1, h.2⟩
  M_mono := fun hok h => ⟨d.M_mono hok h.1, h.2⟩
  M_bound := fun h => ⟨d.M_bound h.1, h.2⟩
  M_move := fun hm h => ⟨d.M_move hm h.1, h.2⟩
  M_lower := fun hb h => ⟨d.M_lower hb h.1, h.2⟩
theorem R_kind {d d' : Kd α} {w : World} {base : Nat} {ok : Nat → Prop} {v : Value} {xs : List α} (hs : d.sz = d'.sz) (h : d.R e w base ok v xs) (hk : ∀ ok x cs, x ∈ xs → d.M w base ok x cs → d'.M w base ok x cs) : d'.R e w base ok v xs := by
  obtain ⟨h0, inner, ho, hr⟩ := h
  exact ⟨h0, inner, hs ▸ ho, hs ▸ hr.1, fun j p hj => hk _ _ _ (List.mem_of_getElem? hj) (hs ▸ hr.2 j p hj)⟩
theorem R_res {d : Kd α} {F : α → Prop} {w : World} {base : Nat} {ok : Nat → Prop} {v : Value} {xs : List α} : (resK d F).R e w base ok v xs ↔ d.R e w base ok v xs ∧ ∀ x ∈ xs, F x := by
  constructor
  · intro h
    refine ⟨R_kind (d := resK d F) (d' := d) rfl h (fun _ _ _ _ h => h.1), fun x hx => ?_⟩
    obtain ⟨j, hj⟩ := List.getElem?_of_mem hx
    obtain ⟨_, inner, _, hr⟩ := h
    exact (hr.2 j x hj).2
  · rintro ⟨h, hF⟩
    exact R_kind (d := d) (d' := resK d F) rfl h (fun _ x _ hx h => ⟨h, hF x hx⟩)
theorem stir_put {enc : α → Value} {h1 : ∀ x, (enc x).oneCell' = true} {w : World} {base : Nat} {ok : Nat → Prop} {v : Value} {xs : List α} {g j : Nat} {y : α} (h : (Kd.scalar enc h1).R t w base ok v xs) : ∃ ys, ys.length = xs.length ∧ (∀ z ∈ ys, z ∈ xs ∨ z = y) ∧ (Kd.scalar enc h1).R t (w.setCell ⟨g, j, none⟩ (enc y)) base ok v ys := by
  rcases Classical.em (v.ownBlock = some g) with hv | hv
  · obtain ⟨A, c, rfl⟩ := Kd.R_slice h
    obtain ⟨g', rfl⟩ : ∃ g', A = some ⟨g', 0, none⟩ := by
      obtain ⟨_, inner, ho, _⟩ := h
      rcases ho.2 with ⟨h2, _⟩ | ⟨g', cap, cur, h2, _⟩
      · rw [h2] at hv; simp [Value.ownBlock] at hv
      · injection h2 with h2; exact ⟨g', h2⟩
    obtain rfl : g' = g := by simpa [Value.ownBlock] using hv
    have := (Kd.R_put h (j : Int) y).1
    rw [Int.toNat_natCast] at this
    exact ⟨xs.set j y, by simp, fun z hz => (List.mem_or_eq_of_mem_set hz), this⟩
  · exact ⟨xs, rfl, fun z hz => .inl hz, Kd.R_mono (Kd.R_far (p := ⟨g, j, none⟩) (Kd.R_tight (by rfl) h) (fun k hk e => hv (by rw [← hk, e])) _) (fun k hk => h.1 k hk.symm)⟩
theorem stir_own {enc : α → Value} {h1 : ∀ x, (enc x).oneCell' = true} (hP : ∀ u, P u → ∃ y, u = enc y) : StirR (Kd.scalar enc h1) t t P := by
  intro w base ok v xs g j cells u hg hu h
  obtain ⟨y, rfl⟩ := hP u hu
  obtain ⟨ys, hl, _, hR⟩ := stir_put (g := g) (j := j) (y := y) h
  exact ⟨ys, hl, hR⟩
theorem stir_res {enc : α → Value} {h1 : ∀ x, (enc x).oneCell' = true} {F : α → Prop} (hP : ∀ u, P u → ∃ y, u = enc y ∧ F y) : StirR (resK (Kd.scalar enc h1) F) t t P := by
  intro w base ok v xs g j cells u hg hu h
  obtain ⟨y, rfl, hy⟩ := hP u hu
  obtain ⟨h, hF⟩ := R_res.1 h
  obtain ⟨ys, hl, hm, hR⟩ := stir_put (g := g) (j := j) (y := y) h
  exact ⟨ys, hl, R_res.2 ⟨hR, fun z hz => (hm z hz).elim (hF z) (fun e => e ▸ hy)⟩⟩
theorem stir_resS {enc : α → Value} {h1 : ∀ x, (enc x).oneCell' = true} {F : α → Prop} : Stir (resK (Kd.scalar enc h1) F) t P := fun _ _ h => ⟨_, h⟩
theorem stir_slice {d : Kd α} (h : StirR d e t P) : Stir (Kd.slice e d) t P := by
  rintro w base ok x cs g j cells u hg hu ⟨v, rfl, hR⟩
  obtain ⟨ys, _, hy⟩ := h (j := j) hg hu hR
  exact ⟨ys, v, rfl, hy⟩
end
end Go.Proofs.Ytfejdnkmmjffcaa.X
namespace Go.Proofs.Ytfejdnkmmjffcaa.X
open Go.RowKit Go.Proofs.YtfejdnkmmjffcaaW.PrintWords Go.Proofs.YtfejdnkmmjffcaaW.PrintLast Go.Proofs.YtfejdnkmmjffcaaW.PrintMore
attribute [local go_sem] max2_int min2_int max_two min_two max_three min_three max_four min_four
set_option linter.unusedVariables false
set_option linter.unusedSimpArgs false
def isI (v : Value) : Prop := ∃ n, v = .int .i64 n
def isS (n : Nat) (v : Value) : Prop := ∃ s : ByteArray, v = .string s ∧ s.size ≤ n
def strB (n : Nat) : Kd ByteArray := resK Kd.string (fun s => s.size ≤ n)
def nodeB (n : Nat) : Kd S46 := Kd.iso (Kd.pair Kd.string (Kd.pair (Kd.slice 9 (strB n)) (Kd.pair Kd.string (Kd.slice 48 k48)))) (fun x : S46 => (x.f0, x.f1, x.f2, x.f3))
theorem stir_I {t : Nat} : StirR (Kd.int .i64) t t isI := stir_own (fun _ h => h)
theorem stir_S {t n : Nat} : StirR (strB n) t t (isS n) := stir_res (fun _ h => h)
theorem stir_attr : Stir k48 2 isI := stir_iso (fun p => ⟨p.1, p.2.1, p.2.2.1, p.2.2.2⟩) (fun _ => rfl) (stir_pair stir_scalar (stir_pair stir_scalar (stir_pair stir_scalar (stir_slice stir_I))))
theorem stir_attrS {n : Nat} : Stir k48 9 (isS n) := stir_iso (fun p => ⟨p.1, p.2.1, p.2.2.1, p.2.2.2⟩) (fun _ => rfl) (stir_pair stir_scalar (stir_pair stir_scalar (stir_pair stir_scalar (stir_slice (stir_other stir_scalar (by decide))))))
theorem stir_info {t : Nat} {P : Value → Prop} (h : StirR (Kd.int .i64) 2 t P) : Stir k40 t P := stir_iso (fun p => ⟨p.1, p.2.1, p.2.2⟩) (fun _ => rfl) (stir_pair stir_scalar (stir_pair stir_scalar (stir_slice h)))
theorem stir_tensor {t : Nat} {P : Value → Prop} (h : StirR (Kd.int .i64) 2 t P) : Stir k42 t P := stir_iso (fun p => ⟨p.1, p.2.1, p.2.2.1, p.2.2.2⟩) (fun _ => rfl) (stir_pair stir_scalar (stir_pair stir_scalar (stir_pair (stir_slice h) stir_scalar)))
theorem stir_node {t n : Nat} {P : Value → Prop} (h : StirR (strB n) 9 t P) (h2 : Stir k48 t P) (hne : 48 ≠ t) : Stir (nodeB n) t P := stir_iso (fun p => ⟨p.1, p.2.1, p.2.2.1, p.2.2.2⟩) (fun _ => rfl) (stir_pair stir_scalar (stir_pair (stir_slice h) (stir_pair stir_scalar (stir_slice (stir_other h2 hne)))))
def HasR {α : Type} (d : Kd α) (e : Nat) (W : World) (base : Nat) (v : Value) : Prop := ∃ xs, d.R e W base (fun _ => True) v xs
theorem HasR.step {α : Type} {d : Kd α} {e : Nat} {W V : World} {base : Nat} {v : Value} (h : HasR d e W base v) (hb : Below W.heap.size W V) : HasR d e V base v := h.imp (fun _ hx => Kd.R_below hx hb)
structure ZR (w9 W : World) (b : Nat) (a : Int) (A1 : Option Addr) (n1 c1 : Nat) (v2 : Value) (A3 : Option Addr) (n3 c3 : Nat) (A4 : Option Addr) (n4 c4 n : Nat) : Prop where
  hb : Below w9.heap.size w9 W
  bz : W.heap[b]? = some (.cells #[.int .i64 a, .slice A1 n1 c1, v2, .slice A3 n3 c3, .slice A4 n4 c4] 26 (0, 0))
  r1 : HasR k40 40 W w9.heap.size (.slice A1 n1 c1)
  r3 : HasR k42 42 W w9.heap.size (.slice A3 n3 c3)
  r4 : HasR (nodeB n) 46 W w9.heap.size (.slice A4 n4 c4)
section
variable {w9 W : World} {b : Nat} {a : Int} {A1 : Option Addr} {n1 c1 : Nat} {v2 : Value} {A3 : Option Addr} {n3 c3 : Nat} {A4 : Option Addr} {n4 c4 n : Nat}
theorem ZR.set (h : ZR w9 W b a A1 n1 c1 v2 A3 n3 c3 A4 n4 c4 n) {g j : Nat} {cells : Array Value} {u : Value} {t : Nat} (hg : W.heap[g]? = some (.cells cells t (0, 0))) (hbase : w9.heap.size ≤ g) (hu : (t = 2 ∧ isI u) ∨ (t = 9 ∧ isS n u)) : ZR w9 (W.setCell ⟨g, j, none⟩ u) b a A1 n1 c1 v2 A3 n3 c3 A4 n4 c4 n := by
  have hne : b ≠ g := blk_ne h.bz hg (by rcases hu with ⟨rfl, _⟩ | ⟨rfl, _⟩ <;> decide)
  obtain ⟨x1, h1⟩ := h.r1
  obtain ⟨x3, h3⟩ := h.r3
  obtain ⟨x4, h4⟩ := h.r4
  rcases hu with ⟨rfl, hu⟩ | ⟨rfl, hu⟩
  · obtain ⟨y1, _, k1⟩ := stir_other (stir_info stir_I) (by decide) (j := j) hg hu h1
    obtain ⟨y3, _, k3⟩ := stir_other (stir_tensor stir_I) (by decide) (j := j) hg hu h3
    obtain ⟨y4, _, k4⟩ := stir_other (stir_node (stir_other stir_resS (by decide)) stir_attr (by decide)) (by decide) (j := j) hg hu h4
    exact ⟨below_set h.hb hbase, blk_far h.bz hne _, ⟨y1, k1⟩, ⟨y3, k3⟩, ⟨y4, k4⟩⟩
  · obtain ⟨y1, _, k1⟩ := stir_other (stir_info (stir_other stir_scalar (by decide))) (by decide) (j := j) hg hu h1
    obtain ⟨y3, _, k3⟩ := stir_other (stir_tensor (stir_other stir_scalar (by decide))) (by decide) (j := j) hg hu h3
    obtain ⟨y4, _, k4⟩ := stir_other (stir_node stir_S stir_attrS (by decide)) (by decide) (j := j) hg hu h4
    exact ⟨below_set h.hb hbase, blk_far h.bz hne _, ⟨y1, k1⟩, ⟨y3, k3⟩, ⟨y4, k4⟩⟩
theorem cellZ_far {g g' i j : Nat} {v u : Value} (h : W.cell? ⟨g, i, none⟩ = some v) (hne : g ≠ g') : (W.setCell ⟨g', j, none⟩ u).cell? ⟨g, i, none⟩ = some v := by
  have hv := Below.heap_setCell W ⟨g', j, none⟩ u g hne
  unfold World.cell? at h ⊢
  simp only at h ⊢
  rw [hv]
  exact h
theorem HasR.at {α : Type} {d : Kd α} {e : Nat} {base n c : Nat} {A : Option Addr} (h : HasR d e W base (.slice A n c)) {i : Nat} (hi : i < n) :
    ∃ g, A = some ⟨g, 0, none⟩ ∧ base ≤ g ∧ (∃ cells, W.heap[g]? = some (.cells cells e (0, 0))) ∧ ∃ x cs, d.M W base (fun _ => True) x cs ∧ ∀ j u, cs[j]? = some u → W.cell? ⟨g, i * d.sz + j, none⟩ = some u ∧ W.frozen? ⟨g, i * d.sz + j, none⟩ = false := by
  obtain ⟨xs, h⟩ := h
  have hn := (Kd.R_reads' h).1
  obtain ⟨ad, rfl⟩ : ∃ ad, A = some ad := by
    obtain ⟨_, _, hC⟩ := Kd.R_reads' h
    obtain ⟨ad, e, _⟩ := hC.2.2 (by omega)
    exact ⟨ad, e⟩
  obtain ⟨g, rfl⟩ := Kd.R_head h
  have z : α := by
    cases xs with
    | nil => simp at hn; omega
    | cons x _ => exact x
  obtain ⟨cs, _, hM, hc, hf⟩ := Kd.R_elem h z (i : Int) (by omega) (by omega)
  rw [Int.toNat_natCast] at hM hc hf
  obtain ⟨h0, inner, ho, _⟩ := h
  exact ⟨g, rfl, own_base ho g rfl, own_typed ho g rfl, _, cs, d.M_mono (fun _ _ => trivial) hM, fun j u hj => ⟨hc j u hj, hf j⟩⟩
theorem HasR.max {α : Type} {d : Kd α} {e : Nat} {base n c : Nat} {A : Option Addr} (h : HasR d e W base (.slice A n c)) : n ≤ 9223372036854775807 := by
  obtain ⟨xs, h⟩ := h
  obtain ⟨_, inner, ho, _⟩ := h
  rcases ho.2 with ⟨e, hn⟩ | ⟨g, cap, cur, e, _, _, h1, h2, _⟩
  · cases e; omega
  · cases e; unfold maxLen at h2; omega
theorem HasR.int {base n c : Nat} {A : Option Addr} (h : HasR (Kd.int .i64) 2 W base (.slice A n c)) {k : Nat} (hk : k < n) :
    ∃ g d, A = some ⟨g, 0, none⟩ ∧ base ≤ g ∧ (∃ cells, W.heap[g]? = some (.cells cells 2 (0, 0))) ∧ W.cell? ⟨g, k, none⟩ = some (.int .i64 d) ∧ W.frozen? ⟨g, k, none⟩ = false := by
  obtain ⟨g, rfl, hb, hc, x, cs, hM, hx⟩ := h.at hk
  obtain rfl : cs = [.int .i64 x] := hM
  have := hx 0 _ rfl
  simp only [Nat.add_zero, show (Kd.int .i64).sz = 1 from rfl, Nat.mul_one] at this
  exact ⟨g, x, rfl, hb, hc, this.1, this.2⟩
theorem HasR.str {base n c m : Nat} {A : Option Addr} (h : HasR (strB m) 9 W base (.slice A n c)) {k : Nat} (hk : k < n) :
    ∃ g d, A = some ⟨g, 0, none⟩ ∧ base ≤ g ∧ (∃ cells, W.heap[g]? = some (.cells cells 9 (0, 0))) ∧ W.cell? ⟨g, k, none⟩ = some (.string d) ∧ d.size ≤ m ∧ W.frozen? ⟨g, k, none⟩ = false := by
  obtain ⟨g, rfl, hb, hc, x, cs, hM, hx⟩ := h.at hk
  obtain ⟨hM, hm⟩ := hM
  obtain rfl : cs = [.string x] := hM
  have := hx 0 _ rfl
  simp only [Nat.add_zero, show (strB m).sz = 1 from rfl, Nat.mul_one] at this
  exact ⟨g, x, rfl, hb, hc, this.1, hm, this.2⟩
theorem HasR.info {base n c : Nat} {A : Option Addr} (h : HasR k40 40 W base (.slice A n c)) {i : Nat} (hi : i < n) :
    ∃ g A' n' c', A = some ⟨g, 0, none⟩ ∧ (∃ cells, W.heap[g]? = some (.cells cells 40 (0, 0))) ∧ W.cell? ⟨g, i * 3 + 2, none⟩ = some (.slice A' n' c') ∧ HasR (Kd.int .i64) 2 W base (.slice A' n' c') := by
  obtain ⟨g, rfl, hb, hc, x, cs, hM, hx⟩ := h.at hi
  obtain ⟨c0, c1, rfl, h0, c2, c3, rfl, h2, v, rfl, hR⟩ := hM
  obtain rfl : c0 = [_] := h0
  obtain rfl : c2 = [_] := h2
  obtain ⟨A', c', rfl⟩ := Kd.R_slice hR
  exact ⟨g, A', _, c', rfl, hc, (hx 2 _ rfl).1, _, hR⟩
theorem HasR.tensor {base n c : Nat} {A : Option Addr} (h : HasR k42 42 W base (.slice A n c)) {i : Nat} (hi : i < n) :
    ∃ g A' n' c', A = some ⟨g, 0, none⟩ ∧ (∃ cells, W.heap[g]? = some (.cells cells 42 (0, 0))) ∧ W.cell? ⟨g, i * 4 + 2, none⟩ = some (.slice A' n' c') ∧ HasR (Kd.int .i64) 2 W base (.slice A' n' c') := by
  obtain ⟨g, rfl, hb, hc, x, cs, hM, hx⟩ := h.at hi
  obtain ⟨c0, c1, rfl, h0, c2, c3, rfl, h2, c4, c5, rfl, ⟨v, rfl, hR⟩, h5⟩ := hM
  obtain rfl : c0 = [_] := h0
  obtain rfl : c2 = [_] := h2
  obtain ⟨A', c', rfl⟩ := Kd.R_slice hR
  exact ⟨g, A', _, c', rfl, hc, (hx 2 _ rfl).1, _, hR⟩
theorem HasR.attr {base n c : Nat} {A : Option Addr} (h : HasR k48 48 W base (.slice A n c)) {i : Nat} (hi : i < n) :
    ∃ g A' n' c', A = some ⟨g, 0, none⟩ ∧ (∃ cells, W.heap[g]? = some (.cells cells 48 (0, 0))) ∧ W.cell? ⟨g, i * 4 + 3, none⟩ = some (.slice A' n' c') ∧ HasR (Kd.int .i64) 2 W base (.slice A' n' c') := by
  obtain ⟨g, rfl, hb, hc, x, cs, hM, hx⟩ := h.at hi
  obtain ⟨c0, c1, rfl, h0, c2, c3, rfl, h2, c4, c5, rfl, h4, v, rfl, hR⟩ := hM
  obtain rfl : c0 = [_] := h0
  obtain rfl : c2 = [_] := h2
  obtain rfl : c4 = [_] := h4
  obtain ⟨A', c', rfl⟩ := Kd.R_slice hR
  exact ⟨g, A', _, c', rfl, hc, (hx 3 _ rfl).1, _, hR⟩
theorem HasR.node {base n c m : Nat} {A : Option Addr} (h : HasR (nodeB m) 46 W base (.slice A n c)) {i : Nat} (hi : i < n) :
    ∃ g A1 n1 c1 A2 n2 c2, A = some ⟨g, 0, none⟩ ∧ (∃ cells, W.heap[g]? = some (.cells cells 46 (0, 0))) ∧ W.cell? ⟨g, i * 4 + 1, none⟩ = some (.slice A1 n1 c1) ∧ HasR (strB m) 9 W base (.slice A1 n1 c1) ∧ W.cell? ⟨g, i * 4 + 3, none⟩ = some (.slice A2 n2 c2) ∧ HasR k48 48 W base (.slice A2 n2 c2) := by
  obtain ⟨g, rfl, hb, hc, x, cs, hM, hx⟩ := h.at hi
  obtain ⟨c0, c1, rfl, h0, c2, c3, rfl, ⟨v, rfl, hR⟩, c4, c5, rfl, h4, v', rfl, hR'⟩ := hM
  obtain rfl : c0 = [_] := h0
  obtain rfl : c4 = [_] := h4
  obtain ⟨A', c', rfl⟩ := Kd.R_slice hR
  obtain ⟨A2, c2, rfl⟩ := Kd.R_slice hR'
  exact ⟨g, A', _, c', A2, _, c2, rfl, hc, (hx 1 _ rfl).1, ⟨_, hR⟩, (hx 3 _ rfl).1, ⟨_, hR'⟩⟩
theorem HasR.info_int {base n c g n' c' i : Nat} {B : Option Addr} (h : HasR k40 40 W base (.slice (some ⟨g, 0, none⟩) n c)) (hi : i < n) (hh : W.cell? ⟨g, i * 3 + 2, none⟩ = some (.slice B n' c')) {k : Nat} (hk : k < n') :
    ∃ gd d, B = some ⟨gd, 0, none⟩ ∧ base ≤ gd ∧ (∃ cells, W.heap[gd]? = some (.cells cells 2 (0, 0))) ∧ W.cell? ⟨gd, k, none⟩ = some (.int .i64 d) ∧ W.frozen? ⟨gd, k, none⟩ = false ∧ g ≠ gd := by
  obtain ⟨g2, A2, n2, c2, e, ⟨cl, hcl⟩, hh2, hR⟩ := h.info hi
  cases e
  rw [hh] at hh2
  cases hh2
  obtain ⟨gd, d, rfl, hb, ⟨cl2, hc⟩, k1, k2⟩ := hR.int hk
  exact ⟨gd, d, rfl, hb, ⟨cl2, hc⟩, k1, k2, blk_ne hcl hc (by decide)⟩
theorem HasR.tensor_int {base n c g n' c' i : Nat} {B : Option Addr} (h : HasR k42 42 W base (.slice (some ⟨g, 0, none⟩) n c)) (hi : i < n) (hh : W.cell? ⟨g, i * 4 + 2, none⟩ = some (.slice B n' c')) {k : Nat} (hk : k < n') :
    ∃ gd d, B = some ⟨gd, 0, none⟩ ∧ base ≤ gd ∧ (∃ cells, W.heap[gd]? = some (.cells cells 2 (0, 0))) ∧ W.cell? ⟨gd, k, none⟩ = some (.int .i64 d) ∧ W.frozen? ⟨gd, k, none⟩ = false ∧ g ≠ gd := by
  obtain ⟨g2, A2, n2, c2, e, ⟨cl, hcl⟩, hh2, hR⟩ := h.tensor hi
  cases e
  rw [hh] at hh2
  cases hh2
  obtain ⟨gd, d, rfl, hb, ⟨cl2, hc⟩, k1, k2⟩ := hR.int hk
  exact ⟨gd, d, rfl, hb, ⟨cl2, hc⟩, k1, k2, blk_ne hcl hc (by decide)⟩
theorem HasR.node_str {m base n c g n' c' i : Nat} {B : Option Addr} (h : HasR (nodeB m) 46 W base (.slice (some ⟨g, 0, none⟩) n c)) (hi : i < n) (hh : W.cell? ⟨g, i * 4 + 1, none⟩ = some (.slice B n' c')) {k : Nat} (hk : k < n') :
    ∃ gd d, B = some ⟨gd, 0, none⟩ ∧ base ≤ gd ∧ (∃ cells, W.heap[gd]? = some (.cells cells 9 (0, 0))) ∧ W.cell? ⟨gd, k, none⟩ = some (.string d) ∧ d.size ≤ m ∧ W.frozen? ⟨gd, k, none⟩ = false ∧ g ≠ gd := by
  obtain ⟨g2, A2, n2, c2, A3, n3, c3, e, ⟨cl, hcl⟩, hh2, hR, _, _⟩ := h.node hi
  cases e
  rw [hh] at hh2
  cases hh2
  obtain ⟨gd, d, rfl, hb, ⟨cl2, hc⟩, k1, k0, k2⟩ := hR.str hk
  exact ⟨gd, d, rfl, hb, ⟨cl2, hc⟩, k1, k0, k2, blk_ne hcl hc (by decide)⟩
theorem HasR.node_attr {m base n c g n' c' i : Nat} {B : Option Addr} (h : HasR (nodeB m) 46 W base (.slice (some ⟨g, 0, none⟩) n c)) (hi : i < n) (hh : W.cell? ⟨g, i * 4 + 3, none⟩ = some (.slice B n' c')) {k : Nat} (hk : k < n') :
    ∃ ga A2 n2 c2, B = some ⟨ga, 0, none⟩ ∧ W.cell? ⟨ga, k * 4 + 3, none⟩ = some (.slice A2 n2 c2) ∧ n2 ≤ 9223372036854775807 := by
  obtain ⟨g2, A2, n2, c2, A3, n3, c3, e, ⟨cl, hcl⟩, _, _, hh2, hR⟩ := h.node hi
  cases e
  rw [hh] at hh2
  cases hh2
  obtain ⟨ga, A4, n4, c4, rfl, _, k1, k2⟩ := hR.attr hk
  exact ⟨ga, A4, n4, c4, rfl, k1, k2.max⟩
theorem HasR.node_int {m base n c g n' c' i ga n2 c2 : Nat} {A2 : Option Addr} (h : HasR (nodeB m) 46 W base (.slice (some ⟨g, 0, none⟩) n c)) (hi : i < n) (hh : W.cell? ⟨g, i * 4 + 3, none⟩ = some (.slice (some ⟨ga, 0, none⟩) n' c')) {j : Nat} (hj : j < n') (hh2 : W.cell? ⟨ga, j * 4 + 3, none⟩ = some (.slice A2 n2 c2)) {k : Nat} (hk : k < n2) :
    ∃ gd d, A2 = some ⟨gd, 0, none⟩ ∧ base ≤ gd ∧ (∃ cells, W.heap[gd]? = some (.cells cells 2 (0, 0))) ∧ W.cell? ⟨gd, k, none⟩ = some (.int .i64 d) ∧ W.frozen? ⟨gd, k, none⟩ = false ∧ g ≠ gd ∧ ga ≠ gd := by
  obtain ⟨g2, A3, n3, c3, A4, n4, c4, e, ⟨cl, hcl⟩, _, _, hh3, hR⟩ := h.node hi
  cases e
  rw [hh] at hh3
  cases hh3
  obtain ⟨ga', A5, n5, c5, e, ⟨cl3, hcl3⟩, hh4, hR⟩ := hR.attr hj
  cases e
  rw [hh2] at hh4
  cases hh4
  obtain ⟨gd, d, rfl, hb, ⟨cl2, hc⟩, k1, k2⟩ := hR.int hk
  exact ⟨gd, d, rfl, hb, ⟨cl2, hc⟩, k1, k2, blk_ne hcl hc (by decide), blk_ne hcl3 hc (by decide)⟩
theorem nodeB_up {n m : Nat} {v : Value} {base : Nat} (h : HasR (nodeB n) 46 W base v) (hm : n ≤ m) : HasR (nodeB m) 46 W base v :=
  h.imp fun _ hx => R_kind (d := nodeB n) (d' := nodeB m) rfl hx (fun _ _ _ _ ⟨c0, c1, e, h0, c2, c3, e2, ⟨v, e3, hR⟩, h3⟩ => ⟨c0, c1, e, h0, c2, c3, e2, ⟨v, e3, R_res.2 ⟨(R_res.1 hR).1, fun s hs => Nat.le_trans ((R_res.1 hR).2 s hs) hm⟩⟩, h3⟩)
theorem nodeB_of {n : Nat} {v : Value} {base : Nat} {xs : List S46} (h : k46.R 46 W base (fun _ => True) v xs) (hm : ∀ x ∈ xs, ∀ s ∈ x.f1, s.size ≤ n) : HasR (nodeB n) 46 W base v :=
  ⟨xs, R_kind (d := k46) (d' := nodeB n) rfl h (fun _ x _ hx ⟨c0, c1, e, h0, c2, c3, e2, ⟨v, e3, hR⟩, h3⟩ => ⟨c0, c1, e, h0, c2, c3, e2, ⟨v, e3, R_res.2 ⟨hR, hm x hx⟩⟩, h3⟩)⟩
theorem ZR.up {m : Nat} (h : ZR w9 W b a A1 n1 c1 v2 A3 n3 c3 A4 n4 c4 n) (hm : n ≤ m) : ZR w9 W b a A1 n1 c1 v2 A3 n3 c3 A4 n4 c4 m := ⟨h.hb, h.bz, h.r1, h.r3, nodeB_up h.r4 hm⟩
def SI (W : World) (A : Option Addr) (k n m : Nat) : Prop := ∀ g, A = some ⟨g, 0, none⟩ → ∀ j, k ≤ j → j < n → ∃ s : ByteArray, W.cell? ⟨g, j, none⟩ = some (.string s) ∧ s.size ≤ m
theorem SI_of {A : Option Addr} {base k c m : Nat} (h : HasR (strB m) 9 W base (.slice A k c)) : SI W A 0 k m := by
  rintro g rfl j _ hj
  obtain ⟨g2, d, e, _, _, hc, hm, _⟩ := h.str hj
  cases e
  exact ⟨d, hc, hm⟩
theorem SI.set {A : Option Addr} {g k n m : Nat} {u : Value} (h : SI W A k n m) (hA : A = some ⟨g, 0, none⟩) : SI (W.setCell ⟨g, k, none⟩ u) A (k + 1) n m := by
  subst hA
  rintro g2 e j hk hj
  cases e
  obtain ⟨s, h1, h2⟩ := h g rfl j (by omega) hj
  exact ⟨s, (World.cell?_setCell_other _ _ _ _ (by intro e; cases e; omega)).trans h1, h2⟩
theorem SI.now {A : Option Addr} {g k n m : Nat} {d : ByteArray} (h : SI W A k n m) (hA : A = some ⟨g, 0, none⟩) (hk : k < n) (hc : W.cell? ⟨g, k, none⟩ = some (.string d)) : d.size ≤ m := by
  obtain ⟨s, h1, h2⟩ := h g hA k (Nat.le_refl _) hk
  rw [hc] at h1
  cases h1
  exact h2
end
end Go.Proofs.Ytfejdnkmmjffcaa.X
namespace Go.Proofs.Ytfejdnkmmjffcaa.X
open Go.RowKit Go.Proofs.YtfejdnkmmjffcaaW.PrintWords Go.Proofs.YtfejdnkmmjffcaaW.PrintLast Go.Proofs.YtfejdnkmmjffcaaW.PrintMore
attribute [local go_sem] max2_int min2_int max_two min_two max_three min_three max_four min_four
set_option linter.unusedVariables false
set_option linter.unusedSimpArgs false
structure XM (W : World) (A1 : Option Addr) (c1 : Nat) (l1 : List S40) (A2 : Option Addr) (c2 : Nat) (l2 : List S40) (A3 : Option Addr) (c3 : Nat) (l3 : List S42) (A4 : Option Addr) (c4 : Nat) (l4 : List S46) : Prop where
  f1 : Kd.F k40 W (fun _ => True) A1 l1.length l1
  k1 : l1.length ≤ c1
  f2 : Kd.F k40 W (fun _ => True) A2 l2.length l2
  k2 : l2.length ≤ c2
  f3 : Kd.F k42 W (fun _ => True) A3 l3.length l3
  k3 : l3.length ≤ c3
  f4 : Kd.F k46 W (fun _ => True) A4 l4.length l4
  k4 : l4.length ≤ c4
structure YM (W : World) (A1 : Option Addr) (c1 : Nat) (l1 : List S89) (A2 : Option Addr) (c2 : Nat) (l2 : List S89) (A3 : Option Addr) (c3 : Nat) (l3 : List S55) (A4 : Option Addr) (c4 : Nat) (l4 : List S59) : Prop where
  f1 : Kd.F k89 W (fun _ => True) A1 l1.length l1
  k1 : l1.length ≤ c1
  f2 : Kd.F k89 W (fun _ => True) A2 l2.length l2
  k2 : l2.length ≤ c2
  f3 : Kd.F k55 W (fun _ => True) A3 l3.length l3
  k3 : l3.length ≤ c3
  f4 : Kd.F k59 W (fun _ => True) A4 l4.length l4
  k4 : l4.length ≤ c4
theorem XM.step {W V : World} {A1 : Option Addr} {c1 : Nat} {l1 : List S40} {A2 : Option Addr} {c2 : Nat} {l2 : List S40} {A3 : Option Addr} {c3 : Nat} {l3 : List S42} {A4 : Option Addr} {c4 : Nat} {l4 : List S46} (h : XM W A1 c1 l1 A2 c2 l2 A3 c3 l3 A4 c4 l4) (hb : Below W.heap.size W V) : XM V A1 c1 l1 A2 c2 l2 A3 c3 l3 A4 c4 l4 :=
  ⟨Kd.F_below h.f1 hb, h.k1, Kd.F_below h.f2 hb, h.k2, Kd.F_below h.f3 hb, h.k3, Kd.F_below h.f4 hb, h.k4⟩
theorem YM.step {W V : World} {A1 : Option Addr} {c1 : Nat} {l1 : List S89} {A2 : Option Addr} {c2 : Nat} {l2 : List S89} {A3 : Option Addr} {c3 : Nat} {l3 : List S55} {A4 : Option Addr} {c4 : Nat} {l4 : List S59} (h : YM W A1 c1 l1 A2 c2 l2 A3 c3 l3 A4 c4 l4) (hb : Below W.heap.size W V) : YM V A1 c1 l1 A2 c2 l2 A3 c3 l3 A4 c4 l4 :=
  ⟨Kd.F_below h.f1 hb, h.k1, Kd.F_below h.f2 hb, h.k2, Kd.F_below h.f3 hb, h.k3, Kd.F_below h.f4 hb, h.k4⟩
section
variable {W : World} {a b : Int} {A1 : Option Addr} {c1 : Nat} {l1 : List S40} {A2 : Option Addr} {c2 : Nat} {l2 : List S40} {A3 : Option Addr} {c3 : Nat} {l3 : List S42} {A4 : Option Addr} {c4 : Nat} {l4 : List S46}
theorem small_c {r : Bool} (h : XM W A1 c1 l1 A2 c2 l2 A3 c3 l3 A4 c4 l4) (hf : agatelaw10_Small.f a l1 l2 l3 l4 = some r) : Calls Try.prog 4 #[.agg #[.int .i64 a, .slice A1 l1.length c1, .slice A2 l2.length c2, .slice A3 l3.length c3, .slice A4 l4.length c4]] W fun e w' => e = .returned (.bool r) ∧ Below W.heap.size W w' :=
  agatelaw10_Small.calls a _ _ l1 _ _ l2 _ _ l3 _ _ l4 r W (Kd.F_now h.f1) h.k1 (Kd.F_now h.f2) h.k2 (Kd.F_now h.f3) h.k3 (Kd.F_now h.f4) h.k4 hf
theorem same_c {yA1 : Option Addr} {yc1 : Nat} {yl1 : List S40} {yA2 : Option Addr} {yc2 : Nat} {yl2 : List S40} {yA3 : Option Addr} {yc3 : Nat} {yl3 : List S42} {yA4 : Option Addr} {yc4 : Nat} {yl4 : List S46} {k : Nat} {r : Bool} (h : XM W A1 c1 l1 A2 c2 l2 A3 c3 l3 A4 c4 l4) (g : XM W yA1 yc1 yl1 yA2 yc2 yl2 yA3 yc3 yl3 yA4 yc4 yl4) (hf : model_Model_Same.f k a l1 l2 l3 l4 b yl1 yl2 yl3 yl4 = some r) : Calls Try.prog 7 #[.agg #[.int .i64 a, .slice A1 l1.length c1, .slice A2 l2.length c2, .slice A3 l3.length c3, .slice A4 l4.length c4], .agg #[.int .i64 b, .slice yA1 yl1.length yc1, .slice yA2 yl2.length yc2, .slice yA3 yl3.length yc3, .slice yA4 yl4.length yc4]] W fun e w' => e = .returned (.bool r) ∧ Below W.heap.size W w' :=
  model_Model_Same.calls k a _ _ l1 _ _ l2 _ _ l3 _ _ l4 b _ _ yl1 _ _ yl2 _ _ yl3 _ _ yl4 r W (Kd.F_now h.f1) h.k1 (Kd.F_now h.f2) h.k2 (Kd.F_now h.f3) h.k3 (Kd.F_now h.f4) h.k4 (Kd.F_now g.f1) g.k1 (Kd.F_now g.f2) g.k2 (Kd.F_now g.f3) g.k3 (Kd.F_now g.f4) g.k4 hf
theorem clone_c {k : Nat} (h : XM W A1 c1 l1 A2 c2 l2 A3 c3 l3 A4 c4 l4) (hf : model_Model_Clone.f k a l1 l2 l3 l4 = some (a, l1, l2, l3, l4)) : Calls Try.prog 9 #[.agg #[.int .i64 a, .slice A1 l1.length c1, .slice A2 l2.length c2, .slice A3 l3.length c3, .slice A4 l4.length c4]] W fun e w' => ∃ B1 d1 B2 d2 B3 d3 B4 d4, e = .returned (.agg #[.int .i64 a, .slice B1 l1.length d1, .slice B2 l2.length d2, .slice B3 l3.length d3, .slice B4 l4.length d4]) ∧ XM w' B1 d1 l1 B2 d2 l2 B3 d3 l3 B4 d4 l4 ∧ HasR k40 40 w' W.heap.size (.slice B1 l1.length d1) ∧ HasR k42 42 w' W.heap.size (.slice B3 l3.length d3) ∧ Kd.R k46 46 w' W.heap.size (fun _ => True) (.slice B4 l4.length d4) l4 ∧ Below W.heap.size W w' := by
  refine (model_Model_Clone.calls k a _ _ l1 _ _ l2 _ _ l3 _ _ l4 a l1 l2 l3 l4 W (Kd.F_now h.f1) h.k1 (Kd.F_now h.f2) h.k2 (Kd.F_now h.f3) h.k3 (Kd.F_now h.f4) h.k4 hf).mono ?_
  rintro e w' ⟨v1, v2, v3, v4, rfl, s1, s2, s3, s4, hb⟩
  obtain ⟨B1, d1, rfl, k1, _⟩ := Kd.R_reads (Kd.S_R s1)
  obtain ⟨B2, d2, rfl, k2, _⟩ := Kd.R_reads (Kd.S_R s2)
  obtain ⟨B3, d3, rfl, k3, _⟩ := Kd.R_reads (Kd.S_R s3)
  obtain ⟨B4, d4, rfl, k4, _⟩ := Kd.R_reads s4
  have t1 := Kd.R_mono (Kd.S_R s1) (ok' := fun _ => True) (fun _ _ => trivial)
  have t3 := Kd.R_mono (Kd.S_R s3) (ok' := fun _ => True) (fun _ _ => trivial)
  exact ⟨B1, d1, B2, d2, B3, d3, B4, d4, rfl, ⟨Kd.F_mono (Kd.V_F (Kd.R_V (base' := 0) t1)) (fun _ _ => trivial), k1, Kd.F_mono (Kd.V_F (Kd.S_V (base' := 0) s2)) (fun _ _ => trivial), k2, Kd.F_mono (Kd.V_F (Kd.R_V (base' := 0) t3)) (fun _ _ => trivial), k3, Kd.F_mono (Kd.V_F (Kd.R_V (base' := 0) s4)) (fun _ _ => trivial), k4⟩, ⟨_, t1⟩, ⟨_, t3⟩, s4, hb⟩
theorem of_c {k : Nat} {m1 m2 : List S89} {m3 : List S55} {m4 : List S59} (h : XM W A1 c1 l1 A2 c2 l2 A3 c3 l3 A4 c4 l4) (hf : agatelaw10_Of.f k a l1 l2 l3 l4 = some (a, m1, m2, m3, m4)) : Calls Try.prog 6 #[.agg #[.int .i64 a, .slice A1 l1.length c1, .slice A2 l2.length c2, .slice A3 l3.length c3, .slice A4 l4.length c4]] W fun e w' => ∃ B1 d1 B2 d2 B3 d3 B4 d4, e = .returned (.agg #[.int .i64 a, .slice B1 m1.length d1, .slice B2 m2.length d2, .slice B3 m3.length d3, .slice B4 m4.length d4]) ∧ YM w' B1 d1 m1 B2 d2 m2 B3 d3 m3 B4 d4 m4 ∧ Below W.heap.size W w' := by
  refine (agatelaw10_Of.calls k a (fun _ => True) _ _ l1 (fun _ => True) _ _ l2 (fun _ => True) _ _ l3 (fun _ => True) _ _ l4 a m1 m2 m3 m4 W (Kd.V_mk h.k1 h.f1) (Kd.V_mk h.k2 h.f2) (Kd.V_mk h.k3 h.f3) (Kd.V_mk h.k4 h.f4) hf).mono ?_
  rintro e w' ⟨v1, v2, v3, v4, rfl, s1, s2, s3, s4, hb⟩
  obtain ⟨B1, d1, rfl, k1, _⟩ := Kd.N_reads s1
  obtain ⟨B2, d2, rfl, k2, _⟩ := Kd.N_reads s2
  obtain ⟨B3, d3, rfl, k3, _⟩ := Kd.N_reads s3
  obtain ⟨B4, d4, rfl, k4, _⟩ := Kd.N_reads s4
  exact ⟨B1, d1, B2, d2, B3, d3, B4, d4, rfl, ⟨Kd.F_mono (Kd.N_F s1) (fun _ _ => trivial), k1, Kd.F_mono (Kd.N_F s2) (fun _ _ => trivial), k2, Kd.F_mono (Kd.N_F s3) (fun _ _ => trivial), k3, Kd.F_mono (Kd.N_F s4) (fun _ _ => trivial), k4⟩, hb⟩
end
section
variable {W : World} {a b : Int} {A1 : Option Addr} {c1 : Nat} {l1 : List S89} {A2 : Option Addr} {c2 : Nat} {l2 : List S89} {A3 : Option Addr} {c3 : Nat} {l3 : List S55} {A4 : Option Addr} {c4 : Nat} {l4 : List S59}
theorem rsame_c {yA1 : Option Addr} {yc1 : Nat} {yl1 : List S89} {yA2 : Option Addr} {yc2 : Nat} {yl2 : List S89} {yA3 : Option Addr} {yc3 : Nat} {yl3 : List S55} {yA4 : Option Addr} {yc4 : Nat} {yl4 : List S59} {k : Nat} {r : Bool} (h : YM W A1 c1 l1 A2 c2 l2 A3 c3 l3 A4 c4 l4) (g : YM W yA1 yc1 yl1 yA2 yc2 yl2 yA3 yc3 yl3 yA4 yc4 yl4) (hf : agateref10_Same.f k a l1 l2 l3 l4 b yl1 yl2 yl3 yl4 = some r) : Calls Try.prog 8 #[.agg #[.int .i64 a, .slice A1 l1.length c1, .slice A2 l2.length c2, .slice A3 l3.length c3, .slice A4 l4.length c4], .agg #[.int .i64 b, .slice yA1 yl1.length yc1, .slice yA2 yl2.length yc2, .slice yA3 yl3.length yc3, .slice yA4 yl4.length yc4]] W fun e w' => e = .returned (.bool r) ∧ Below W.heap.size W w' :=
  agateref10_Same.calls k a _ _ l1 _ _ l2 _ _ l3 _ _ l4 b _ _ yl1 _ _ yl2 _ _ yl3 _ _ yl4 r W (Kd.F_now h.f1) h.k1 (Kd.F_now h.f2) h.k2 (Kd.F_now h.f3) h.k3 (Kd.F_now h.f4) h.k4 (Kd.F_now g.f1) g.k1 (Kd.F_now g.f2) g.k2 (Kd.F_now g.f3) g.k3 (Kd.F_now g.f4) g.k4 hf
end
end Go.Proofs.Ytfejdnkmmjffcaa.X
namespace Go.Proofs.Ytfejdnkmmjffcaa.X
open Go.RowKit Go.Proofs.YtfejdnkmmjffcaaW.PrintWords Go.Proofs.YtfejdnkmmjffcaaW.PrintLast Go.Proofs.YtfejdnkmmjffcaaW.PrintMore
attribute [local go_sem] max2_int min2_int max_two min_two max_three min_three max_four min_four
set_option linter.unusedVariables false
set_option linter.unusedSimpArgs false
theorem dec_iff {p : Prop} [Decidable p] : (decide p = true) ↔ p := decide_eq_true_iff
def Ss {α : Type} (p : α → α → Prop) (xs ys : List α) : Prop := xs.length = ys.length ∧ ∀ j (h : j < xs.length) (h' : j < ys.length), p xs[j] ys[j]
theorem ev_loop (L : Nat → Int → Option Bool) (n : Nat) (hn : n < 9223372036854775807) (g : Nat → Nat → Option Bool) (p : Nat → Prop) (q : Prop) (K : Nat)
    (hs : ∀ k i, i < n → L (k + 1) (i : Int) = (g k i).bind fun t => if t = true then L k (wrap64 ((i : Int) + 1)) else some false) (he : ∀ k, K ≤ k → ∃ r, L (k + 1) (n : Int) = some r ∧ (r = true ↔ q))
    (hg : ∀ k i, i < n → K ≤ k → ∃ r, g k i = some r ∧ (r = true ↔ p i)) (d : Nat) : ∀ (k i : Nat), n - i = d → i ≤ n → d + K < k → ∃ r, L k (i : Int) = some r ∧ (r = true ↔ (∀ j, i ≤ j → j < n → p j) ∧ q) := by
  induction d with
  | zero =>
    intro k i hd hi hk
    obtain ⟨k, rfl⟩ : ∃ m, k = m + 1 := ⟨k - 1, by omega⟩
    obtain rfl : i = n := by omega
    obtain ⟨r, h1, h2⟩ := he k (by omega)
    exact ⟨r, h1, h2.trans ⟨fun h => ⟨fun j h1 h2 => by omega, h⟩, fun h => h.2⟩⟩
  | succ d ih =>
    intro k i hd hi hk
    obtain ⟨k, rfl⟩ : ∃ m, k = m + 1 := ⟨k - 1, by omega⟩
    obtain ⟨r, hr, hp⟩ := hg k i (by omega) (by omega)
    rw [hs k i (by omega), hr, Option.bind_some]
    cases r with
    | false => exact ⟨false, rfl, (fun h => nomatch h), fun h => hp.2 (h.1 i (Nat.le_refl _) (by omega))⟩
    | true =>
      obtain ⟨r, hr, hp2⟩ := ih k (i + 1) (by omega) (by omega) (by omega)
      rw [if_pos rfl, wrap64_id (by omega) (by omega)]
      refine ⟨r, hr, fun h => ⟨fun j h1 h2 => ?_, (hp2.1 h).2⟩, fun h => hp2.2 ⟨fun j h1 h2 => h.1 j (by omega) h2, h.2⟩⟩
      rcases Nat.eq_or_lt_of_le h1 with rfl | h1
      · exact hp.1 rfl
      · exact (hp2.1 h).1 j h1 h2
theorem ev_all {α : Type} {P : α → α → Prop} {xs ys : List α} (hl : xs.length = ys.length) (L : Nat → Int → Option Bool) (hn : xs.length < 9223372036854775807) (g : Nat → Nat → Option Bool) (q : Prop) (K : Nat)
    (hs : ∀ k i (h : i < xs.length) (h' : i < ys.length), L (k + 1) (i : Int) = (g k i).bind fun t => if t = true then L k (wrap64 ((i : Int) + 1)) else some false) (he : ∀ k, K ≤ k → ∃ r, L (k + 1) (xs.length : Int) = some r ∧ (r = true ↔ q))
    (hg : ∀ k i (h : i < xs.length) (h' : i < ys.length), K ≤ k → ∃ r, g k i = some r ∧ (r = true ↔ P xs[i] ys[i])) {k : Nat} (hk : xs.length + K < k) : ∃ r, L k 0 = some r ∧ (r = true ↔ Ss P xs ys ∧ q) := by
  obtain ⟨r, h1, h2⟩ := ev_loop L xs.length hn g (fun i => ∀ (h : i < xs.length) (h' : i < ys.length), P xs[i] ys[i]) q K (fun k i h => hs k i h (hl ▸ h)) he (fun k i h hk => by
    obtain ⟨r, h1, h2⟩ := hg k i h (hl ▸ h) hk
    exact ⟨r, h1, h2.trans ⟨fun h _ _ => h, fun k => k h (hl ▸ h)⟩⟩) xs.length k 0 (by omega) (by omega) (by omega)
  exact ⟨r, h1, h2.trans ⟨fun h => ⟨⟨hl, fun j h1 h2 => h.1 j (Nat.zero_le _) h1 h1 h2⟩, h.2⟩, fun h => ⟨fun j _ _ h1 h2 => h.1.2 j h1 h2, h.2⟩⟩⟩
theorem ev_fin {k : Nat} {x : Option Bool} (h : x = some true) : ∃ r, x = some r ∧ (r = true ↔ True) := ⟨true, h, fun _ => trivial, fun _ => rfl⟩
theorem ev_noq {x : Option Bool} {p : Prop} (h : ∃ r, x = some r ∧ (r = true ↔ p ∧ True)) : ∃ r, x = some r ∧ (r = true ↔ p) := by
  obtain ⟨r, a, b⟩ := h
  exact ⟨r, a, b.trans ⟨fun h => h.1, fun h => ⟨h, trivial⟩⟩⟩
theorem ev_dec {c : Prop} [Decidable c] {p : Prop} (h : c ↔ p) : ∃ r, some (decide c) = some r ∧ (r = true ↔ p) := ⟨_, rfl, dec_iff.trans h⟩
theorem ev_iff {x : Option Bool} {p q : Prop} (h : ∃ r, x = some r ∧ (r = true ↔ p)) (e : p ↔ q) : ∃ r, x = some r ∧ (r = true ↔ q) := by
  obtain ⟨r, a, b⟩ := h
  exact ⟨r, a, b.trans e⟩
theorem map_loop {α : Type} (L : Nat → List α → Int → Option (List α)) (l : List α) (hn : l.length < 9223372036854775807) (K : Nat)
    (hs : ∀ k (acc : List α) i (h : i < l.length), K ≤ k → acc.length ≤ i → L (k + 1) acc (i : Int) = L k (acc ++ [l[i]]) (wrap64 ((i : Int) + 1))) (he : ∀ k acc, L (k + 1) acc (l.length : Int) = some acc) (d : Nat) : ∀ (k i : Nat), l.length - i = d → i ≤ l.length → d + K < k → L k (l.take i) (i : Int) = some l := by
  induction d with
  | zero =>
    intro k i hd hi hk
    obtain ⟨k, rfl⟩ : ∃ m, k = m + 1 := ⟨k - 1, by omega⟩
    obtain rfl : i = l.length := by omega
    rw [he, List.take_length]
  | succ d ih =>
    intro k i hd hi hk
    obtain ⟨k, rfl⟩ : ∃ m, k = m + 1 := ⟨k - 1, by omega⟩
    have h : i < l.length := by omega
    rw [hs k _ i h (by omega) (by rw [List.length_take]; omega), wrap64_id (by omega) (by omega), ← List.take_succ_eq_append_getElem h]
    exact ih k (i + 1) (by omega) (by omega) (by omega)
theorem Ss.refl {α : Type} {p : α → α → Prop} (h : ∀ x, p x x) (xs : List α) : Ss p xs xs := ⟨rfl, fun _ _ _ => h _⟩
theorem Ss_map {α β : Type} {p : α → α → Prop} {q : β → β → Prop} (f : α → β) (hpq : ∀ a b, q (f a) (f b) ↔ p a b) (xs ys : List α) : Ss q (xs.map f) (ys.map f) ↔ Ss p xs ys := by
  constructor
  · rintro ⟨h, k⟩
    rw [List.length_map, List.length_map] at h
    refine ⟨h, fun j h1 h2 => ?_⟩
    have := k j (by rw [List.length_map]; exact h1) (by rw [List.length_map]; exact h2)
    rw [List.getElem_map, List.getElem_map] at this
    exact (hpq _ _).1 this
  · rintro ⟨h, k⟩
    refine ⟨by rw [List.length_map, List.length_map]; exact h, fun j h1 h2 => ?_⟩
    rw [List.getElem_map, List.getElem_map]
    rw [List.length_map] at h1 h2
    exact (hpq _ _).2 (k j h1 h2)
theorem Ss_eq {α : Type} {xs ys : List α} : Ss (fun a b => a = b) xs ys ↔ xs = ys :=
  ⟨fun ⟨h, k⟩ => List.ext_getElem h k, fun h => by subst h; exact ⟨rfl, fun _ _ _ => rfl⟩⟩
def pA (a b : S48) : Prop := a.f0 = b.f0 ∧ a.f1 = b.f1 ∧ (a.f1 = true → a.f2 = b.f2) ∧ (a.f1 = false → a.f3 = b.f3)
def pI (a b : S40) : Prop := a.f0 = b.f0 ∧ a.f1 = b.f1 ∧ a.f2 = b.f2
def pT (a b : S42) : Prop := a.f0 = b.f0 ∧ a.f1 = b.f1 ∧ a.f2 = b.f2 ∧ a.f3 = b.f3
def pN (a b : S46) : Prop := a.f0 = b.f0 ∧ a.f1 = b.f1 ∧ a.f2 = b.f2 ∧ Ss pA a.f3 b.f3
def qA (a b : S90) : Prop := a.f0 = b.f0 ∧ a.f1 = b.f1 ∧ (a.f1 = true → a.f2 = b.f2) ∧ (a.f1 = false → a.f3 = b.f3)
def qI (a b : S89) : Prop := a.f0 = b.f0 ∧ a.f1 = b.f1 ∧ a.f2 = b.f2
def qT (a b : S55) : Prop := a.f0 = b.f0 ∧ a.f1 = b.f1 ∧ a.f2 = b.f2 ∧ a.f3 = b.f3
def qN (a b : S59) : Prop := a.f0 = b.f0 ∧ a.f1 = b.f1 ∧ a.f2 = b.f2 ∧ Ss qA a.f3 b.f3
theorem qN_iff (a b : S46) : qN (toN a) (toN b) ↔ pN a b := by
  unfold qN pN toN
  rw [Ss_map toA (p := pA) (fun _ _ => Iff.rfl)]
def sameP (a : Int) (l1 l2 : List S40) (l3 : List S42) (l4 : List S46) (b : Int) (m1 m2 : List S40) (m3 : List S42) (m4 : List S46) : Prop := a = b ∧ Ss pI l1 m1 ∧ Ss pI l2 m2 ∧ Ss pT l3 m3 ∧ Ss pN l4 m4
theorem sameP_refl (a : Int) (l1 l2 : List S40) (l3 : List S42) (l4 : List S46) : sameP a l1 l2 l3 l4 a l1 l2 l3 l4 :=
  ⟨rfl, Ss.refl (fun _ => ⟨rfl, rfl, rfl⟩) _, Ss.refl (fun _ => ⟨rfl, rfl, rfl⟩) _, Ss.refl (fun _ => ⟨rfl, rfl, rfl, rfl⟩) _, Ss.refl (fun _ => ⟨rfl, rfl, rfl, Ss.refl (fun _ => ⟨rfl, rfl, fun _ => rfl, fun _ => rfl⟩) _⟩) _⟩
theorem and_some {x : Option Bool} {p : Prop} (h : ∃ r, x = some r ∧ (r = true ↔ p)) {y : Option Bool} {q : Prop} (g : p → ∃ r, y = some r ∧ (r = true ↔ q)) : ∃ r, (x.bind fun t => if t = true then y else some false) = some r ∧ (r = true ↔ p ∧ q) := by
  obtain ⟨r, rfl, hr⟩ := h
  cases r with
  | false => exact ⟨false, rfl, (fun h => nomatch h), fun h => hr.2 h.1⟩
  | true =>
    obtain ⟨s, rfl, hs⟩ := g (hr.1 rfl)
    exact ⟨s, rfl, hs.trans ⟨fun h => ⟨hr.1 rfl, h⟩, fun h => h.2⟩⟩
theorem and_if {c p : Prop} [Decidable c] (hc : c ↔ p) {y : Option Bool} {q : Prop} (g : p → ∃ r, y = some r ∧ (r = true ↔ q)) : ∃ r, (if c then y else some false) = some r ∧ (r = true ↔ p ∧ q) := by
  by_cases h : c
  · obtain ⟨s, rfl, hs⟩ := g (hc.1 h)
    exact ⟨s, if_pos h, hs.trans ⟨fun k => ⟨hc.1 h, k⟩, fun k => k.2⟩⟩
  · exact ⟨false, if_neg h, (fun k => nomatch k), fun k => absurd (hc.2 k.1) h⟩
theorem bind_self {x : Option Bool} : (x.bind fun t => some t) = x := by cases x <;> rfl
theorem len_if {α : Type} {p : α → α → Prop} {xs ys : List α} {y : Option Bool} (g : xs.length = ys.length → ∃ r, y = some r ∧ (r = true ↔ Ss p xs ys)) : ∃ r, (if (xs.length : Int) = (ys.length : Int) then y else some false) = some r ∧ (r = true ↔ Ss p xs ys) := by
  obtain ⟨r, h1, h2⟩ := and_if (c := (xs.length : Int) = (ys.length : Int)) (p := xs.length = ys.length) (y := y) Int.ofNat_inj g
  exact ⟨r, h1, h2.trans ⟨fun h => h.2, fun h => ⟨h.1, h⟩⟩⟩
theorem rd_i {l : List S40} {i : Nat} (h : i < l.length) : rd_T40 l (i : Int) = l[i] := by simp [rd_T40, h]
theorem rd_t {l : List S42} {i : Nat} (h : i < l.length) : rd_T42 l (i : Int) = l[i] := by simp [rd_T42, h]
theorem rd_a {l : List S48} {i : Nat} (h : i < l.length) : rd_T48 l (i : Int) = l[i] := by simp [rd_T48, h]
theorem rd_n {l : List S46} {i : Nat} (h : i < l.length) : rd_T46 l (i : Int) = l[i] := by simp [rd_T46, h]
theorem rd_ri {l : List S89} {i : Nat} (h : i < l.length) : rd_T89 l (i : Int) = l[i] := by simp [rd_T89, h]
theorem rd_rt {l : List S55} {i : Nat} (h : i < l.length) : rd_T55 l (i : Int) = l[i] := by simp [rd_T55, h]
theorem rd_ra {l : List S90} {i : Nat} (h : i < l.length) : rd_T90 l (i : Int) = l[i] := by simp [rd_T90, h]
theorem rd_rn {l : List S59} {i : Nat} (h : i < l.length) : rd_T59 l (i : Int) = l[i] := by simp [rd_T59, h]
theorem rd_int {l : List Int} {i : Nat} (h : i < l.length) : rd l (i : Int) = l[i] := by simp [rd, h]
theorem rd_str {l : List ByteArray} {i : Nat} (h : i < l.length) : rdOf ByteArray.empty l (i : Int) = l[i] := by simp [rdOf, h]
def big : Nat := 1000000000000000000
theorem eqi_ev {a : List Int} (b : List Int) (h : a.length ≤ big) : ∃ r, slices_Equal_int64_int64_s.f a b = some r ∧ (r = true ↔ a = b) := ⟨_, if_pos h, dec_iff⟩
theorem eqs_ev {xs : List ByteArray} (ys : List ByteArray) (hn : xs.length ≤ big) {k : Nat} (hk : xs.length < k) : ∃ r, slices_Equal_string_string.f k xs ys = some r ∧ (r = true ↔ xs = ys) := by
  have hn := Nat.lt_of_le_of_lt hn (show big < 9223372036854775807 by decide)
  unfold slices_Equal_string_string.f
  refine ev_iff (len_if (p := fun a b => a = b) (fun hl => ev_noq (ev_all hl (fun k i => slices_Equal_string_string.l0 k xs ys (xs.length : Int) i) hn (fun k i => some (decide ((rdOf ByteArray.empty xs i).toList = (rdOf ByteArray.empty ys i).toList))) True 0 (fun k i h h' => ?_) (fun k _ => ev_fin (k := k) (by simp only [slices_Equal_string_string.l0]; rw [if_neg (by omega)])) (fun k i h h' _ => ?_) (by omega)))) Ss_eq
  · simp only [slices_Equal_string_string.l0]
    rw [if_pos (by omega), if_pos (by omega), if_pos (by omega), if_pos (by omega), Option.bind_some]
    by_cases c : (rdOf ByteArray.empty xs (i : Int)).toList = (rdOf ByteArray.empty ys (i : Int)).toList
    · rw [if_pos c, decide_eq_true c, if_pos rfl]
    · rw [if_neg c, decide_eq_false c, if_neg (by decide)]
  · rw [rd_str h, rd_str h']
    exact ev_dec toList_inj
theorem rints_ev {xs : List Int} (ys : List Int) (hn : xs.length ≤ big) {k : Nat} (hk : xs.length < k) : ∃ r, agateref10_Ints.f k xs ys = some r ∧ (r = true ↔ xs = ys) := by
  have hn := Nat.lt_of_le_of_lt hn (show big < 9223372036854775807 by decide)
  unfold agateref10_Ints.f
  refine ev_iff (len_if (p := fun a b => a = b) (fun hl => ev_noq (ev_all hl (fun k i => agateref10_Ints.l0 k xs ys i) hn (fun k i => some (decide (rd xs i = rd ys i))) True 0 (fun k i h h' => ?_) (fun k _ => ev_fin (k := k) (by simp only [agateref10_Ints.l0]; rw [if_neg (by omega)])) (fun k i h h' _ => ?_) (by omega)))) Ss_eq
  · simp only [agateref10_Ints.l0]
    rw [if_pos (by omega), if_pos (by omega), if_pos (by omega), Option.bind_some]
    by_cases c : rd xs (i : Int) = rd ys (i : Int)
    · rw [if_pos c, decide_eq_true c, if_pos rfl]
    · rw [if_neg c, decide_eq_false c, if_neg (by decide)]
  · rw [rd_int h, rd_int h']
    exact ev_dec Iff.rfl
theorem attrS_ev {a : S48} (b : S48) (h : a.f3.length ≤ big) {k : Nat} (hk : 0 < k) : ∃ r, model_Attr_Same.f k a.f0 a.f1 a.f2 a.f3 b.f0 b.f1 b.f2 b.f3 = some r ∧ (r = true ↔ pA a b) := by
  obtain ⟨k, rfl⟩ : ∃ m, k = m + 1 := ⟨k - 1, by omega⟩
  unfold model_Attr_Same.f
  simp only [model_Attr_Same.j0]
  rw [if_pos trivial]
  refine and_if toList_inj (fun _ => ?_)
  rcases a with ⟨a0, a1, a2, a3⟩
  rcases b with ⟨b0, b1, b2, b3⟩
  dsimp only at h ⊢
  rw [bind_self]
  cases a1 <;> cases b1
  · obtain ⟨r, e, g⟩ := eqi_ev b3 h
    rw [if_neg (by decide), if_neg (by decide)]
    exact ⟨r, e, g.trans ⟨fun h => ⟨rfl, (fun h => nomatch h), fun _ => h⟩, fun h => h.2.2 rfl⟩⟩
  · rw [if_pos (by decide)]
    exact ⟨false, rfl, (fun h => nomatch h), fun h => absurd h.1 (by decide)⟩
  · rw [if_pos (by decide)]
    exact ⟨false, rfl, (fun h => nomatch h), fun h => absurd h.1 (by decide)⟩
  · rw [if_neg (by decide), if_pos rfl]
    exact ⟨a2 == b2, rfl, beq_iff_eq.trans ⟨fun h => ⟨rfl, fun _ => h, fun h => nomatch h⟩, fun h => h.2.1 rfl⟩⟩
theorem attrR_ev {a : S90} (b : S90) (h : a.f3.length ≤ big) {k : Nat} (hk : a.f3.length < k) : ∃ r, agateref10_Attrs.f k a.f0 a.f1 a.f2 a.f3 b.f0 b.f1 b.f2 b.f3 = some r ∧ (r = true ↔ qA a b) := by
  unfold agateref10_Attrs.f
  refine and_if toList_inj (fun _ => and_if beq_iff_eq (fun e1 => ?_))
  rcases a with ⟨a0, a1, a2, a3⟩
  rcases b with ⟨b0, b1, b2, b3⟩
  dsimp only at h hk e1 ⊢
  subst e1
  rw [bind_self]
  cases a1
  · obtain ⟨r, e, g⟩ := rints_ev b3 h hk
    rw [if_neg (by decide)]
    exact ⟨r, e, g.trans ⟨fun h => ⟨(fun h => nomatch h), fun _ => h⟩, fun h => h.2 rfl⟩⟩
  · rw [if_pos rfl]
    by_cases c : a2 = b2
    · exact ⟨true, if_pos c, fun _ => ⟨fun _ => c, fun h => nomatch h⟩, fun _ => rfl⟩
    · exact ⟨false, if_neg c, (fun h => nomatch h), fun h => absurd (h.1 rfl) c⟩
theorem infoS_ev {a : S40} (b : S40) (h : a.f2.length ≤ big) : ∃ r, model_Info_same.f a.f0 a.f1 a.f2 b.f0 b.f1 b.f2 = some r ∧ (r = true ↔ pI a b) := by
  unfold model_Info_same.f
  rw [bind_self]
  exact and_if toList_inj (fun _ => and_if Iff.rfl (fun _ => eqi_ev _ h))
theorem tensorS_ev {a : S42} (b : S42) (h : a.f2.length ≤ big) : ∃ r, tensor_Tensor_Same.f a.f0 a.f1 a.f2 a.f3 b.f0 b.f1 b.f2 b.f3 = some r ∧ (r = true ↔ pT a b) := by
  unfold tensor_Tensor_Same.f
  exact and_if toList_inj (fun _ => and_if Iff.rfl (fun _ => and_some (eqi_ev _ h) (fun _ => ⟨_, rfl, beq_iff_eq.trans toList_inj⟩)))
theorem tensorR_ev {a : S55} (b : S55) (h : a.f2.length ≤ big) : ∃ r, agateref07_Same_s.f a.f0 a.f1 a.f2 a.f3 b.f0 b.f1 b.f2 b.f3 = some r ∧ (r = true ↔ qT a b) := ⟨_, if_pos h, dec_iff⟩
theorem infosS_ev {xs : List S40} (ys : List S40) (hn : xs.length ≤ big) (hx : ∀ x ∈ xs, x.f2.length ≤ big) {k : Nat} (hk : xs.length + 0 < k) : ∃ r, model_Info_16.f k xs ys = some r ∧ (r = true ↔ Ss pI xs ys) := by
  have hn' := Nat.lt_of_le_of_lt hn (show big < 9223372036854775807 by decide)
  unfold model_Info_16.f
  refine len_if (fun hl => ev_noq (ev_all hl (fun k i => model_Info_16.l0 k ys xs (xs.length : Int) i) hn' (fun k i => model_Info_same.f (rd_T40 xs i).f0 (rd_T40 xs i).f1 (rd_T40 xs i).f2 (rd_T40 ys i).f0 (rd_T40 ys i).f1 (rd_T40 ys i).f2) True 0 (fun k i h h' => ?_) (fun k _ => ev_fin (k := k) (by simp only [model_Info_16.l0]; rw [if_neg (by omega)])) (fun k i h h' hk => ?_) hk))
  · simp only [model_Info_16.l0]
    rw [if_pos (by omega), if_pos (by omega), if_pos (by omega), if_pos (by omega)]
  · rw [rd_i h, rd_i h']
    exact infoS_ev _ (hx _ (List.getElem_mem _))
theorem tensorsS_ev {xs : List S42} (ys : List S42) (hn : xs.length ≤ big) (hx : ∀ x ∈ xs, x.f2.length ≤ big) {k : Nat} (hk : xs.length + 0 < k) : ∃ r, tensor_Tensor_18.f k xs ys = some r ∧ (r = true ↔ Ss pT xs ys) := by
  have hn' := Nat.lt_of_le_of_lt hn (show big < 9223372036854775807 by decide)
  unfold tensor_Tensor_18.f
  refine len_if (fun hl => ev_noq (ev_all hl (fun k i => tensor_Tensor_18.l0 k ys xs (xs.length : Int) i) hn' (fun k i => tensor_Tensor_Same.f (rd_T42 xs i).f0 (rd_T42 xs i).f1 (rd_T42 xs i).f2 (rd_T42 xs i).f3 (rd_T42 ys i).f0 (rd_T42 ys i).f1 (rd_T42 ys i).f2 (rd_T42 ys i).f3) True 0 (fun k i h h' => ?_) (fun k _ => ev_fin (k := k) (by simp only [tensor_Tensor_18.l0]; rw [if_neg (by omega)])) (fun k i h h' hk => ?_) hk))
  · simp only [tensor_Tensor_18.l0]
    rw [if_pos (by omega), if_pos (by omega), if_pos (by omega), if_pos (by omega)]
  · rw [rd_t h, rd_t h']
    exact tensorS_ev _ (hx _ (List.getElem_mem _))
theorem attrsS_ev {xs : List S48} (ys : List S48) (hn : xs.length ≤ big) (hx : ∀ x ∈ xs, x.f3.length ≤ big) {k : Nat} (hk : xs.length + 1 < k) : ∃ r, model_Attr_43.f k xs ys = some r ∧ (r = true ↔ Ss pA xs ys) := by
  have hn' := Nat.lt_of_le_of_lt hn (show big < 9223372036854775807 by decide)
  unfold model_Attr_43.f
  refine len_if (fun hl => ev_noq (ev_all hl (fun k i => model_Attr_43.l0 k ys xs (xs.length : Int) i) hn' (fun k i => model_Attr_Same.f k (rd_T48 xs i).f0 (rd_T48 xs i).f1 (rd_T48 xs i).f2 (rd_T48 xs i).f3 (rd_T48 ys i).f0 (rd_T48 ys i).f1 (rd_T48 ys i).f2 (rd_T48 ys i).f3) True 1 (fun k i h h' => ?_) (fun k _ => ev_fin (k := k) (by simp only [model_Attr_43.l0]; rw [if_neg (by omega)])) (fun k i h h' hk => ?_) hk))
  · simp only [model_Attr_43.l0]
    rw [if_pos (by omega), if_pos (by omega), if_pos (by omega), if_pos (by omega)]
  · rw [rd_a h, rd_a h']
    exact attrS_ev _ (hx _ (List.getElem_mem _)) (by omega)
structure NodeOk (K : Nat) (a : S46) : Prop where
  i : a.f1.length ≤ big
  j : a.f3.length ≤ big
  x : ∀ y ∈ a.f3, y.f3.length ≤ big
  ik : a.f1.length < K
  jk : a.f3.length + 1 < K
  xk : ∀ y ∈ a.f3, a.f3.length + y.f3.length + 2 < K
theorem nodeS_ev {a : S46} (b : S46) {k K : Nat} (h : NodeOk K a) (hk : K ≤ k) : ∃ r, model_Node_Same.f k a.f0 a.f1 a.f2 a.f3 b.f0 b.f1 b.f2 b.f3 = some r ∧ (r = true ↔ pN a b) := by
  unfold model_Node_Same.f
  rw [bind_self]
  exact and_if toList_inj (fun _ => and_some (eqs_ev _ h.i (by have := h.ik; omega)) (fun _ => and_if toList_inj (fun _ => attrsS_ev _ h.j h.x (by have := h.jk; omega))))
theorem nodesS_ev {xs : List S46} (ys : List S46) (hn : xs.length ≤ big) {K : Nat} (hx : ∀ x ∈ xs, NodeOk K x) {k : Nat} (hk : xs.length + K < k) : ∃ r, model_Node_20.f k xs ys = some r ∧ (r = true ↔ Ss pN xs ys) := by
  have hn' := Nat.lt_of_le_of_lt hn (show big < 9223372036854775807 by decide)
  unfold model_Node_20.f
  refine len_if (fun hl => ev_noq (ev_all hl (fun k i => model_Node_20.l0 k ys xs (xs.length : Int) i) hn' (fun k i => model_Node_Same.f k (rd_T46 xs i).f0 (rd_T46 xs i).f1 (rd_T46 xs i).f2 (rd_T46 xs i).f3 (rd_T46 ys i).f0 (rd_T46 ys i).f1 (rd_T46 ys i).f2 (rd_T46 ys i).f3) True K (fun k i h h' => ?_) (fun k _ => ev_fin (k := k) (by simp only [model_Node_20.l0]; rw [if_neg (by omega)])) (fun k i h h' hk => ?_) hk))
  · simp only [model_Node_20.l0]
    rw [if_pos (by omega), if_pos (by omega), if_pos (by omega), if_pos (by omega)]
  · rw [rd_n h, rd_n h']
    exact nodeS_ev _ (hx _ (List.getElem_mem _)) hk
theorem infosR_ev {xs : List S89} (ys : List S89) (hn : xs.length ≤ big) {K : Nat} (hx : ∀ x ∈ xs, x.f2.length ≤ big ∧ x.f2.length < K) {k : Nat} (hk : xs.length + K < k) : ∃ r, agateref10_infos.f k xs ys = some r ∧ (r = true ↔ Ss qI xs ys) := by
  have hn' := Nat.lt_of_le_of_lt hn (show big < 9223372036854775807 by decide)
  unfold agateref10_infos.f
  refine len_if (fun hl => ev_noq (ev_all hl (fun k i => agateref10_infos.l0 k xs ys i) hn' (fun k i => if ((rd_T89 xs i).f0).toList = ((rd_T89 ys i).f0).toList then (if ((rd_T89 xs i).f1) = ((rd_T89 ys i).f1) then agateref10_Ints.f k ((rd_T89 xs i).f2) ((rd_T89 ys i).f2) else some false) else some false) True K (fun k i h h' => ?_) (fun k _ => ev_fin (k := k) (by simp only [agateref10_infos.l0]; rw [if_neg (by omega)])) (fun k i h h' hk => ?_) hk))
  · simp only [agateref10_infos.l0]
    rw [if_pos (by omega), if_pos (by omega), if_pos (by omega)]
    split
    · split
      · rfl
      · rfl
    · rfl
  · rw [rd_ri h, rd_ri h']
    exact and_if toList_inj (fun _ => and_if Iff.rfl (fun _ => rints_ev _ (hx _ (List.getElem_mem _)).1 (Nat.lt_of_lt_of_le (hx _ (List.getElem_mem _)).2 hk)))
structure NodeOkR (K : Nat) (a : S59) : Prop where
  i : a.f1.length ≤ big
  j : a.f3.length ≤ big
  x : ∀ y ∈ a.f3, y.f3.length ≤ big
  xk : ∀ y ∈ a.f3, y.f3.length < K
theorem nodeR_ev {a : S59} (b : S59) {k K : Nat} (h : NodeOkR K a) (hk : a.f1.length + (a.f3.length + K + 1) + 1 < k) : ∃ r, agateref10_Nodes.f k a.f0 a.f1 a.f2 a.f3 b.f0 b.f1 b.f2 b.f3 = some r ∧ (r = true ↔ qN a b) := by
  obtain ⟨k, rfl⟩ : ∃ m, k = m + 1 := ⟨k - 1, by omega⟩
  have hi := Nat.lt_of_le_of_lt h.i (show big < 9223372036854775807 by decide)
  have hj := Nat.lt_of_le_of_lt h.j (show big < 9223372036854775807 by decide)
  have hx := h.x
  have hxk := h.xk
  clear h
  rcases a with ⟨a0, xs, a2, us⟩
  rcases b with ⟨b0, ys, b2, vs⟩
  dsimp only at hk hi hj hx hxk ⊢
  unfold agateref10_Nodes.f
  simp only [agateref10_Nodes.j0]
  rw [if_pos trivial]
  refine ev_iff (p := a0 = b0 ∧ a2 = b2 ∧ (xs.length = ys.length) ∧ (us.length = vs.length) ∧ Ss (fun a b => a = b) xs ys ∧ Ss qA us vs) ?_ (by
    unfold qN
    exact ⟨fun h => ⟨h.1, Ss_eq.1 h.2.2.2.2.1, h.2.1, h.2.2.2.2.2⟩, fun h => ⟨h.1, h.2.2.1, congrArg List.length h.2.1, h.2.2.2.1, Ss_eq.2 h.2.1, h.2.2.2⟩⟩)
  refine and_if toList_inj (fun _ => and_if toList_inj (fun _ => and_if Int.ofNat_inj (fun hl => ?_)))
  by_cases hm : us.length = vs.length
  · rw [if_neg (show ¬ ((us.length : Int) != (vs.length : Int)) = true by rw [hm]; simp)]
    refine ev_iff ?_ (show Ss (fun a b => a = b) xs ys ∧ Ss qA us vs ↔ _ from ⟨fun h => ⟨hm, h⟩, fun h => h.2⟩)
    refine ev_all hl (fun k i => agateref10_Nodes.l0 k i a0 xs a2 us b0 ys b2 vs) hi (fun k i => some (decide ((rdOf ByteArray.empty xs i).toList = (rdOf ByteArray.empty ys i).toList))) (Ss qA us vs) (us.length + K + 1) (fun k i h h' => ?_) (fun k hk => ?_) (fun k i h h' _ => ?_) (by omega)
    · simp only [agateref10_Nodes.l0]
      rw [if_pos (by omega), if_pos (by omega), if_pos (by omega), Option.bind_some]
      by_cases c : (rdOf ByteArray.empty xs (i : Int)).toList = (rdOf ByteArray.empty ys (i : Int)).toList
      · rw [if_pos c, decide_eq_true c, if_pos rfl]
      · rw [if_neg c, decide_eq_false c, if_neg (by decide)]
    · simp only [agateref10_Nodes.l0]
      rw [if_neg (by omega)]
      refine ev_noq (ev_all hm (fun k i => agateref10_Nodes.l1 k i a0 xs a2 us b0 ys b2 vs) hj (fun k i => agateref10_Attrs.f k (rd_T90 us i).f0 (rd_T90 us i).f1 (rd_T90 us i).f2 (rd_T90 us i).f3 (rd_T90 vs i).f0 (rd_T90 vs i).f1 (rd_T90 vs i).f2 (rd_T90 vs i).f3) True K (fun k i h h' => ?_) (fun k _ => ev_fin (k := k) (by simp only [agateref10_Nodes.l1]; rw [if_neg (by omega)])) (fun k i h h' hk => ?_) (by omega))
      · simp only [agateref10_Nodes.l1]
        rw [if_pos (by omega), if_pos (by omega), if_pos (by omega)]
      · rw [rd_ra h, rd_ra h']
        exact attrR_ev _ (hx _ (List.getElem_mem _)) (Nat.lt_of_lt_of_le (hxk _ (List.getElem_mem _)) hk)
    · rw [rd_str h, rd_str h']
      exact ev_dec toList_inj
  · rw [if_pos (show ((us.length : Int) != (vs.length : Int)) = true by simp; omega)]
    exact ⟨false, rfl, (fun h => nomatch h), fun h => absurd h.1 hm⟩
structure ModOk (K : Nat) (l1 l2 : List S40) (l3 : List S42) (l4 : List S46) : Prop where
  n1 : l1.length ≤ big
  n2 : l2.length ≤ big
  n3 : l3.length ≤ big
  n4 : l4.length ≤ big
  x1 : ∀ x ∈ l1, x.f2.length ≤ big ∧ x.f2.length < K
  x2 : ∀ x ∈ l2, x.f2.length ≤ big ∧ x.f2.length < K
  x3 : ∀ x ∈ l3, x.f2.length ≤ big
  x4 : ∀ x ∈ l4, NodeOk K x
  k1 : l1.length < K
  k2 : l2.length < K
  k3 : l3.length < K
  k4 : l4.length < K
theorem same_ev {K : Nat} {a b : Int} {l1 l2 : List S40} {l3 : List S42} {l4 : List S46} (ml1 ml2 : List S40) (ml3 : List S42) (ml4 : List S46) (h : ModOk K l1 l2 l3 l4) {k : Nat} (hk : 2 * K < k) : ∃ r, model_Model_Same.f k a l1 l2 l3 l4 b ml1 ml2 ml3 ml4 = some r ∧ (r = true ↔ sameP a l1 l2 l3 l4 b ml1 ml2 ml3 ml4) := by
  unfold model_Model_Same.f
  rw [bind_self]
  exact and_if Iff.rfl (fun _ => and_some (infosS_ev _ h.n1 (fun x hx => (h.x1 x hx).1) (by have := h.k1; omega)) (fun _ => and_some (infosS_ev _ h.n2 (fun x hx => (h.x2 x hx).1) (by have := h.k2; omega)) (fun _ => and_some (tensorsS_ev _ h.n3 h.x3 (by have := h.k3; omega)) (fun _ => nodesS_ev _ h.n4 h.x4 (by have := h.k4; omega)))))
theorem rsame_ev {K : Nat} {a b : Int} {l1 l2 : List S40} {l3 : List S42} {l4 : List S46} (ml1 ml2 : List S40) (ml3 : List S42) (ml4 : List S46) (h : ModOk K l1 l2 l3 l4) {k : Nat} (hk : 8 * K + 8 < k) : ∃ r, agateref10_Same.f k a (l1.map toI) (l2.map toI) (l3.map toT) (l4.map toN) b (ml1.map toI) (ml2.map toI) (ml3.map toT) (ml4.map toN) = some r ∧ (r = true ↔ sameP a l1 l2 l3 l4 b ml1 ml2 ml3 ml4) := by
  obtain ⟨k, rfl⟩ : ∃ m, k = m + 1 := ⟨k - 1, by omega⟩
  have g1 : ∀ {l : List S40}, (∀ x ∈ l, x.f2.length ≤ big ∧ x.f2.length < K) → ∀ x ∈ l.map toI, x.f2.length ≤ big ∧ x.f2.length < K := fun g x hx => by
    obtain ⟨y, hy, rfl⟩ := List.mem_map.1 hx
    exact g y hy
  have g3 : ∀ x ∈ l3.map toT, x.f2.length ≤ big := fun x hx => by
    obtain ⟨y, hy, rfl⟩ := List.mem_map.1 hx
    exact h.x3 y hy
  have g4 : ∀ x ∈ l4.map toN, NodeOkR K x ∧ x.f1.length + (x.f3.length + K + 1) + 1 < 3 * K + 2 := fun x hx => by
    obtain ⟨y, hy, rfl⟩ := List.mem_map.1 hx
    have k := h.x4 y hy
    have hm : ∀ z ∈ (toN y).f3, z.f3.length ≤ big ∧ z.f3.length < K := fun z hz => by
      obtain ⟨u, hu, rfl⟩ := List.mem_map.1 hz
      exact ⟨k.x u hu, by have := k.xk u hu; show u.f3.length < K; omega⟩
    have e3 : (toN y).f3.length = y.f3.length := by show (y.f3.map toA).length = _; rw [List.length_map]
    exact ⟨⟨k.i, by rw [e3]; exact k.j, fun z hz => (hm z hz).1, fun z hz => (hm z hz).2⟩, by have h1 := k.ik; have h2 := k.jk; rw [e3]; show y.f1.length + _ + 1 < _; omega⟩
  have i1 := infosR_ev (xs := l1.map toI) (ml1.map toI) (by rw [List.length_map]; exact h.n1) (g1 h.x1) (k := k + 1) (by rw [List.length_map]; have := h.k1; omega)
  have i2 := infosR_ev (xs := l2.map toI) (ml2.map toI) (by rw [List.length_map]; exact h.n2) (g1 h.x2) (k := k + 1) (by rw [List.length_map]; have := h.k2; omega)
  have n3 : (l3.map toT).length < 9223372036854775807 := by rw [List.length_map]; exact Nat.lt_of_le_of_lt h.n3 (by decide)
  have n4 : (l4.map toN).length < 9223372036854775807 := by rw [List.length_map]; exact Nat.lt_of_le_of_lt h.n4 (by decide)
  have kk : (l3.map toT).length + ((l4.map toN).length + (3 * K + 2) + 1) < k := by rw [List.length_map, List.length_map]; have := h.k3; have := h.k4; omega
  refine ev_iff (p := a = b ∧ Ss qI (l1.map toI) (ml1.map toI) ∧ Ss qI (l2.map toI) (ml2.map toI) ∧ (l3.map toT).length = (ml3.map toT).length ∧ (l4.map toN).length = (ml4.map toN).length ∧ Ss qT (l3.map toT) (ml3.map toT) ∧ Ss qN (l4.map toN) (ml4.map toN)) ?_ (by
    unfold sameP
    rw [Ss_map toI (p := pI) (fun _ _ => Iff.rfl), Ss_map toI (p := pI) (fun _ _ => Iff.rfl), Ss_map toT (p := pT) (fun _ _ => Iff.rfl), Ss_map toN (p := pN) qN_iff, List.length_map, List.length_map, List.length_map, List.length_map]
    exact ⟨fun h => ⟨h.1, h.2.1, h.2.2.1, h.2.2.2.2.2⟩, fun h => ⟨h.1, h.2.1, h.2.2.1, h.2.2.2.1.1, h.2.2.2.2.1, h.2.2.2⟩⟩)
  revert n3 n4 g3 g4 kk i1 i2
  generalize l1.map toI = xs1
  generalize l2.map toI = xs2
  generalize l3.map toT = xs
  generalize l4.map toN = us
  generalize ml1.map toI = ys1
  generalize ml2.map toI = ys2
  generalize ml3.map toT = ys
  generalize ml4.map toN = vs
  clear h g1
  intro g3 g4 i1 i2 n3 n4 kk
  unfold agateref10_Same.f
  simp only [agateref10_Same.j0]
  rw [if_pos trivial]
  refine and_if Iff.rfl (fun _ => and_some i1 (fun _ => and_some i2 (fun _ => and_if Int.ofNat_inj (fun hl => ?_))))
  by_cases hm : us.length = vs.length
  · rw [if_neg (show ¬ ((us.length : Int) != (vs.length : Int)) = true by rw [hm]; simp)]
    refine ev_iff ?_ (show Ss qT xs ys ∧ Ss qN us vs ↔ _ from ⟨fun h => ⟨hm, h⟩, fun h => h.2⟩)
    refine ev_all hl (fun k i => agateref10_Same.l0 k i a xs1 xs2 xs us b ys1 ys2 ys vs) n3 (fun k i => agateref07_Same_s.f (rd_T55 xs i).f0 (rd_T55 xs i).f1 (rd_T55 xs i).f2 (rd_T55 xs i).f3 (rd_T55 ys i).f0 (rd_T55 ys i).f1 (rd_T55 ys i).f2 (rd_T55 ys i).f3) (Ss qN us vs) (us.length + (3 * K + 2) + 1) (fun k i h h' => ?_) (fun k hk => ?_) (fun k i h h' _ => ?_) (by omega)
    · simp only [agateref10_Same.l0]
      rw [if_pos (by omega), if_pos (by omega), if_pos (by omega)]
    · simp only [agateref10_Same.l0]
      rw [if_neg (by omega)]
      refine ev_noq (ev_all hm (fun k i => agateref10_Same.l1 k i a xs1 xs2 xs us b ys1 ys2 ys vs) n4 (fun k i => agateref10_Nodes.f k (rd_T59 us i).f0 (rd_T59 us i).f1 (rd_T59 us i).f2 (rd_T59 us i).f3 (rd_T59 vs i).f0 (rd_T59 vs i).f1 (rd_T59 vs i).f2 (rd_T59 vs i).f3) True (3 * K + 2) (fun k i h h' => ?_) (fun k _ => ev_fin (k := k) (by simp only [agateref10_Same.l1]; rw [if_neg (by omega)])) (fun k i h h' hk => ?_) (by omega))
      · simp only [agateref10_Same.l1]
        rw [if_pos (by omega), if_pos (by omega), if_pos (by omega)]
      · rw [rd_rn h, rd_rn h']
        have g := g4 _ (List.getElem_mem h)
        exact nodeR_ev _ g.1 (by omega)
    · rw [rd_rt h, rd_rt h']
      exact tensorR_ev _ (g3 _ (List.getElem_mem _))
  · rw [if_pos (show ((us.length : Int) != (vs.length : Int)) = true by simp; omega)]
    exact ⟨false, rfl, (fun h => nomatch h), fun h => absurd h.1 hm⟩
theorem clI {a : ByteArray} {b : Int} {l : List Int} (h : l.length < 17592186044416) : model_Model_Clone_1.f a b l = some (a, b, l) := by
  unfold model_Model_Clone_1.f slices_Clone_int64.f
  rw [if_pos h, Option.bind_some]
theorem clT {a d : ByteArray} {b : Int} {l : List Int} (h : l.length < 17592186044416) : model_Model_Clone_2.f a b l d = some (a, b, l, d) := by
  unfold model_Model_Clone_2.f slices_Clone_int64.f
  rw [if_pos h, Option.bind_some]
theorem clA {a : ByteArray} {b : Bool} {c : Int} {l : List Int} (h : l.length < 17592186044416) : model_Model_Clone_3_1.f a b c l = some (a, b, c, l) := by
  unfold model_Model_Clone_3_1.f slices_Clone_int64.f
  rw [if_pos h, Option.bind_some]
theorem clInfos (l : List S40) (hn : l.length < 2932031007402) (hx : ∀ x ∈ l, x.f2.length < 17592186044416) {k : Nat} (hk : l.length + 0 < k) : model_Info_27.f k l = some l := by
  have h := map_loop (fun k acc i => model_Info_27.l0 k acc l (l.length : Int) i) l (by omega) 0 (fun k acc i h hk ha => by
    simp only [model_Info_27.l0]
    rw [if_pos (by omega), if_pos (by omega), if_pos (by omega), rd_i h, clI (hx _ (List.getElem_mem h)), Option.bind_some, if_pos (by omega)]) (fun k acc => by
    simp only [model_Info_27.l0]
    rw [if_neg (by omega)]) l.length k 0 (by omega) (by omega) (by omega)
  exact h
theorem clTensors (l : List S42) (hn : l.length < 2199023255552) (hx : ∀ x ∈ l, x.f2.length < 17592186044416) {k : Nat} (hk : l.length + 0 < k) : tensor_Tensor_28.f k l = some l := by
  have h := map_loop (fun k acc i => tensor_Tensor_28.l0 k acc l (l.length : Int) i) l (by omega) 0 (fun k acc i h hk ha => by
    simp only [tensor_Tensor_28.l0]
    rw [if_pos (by omega), if_pos (by omega), if_pos (by omega), rd_t h, clT (hx _ (List.getElem_mem h)), Option.bind_some, if_pos (by omega)]) (fun k acc => by
    simp only [tensor_Tensor_28.l0]
    rw [if_neg (by omega)]) l.length k 0 (by omega) (by omega) (by omega)
  exact h
theorem clAttrs (l : List S48) (hn : l.length < 2513169434916) (hx : ∀ x ∈ l, x.f3.length < 17592186044416) {k : Nat} (hk : l.length + 0 < k) : model_Attr_33.f k l = some l := by
  have h := map_loop (fun k acc i => model_Attr_33.l0 k acc l (l.length : Int) i) l (by omega) 0 (fun k acc i h hk ha => by
    simp only [model_Attr_33.l0]
    rw [if_pos (by omega), if_pos (by omega), if_pos (by omega), rd_a h, clA (hx _ (List.getElem_mem h)), Option.bind_some, if_pos (by omega)]) (fun k acc => by
    simp only [model_Attr_33.l0]
    rw [if_neg (by omega)]) l.length k 0 (by omega) (by omega) (by omega)
  exact h
structure NodeCl (K : Nat) (a : S46) : Prop where
  i : a.f1.length < 8796093022208
  j : a.f3.length < 2513169434916
  x : ∀ y ∈ a.f3, y.f3.length < 17592186044416
  k : a.f3.length < K
theorem clN {a : S46} {k K : Nat} (h : NodeCl K a) (hk : K ≤ k) : model_Model_Clone_3.f k a.f0 a.f1 a.f2 a.f3 = some (a.f0, a.f1, a.f2, a.f3) := by
  unfold model_Model_Clone_3.f slices_Clone_string.f
  rw [if_pos h.i, Option.bind_some, clAttrs _ h.j h.x (by have := h.k; omega), Option.bind_some]
theorem clNodes (l : List S46) (hn : l.length < 1759218604441) {K : Nat} (hx : ∀ x ∈ l, NodeCl K x) {k : Nat} (hk : l.length + K < k) : model_Node_30.f k l = some l := by
  have h := map_loop (fun k acc i => model_Node_30.l0 k acc l (l.length : Int) i) l (by omega) K (fun k acc i h hk ha => by
    simp only [model_Node_30.l0]
    rw [if_pos (by omega), if_pos (by omega), if_pos (by omega), rd_n h, clN (hx _ (List.getElem_mem h)) hk, Option.bind_some, if_pos (by omega)]) (fun k acc => by
    simp only [model_Node_30.l0]
    rw [if_neg (by omega)]) l.length k 0 (by omega) (by omega) (by omega)
  exact h
theorem clone_f {K : Nat} (a : Int) {l1 l2 : List S40} {l3 : List S42} {l4 : List S46} (h1 : l1.length < 2932031007402) (h2 : l2.length < 2932031007402) (h3 : l3.length < 2199023255552) (h4 : l4.length < 1759218604441) (x1 : ∀ x ∈ l1, x.f2.length < 17592186044416) (x2 : ∀ x ∈ l2, x.f2.length < 17592186044416) (x3 : ∀ x ∈ l3, x.f2.length < 17592186044416) (x4 : ∀ x ∈ l4, NodeCl K x) {k : Nat} (hk : l1.length + l2.length + l3.length + l4.length + K < k) : model_Model_Clone.f k a l1 l2 l3 l4 = some (a, l1, l2, l3, l4) := by
  unfold model_Model_Clone.f
  rw [clInfos l1 h1 x1 (by omega), Option.bind_some, clInfos l2 h2 x2 (by omega), Option.bind_some, clTensors l3 h3 x3 (by omega), Option.bind_some, clNodes l4 h4 x4 (by omega), Option.bind_some]
end Go.Proofs.Ytfejdnkmmjffcaa.X
