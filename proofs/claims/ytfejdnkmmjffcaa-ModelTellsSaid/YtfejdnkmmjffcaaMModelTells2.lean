import Derived.Test.YtfejdnkmmjffcaaMModelTells0
import Derived.Test.YtfejdnkmmjffcaaMModelTells1
import Derived.Laws.StructEq
namespace Go.Proofs.YtfejdnkmmjffcaaW.PrintWords
open Go.RowKit
namespace Kd
section
variable {α : Type} {n : Nat} {d : Kd α} {hs : 0 < d.sz} {w : World} {base : Nat} {ok : Nat → Prop} {xs : List α} {cs : List Value}
end
section
variable {α : Type} {n : Nat} {enc : α → Value} {h1 : ∀ x, (enc x).oneCell' = true} {hs : 0 < (scalar enc h1).sz} {w : World} {base : Nat} {ok : Nat → Prop} {xs : List α} {cs : List Value}
end
end Kd
end Go.Proofs.YtfejdnkmmjffcaaW.PrintWords
namespace Go.Proofs.YtfejdnkmmjffcaaW.PrintWords
open Go.RowKit
section
variable {P : Program}
end
namespace Kd
section
variable {P : Program} {ops : Array Oper} {rest : List Oper} {o : Oper} {a : Act} {Q : Exit → Act → World → Prop} {Kc : Act → World → Prop} {α : Type}
end
section
variable {α : Type} {d : Kd α} {e : Nat} {w : World} {base : Nat} {ok : Nat → Prop} {v : Value} {xs : List α}
end
section
variable {P : Program} {ops : Array Oper} {rest : List Oper} {o : Oper} {a : Act} {Q : Exit → Act → World → Prop} {Kc : Act → World → Prop} {α : Type}
end
end Kd
end Go.Proofs.YtfejdnkmmjffcaaW.PrintWords
namespace Go.Proofs.YtfejdnkmmjffcaaW.PrintWords
open Go.RowKit
namespace Kd
structure Heap {α : Type} (d : Kd α) : Prop where
  K : ∀ {w w1 : World} {x : α} {cs : List Value}, (∀ k, k < w.heap.size → w1.heap[k]? = w.heap[k]?) → d.K w x cs → d.K w1 x cs
theorem cell_heap {w w1 : World} (hb : ∀ k, k < w.heap.size → w1.heap[k]? = w.heap[k]?) {a : Addr} {v : Value} (h : w.cell? a = some v) : w1.cell? a = some v := by
  have := hb a.block (World.block_lt_of_cell? w a h)
  simpa [World.cell?, this] using h
theorem Heap.C {α : Type} {d : Kd α} (hd : Heap d) {w w1 : World} {A : Option Addr} {n : Nat} {xs : List α} (hb : ∀ k, k < w.heap.size → w1.heap[k]? = w.heap[k]?) (h : d.C w A n xs) : d.C w1 A n xs :=
  ⟨h.1, h.2.1, fun hn => by
    obtain ⟨ad, e, hc⟩ := h.2.2 hn
    refine ⟨ad, e, fun j p hj => ?_⟩
    obtain ⟨c, hs, hr, hcell⟩ := hc j p hj
    exact ⟨c, hs, hd.K hb hr, fun i u hu => cell_heap hb (hcell i u hu)⟩⟩
theorem heap_int (k : IntKind) : Heap (Kd.int k) := ⟨fun _ h => h⟩
theorem heap_bool : Heap Kd.bool := ⟨fun _ h => h⟩
theorem heap_string : Heap Kd.string := ⟨fun _ h => h⟩
theorem heap_slice {α : Type} {d : Kd α} (e : Nat) (hd : Heap d) : Heap (slice e d) := ⟨by
  rintro w w1 x cs hb ⟨A, c, rfl, hl, hr⟩
  exact ⟨A, c, rfl, hl, hd.C hb hr⟩⟩
theorem heap_pair {α β : Type} {a : Kd α} {b : Kd β} (ha : Heap a) (hb' : Heap b) : Heap (pair a b) := ⟨by
  rintro w w1 x cs hb ⟨c0, c1, rfl, h0, h1⟩
  exact ⟨c0, c1, rfl, ha.K hb h0, hb'.K hb h1⟩⟩
theorem heap_iso {α β : Type} {d : Kd α} (f : β → α) (hd : Heap d) : Heap (iso d f) := ⟨fun hb h => hd.K hb h⟩
section
variable {α : Type} {d : Kd α} {e base g n c : Nat} {ok : Nat → Prop} {w w0 W : World} {A : Option Addr} {xs : List α}
end
end Kd
end Go.Proofs.YtfejdnkmmjffcaaW.PrintWords
namespace Go.Proofs.YtfejdnkmmjffcaaW.PrintWords
open Go.RowKit
def Kept (w W : World) (S : Nat → Prop) : Prop := w.heap.size ≤ W.heap.size ∧ ∀ i, i < w.heap.size → ¬ S i → W.heap[i]? = w.heap[i]?
section
variable {w W W2 : World} {S S2 S' : Nat → Prop}
theorem Kept.refl (w : World) (S : Nat → Prop) : Kept w w S := ⟨Nat.le_refl _, fun _ _ _ => rfl⟩
theorem Kept.of_below (h : Below w.heap.size w W) (S : Nat → Prop) : Kept w W S := ⟨h.size, fun i hi _ => h.block i hi⟩
theorem Kept.then_ (h : Kept w W S) (k : Kept W W2 S2) (hs : ∀ k, S2 k → S k ∨ w.heap.size ≤ k) : Kept w W2 S :=
  ⟨Nat.le_trans h.1 k.1, fun i hi hn => (k.2 i (Nat.lt_of_lt_of_le hi h.1) (fun h2 => (hs i h2).elim hn (fun h3 => by omega))).trans (h.2 i hi hn)⟩
theorem Kept.below (h : Kept w W S) (hb : Below W.heap.size W W2) : Kept w W2 S := h.then_ (Kept.of_below hb (fun _ => False)) (fun _ hk => hk.elim)
theorem Kept.alloc (h : Kept w W S) (o : Obj) : Kept w (W.alloc o) S := h.below (below_alloc (Below.refl _ _) o)
theorem Kept.drew (h : Kept w W S) : Kept w W.drew S := h
theorem Kept.drewN (h : Kept w W S) (m : Nat) : Kept w (W.drewN m) S := h
theorem Kept.setCell (h : Kept w W S) {p : Addr} (hp : S p.block ∨ w.heap.size ≤ p.block) (u : Value) : Kept w (W.setCell p u) S :=
  h.then_ (S2 := fun k => k = p.block) ⟨by simp [World.setCell], fun i _ hn => Below.heap_setCell W p u i hn⟩ (fun k hk => by rw [hk]; exact hp)
end
namespace Kd
section
variable {α : Type} {d : Kd α} {e base n c : Nat} {ok oki S S2 : Nat → Prop} {w w0 W W1 W2 : World} {v : Value} {A : Option Addr} {xs : List α} {i : Int} {cs : List Value}
theorem R_kept (h : d.R e W base ok v xs) (hk : Kept W W2 S) (hne : ∀ k, ok k → ¬ S k) : d.R e W2 base ok v xs := R_step h (fun k ho hlt => hk.2 k hlt (hne k ho))
end
end Kd
end Go.Proofs.YtfejdnkmmjffcaaW.PrintWords
namespace Go.Proofs.YtfejdnkmmjffcaaW.PrintWords
open Go.RowKit
def Foot (P : World → Prop) (W : World) (ok : Nat → Prop) : Prop := ∀ W' : World, (∀ k, ok k → k < W.heap.size → W'.heap[k]? = W.heap[k]?) → P W'
theorem heap_lt {W W1 : World} {k : Nat} (h : W1.heap[k]? = W.heap[k]?) (hlt : k < W.heap.size) : k < W1.heap.size := by
  rw [Array.getElem?_eq_getElem hlt] at h
  exact (Array.getElem?_eq_some_iff.1 h).1
namespace Foot
variable {P Q : World → Prop} {W W1 : World} {ok ok' : Nat → Prop}
theorem now (h : Foot P W ok) : P W := h W (fun _ _ _ => rfl)
theorem mono (h : Foot P W ok) (hok : ∀ k, ok k → ok' k) : Foot P W ok' := fun W' hW => h W' (fun k hk hlt => hW k (hok k hk) hlt)
theorem bound (h : Foot P W ok) : Foot P W (fun k => ok k ∧ k < W.heap.size) := fun W' hW => h W' (fun k hk hlt => hW k ⟨hk, hlt⟩ hlt)
theorem step (h : Foot P W ok) (hm : ∀ k, ok k → k < W.heap.size → W1.heap[k]? = W.heap[k]?) : Foot P W1 ok := fun W' hW => h W' (fun k hk hlt => (hW k hk (heap_lt (hm k hk hlt) hlt)).trans (hm k hk hlt))
theorem imp (h : Foot P W ok) (hi : ∀ W', P W' → Q W') : Foot Q W ok := fun W' hW => hi W' (h W' hW)
theorem old (h : Foot P W ok) (hb : Below W.heap.size W W1) : Foot P W1 (fun k => ok k ∧ k < W.heap.size) := (h.bound).step (fun k _ hlt => hb.block k hlt)
end Foot
namespace Kd
def F {α : Type} (d : Kd α) (W : World) (ok : Nat → Prop) (A : Option Addr) (n : Nat) (xs : List α) : Prop := Foot (fun W => d.C W A n xs) W ok
def FK {α : Type} (d : Kd α) (W : World) (ok : Nat → Prop) (x : α) (c : List Value) : Prop := Foot (fun W => d.K W x c) W ok
section
variable {α β : Type} {d : Kd α} {e base n n' cc g N : Nat} {ok ok' okp S : Nat → Prop} {w w0 w1 W W1 : World} {A A' : Option Addr} {u v v1 : Value} {xs : List α} {xs' : List β} {d' : Kd β} {x : α} {c : List Value}
theorem F_now (h : F d W ok A n xs) : d.C W A n xs := Foot.now h
theorem F_mono (h : F d W ok A n xs) (hok : ∀ k, ok k → ok' k) : F d W ok' A n xs := Foot.mono h hok
theorem F_bound (h : F d W ok A n xs) : F d W (fun k => ok k ∧ k < W.heap.size) A n xs := Foot.bound h
theorem F_step (h : F d W ok A n xs) (hm : ∀ k, ok k → k < W.heap.size → W1.heap[k]? = W.heap[k]?) : F d W1 ok A n xs := Foot.step h hm
theorem F_below (h : F d W ok A n xs) (hb : Below W.heap.size W W1) : F d W1 ok A n xs := F_step h (fun k _ hlt => hb.block k hlt)
theorem F_alloc (h : F d W ok A n xs) (o : Obj) : F d (W.alloc o) ok A n xs := F_below h (below_alloc (Below.refl _ _) o)
theorem F_drew (h : F d W ok A n xs) : F d W.drew ok A n xs := F_below h (below_drew (Below.refl _ _))
theorem F_drewN (h : F d W ok A n xs) (m : Nat) : F d (W.drewN m) ok A n xs := F_below h (pw_below_drewN (Below.refl _ _) m)
theorem F_far (h : F d W ok A n xs) {p : Addr} (hok : ∀ k, ok k → k ≠ p.block) (u : Value) : F d (W.setCell p u) ok A n xs := F_step h (fun k hk _ => Below.heap_setCell W p u k (hok k hk))
theorem F_nil (d : Kd α) (W : World) (ok : Nat → Prop) : F d W ok none ([] : List α).length [] := fun W' _ => C_nil d W'
theorem F_elder' (h : F d W ok A n xs) (hbase : ∀ k, v.ownBlock = some k → W.heap.size ≤ k) (hb : Below W.heap.size W W1) : F d W1 (fun k => ok k ∧ some k ≠ v.ownBlock) A n xs :=
  F_mono (Foot.old h hb) (fun k hk => ⟨hk.1, fun he => by have := hbase k he.symm; have := hk.2; omega⟩)
theorem F_elderB (h : F d W ok A n xs) (a : Nat) (ha : W.heap.size ≤ a) : F d W (fun k => ok k ∧ k ≠ a) A n xs := F_mono (F_bound h) (fun k hk => ⟨hk.1, by have := hk.2; omega⟩)
theorem F_after (h : F d W (fun k => ok k ∧ some k ≠ v.ownBlock) A n xs) (hg : W.grownBy W1 v.ownBlock) (hat : v1.ownBlock = v.ownBlock ∨ ∃ b, v1.ownBlock = some b ∧ W.heap.size ≤ b) : F d W1 (fun k => ok k ∧ some k ≠ v1.ownBlock) A n xs := by
  refine F_mono (Foot.step (F_bound h) (fun k hk hlt => hg.block k hlt hk.1.2)) (fun k hk => ⟨hk.1.1, ?_⟩)
  rcases hat with hat | ⟨b, hb, hle⟩
  · rw [hat]; exact hk.1.2
  · rw [hb]
    intro he
    injection he with he
    have := hk.2
    omega
theorem C_F (hd : Heap d) (h : d.C w A n xs) : F d w (fun k => k < w.heap.size) A n xs := fun _ hW => hd.C (fun k hlt => hW k hlt hlt) h
theorem R_F (h : d.R e W base ok (.slice A n cc) xs) : F d W ok A n xs := fun W' hW => by
  have h2 := R_reads' (R_step h hW)
  rw [h2.1]
  exact h2.2.2
theorem FK_now (h : FK d W ok x c) : d.K W x c := Foot.now h
theorem FK_mono (h : FK d W ok x c) (hok : ∀ k, ok k → ok' k) : FK d W ok' x c := Foot.mono h hok
theorem FK_bound (h : FK d W ok x c) : FK d W (fun k => ok k ∧ k < W.heap.size) x c := Foot.bound h
theorem FK_step (h : FK d W ok x c) (hm : ∀ k, ok k → k < W.heap.size → W1.heap[k]? = W.heap[k]?) : FK d W1 ok x c := Foot.step h hm
theorem FK_of_M (h : d.M W base ok x c) : FK d W ok x c := fun _ hW => d.K_of_M (M_step h hW)
theorem emptied (W : World) (g : Nat) : ∃ W' : World, (∀ k, k ≠ g → W'.heap[k]? = W.heap[k]?) ∧ ∀ a : Addr, a.block = g → W'.cell? a = none := by
  refine ⟨{ W with heap := W.heap.setIfInBounds g (.cells #[] 0) }, fun k hk => by simp [Ne.symm hk], fun a ha => ?_⟩
  subst ha
  by_cases hlt : a.block < W.heap.size
  · simp [World.cell?, hlt]
  · simp [World.cell?, hlt]
end
end Kd
end Go.Proofs.YtfejdnkmmjffcaaW.PrintWords
namespace Go.Proofs.YtfejdnkmmjffcaaW.PrintWords
open Go.RowKit
namespace Kd
def chunks (sz : Nat) (n : Nat) (inner : List Value) : List (List Value) := (List.range n).map fun j => (inner.drop (j * sz)).take sz
theorem chunks_length (sz n : Nat) (inner : List Value) : (chunks sz n inner).length = n := by simp [chunks]
theorem chunks_at {sz n : Nat} {inner : List Value} {j : Nat} (hj : j < n) : (chunks sz n inner)[j]? = some ((inner.drop (j * sz)).take sz) := by simp [chunks, hj]
theorem chunks_get {sz n : Nat} {inner : List Value} {j : Nat} {c : List Value} (h : (chunks sz n inner)[j]? = some c) : c = (inner.drop (j * sz)).take sz := by
  have hj : j < n := by have := (List.getElem?_eq_some_iff.1 h).1; rwa [chunks_length] at this
  rw [chunks_at hj] at h
  injection h with h
  exact h.symm
theorem reps_raw {α : Type} {Rr : α → List Value → Prop} {sz : Nat} {xs : List α} {inner : List Value} (h : Reps Rr sz xs inner) (hR : ∀ x c, Rr x c → c.length = sz ∧ ∀ u ∈ c, u.oneCell' = true) : Reps (fun x cs => cs = x ∧ cs.length = sz ∧ ∀ u ∈ cs, u.oneCell' = true) sz (chunks sz xs.length inner) inner := by
  refine ⟨by rw [chunks_length]; exact h.1, fun j p hj => ?_⟩
  have hjl : j < xs.length := by have := (List.getElem?_eq_some_iff.1 hj).1; rwa [chunks_length] at this
  have hp := chunks_get hj
  exact ⟨hp.symm, hR _ _ (h.2 j _ (List.getElem?_eq_getElem hjl))⟩
section
variable {α : Type} {d : Kd α} {e base n cc g : Nat} {ok ok' okp S : Nat → Prop} {w w1 W W1 : World} {A : Option Addr} {u v v1 : Value} {xs : List α} {x : α} {c : List Value}
theorem F_get (h : F d W ok A n xs) (z : α) (i : Int) (h0 : 0 ≤ i) (h1 : i < n) :
    ∃ ad c, A = some ad ∧ c.length = d.sz ∧ FK d W ok (xs.getD i.toNat z) c ∧ (∀ j u, c[j]? = some u → W.cell? (ad.add (i.toNat * d.sz + j)) = some u) ∧ (0 < d.sz → ok ad.block) := by
  obtain ⟨ad, c, rfl, hcl, hK, hcc⟩ := C_get (F_now h) z i h0 h1
  have hin : 0 < d.sz → ok ad.block := by
    intro hs
    by_cases hk : ok ad.block
    · exact hk
    · obtain ⟨W', h2, h3⟩ := emptied W ad.block
      obtain ⟨ad', c', he, hcl', _, hcc'⟩ := C_get (h W' (fun k hk' _ => h2 k (fun e => hk (e ▸ hk')))) z i h0 h1
      injection he with he
      subst he
      have h4 := hcc' 0 _ (List.getElem?_eq_getElem (by omega))
      rw [h3 _ (add_block _ _)] at h4
      cases h4
  refine ⟨ad, c, rfl, hcl, fun W' hW => ?_, hcc, hin⟩
  obtain ⟨ad', c', he, hcl', hK', hcc'⟩ := C_get (h W' hW) z i h0 h1
  injection he with he
  subst he
  have hc : c = c' := by
    apply List.ext_getElem?
    intro j
    by_cases hj : j < d.sz
    · have hb : W'.heap[ad.block]? = W.heap[ad.block]? := by
        have h5 := hcc j _ (List.getElem?_eq_getElem (by omega))
        have h6 := World.block_lt_of_cell? W _ h5
        rw [add_block] at h6
        exact hW _ (hin (by omega)) h6
      have h5 := hcc j _ (List.getElem?_eq_getElem (by omega))
      have h6 := hcc' j _ (List.getElem?_eq_getElem (by omega))
      have h7 : W'.cell? (ad.add (i.toNat * d.sz + j)) = W.cell? (ad.add (i.toNat * d.sz + j)) := by simp [World.cell?, add_block, hb]
      rw [h7, h5] at h6
      rw [List.getElem?_eq_getElem (by omega), List.getElem?_eq_getElem (by omega)]
      exact h6
    · rw [List.getElem?_eq_none (by omega), List.getElem?_eq_none (by omega)]
  rw [hc]
  exact hK'
def N {α : Type} (d : Kd α) (e : Nat) (w : World) (base : Nat) (ok : Nat → Prop) (v : Value) (xs : List α) : Prop :=
  (∀ k, v.ownBlock = some k → ok k) ∧ ∃ rows : List (List Value), rows.length = xs.length ∧ (raw d.sz).R e w base (fun k => some k = v.ownBlock) v rows ∧ ∀ (j : Nat) (x : α) (c : List Value), xs[j]? = some x → rows[j]? = some c → FK d w (fun k => ok k ∧ some k ≠ v.ownBlock) x c
theorem raw_tight {sz : Nat} {rows : List (List Value)} (h : (raw sz).R e w base ok v rows) : (raw sz).R e w base (fun k => some k = v.ownBlock) v rows := R_tight rfl h
theorem raw_any {sz : Nat} {rows : List (List Value)} (h : (raw sz).R e w base ok v rows) : (raw sz).R e w base (fun _ => True) v rows := R_mono h (fun _ _ => trivial)
theorem R_N (h : d.R e w base ok v xs) : N d e w base ok v xs := by
  obtain ⟨h0, inner, ho, hr⟩ := h
  refine ⟨h0, chunks d.sz xs.length inner, chunks_length _ _ _, ⟨fun k hk => hk.symm, inner, by rw [chunks_length]; exact ho, reps_raw hr (fun x c hp => ⟨d.K_len (d.K_of_M hp), d.K_one (d.K_of_M hp)⟩)⟩, fun j x c hx hc => ?_⟩
  rw [chunks_get hc]
  exact FK_of_M (hr.2 j x hx)
theorem N_nil (d : Kd α) (e : Nat) (w : World) (base : Nat) (ok : Nat → Prop) : N d e w base ok (.slice none 0 0) [] := R_N (R_nil _ _ _ _ _)
theorem N_mono (h : N d e w base ok v xs) (hok : ∀ k, ok k → ok' k) : N d e w base ok' v xs := by
  obtain ⟨h0, rows, hl, hR, hf⟩ := h
  exact ⟨fun k hk => hok k (h0 k hk), rows, hl, hR, fun j x c hx hc => FK_mono (hf j x c hx hc) (fun k hk => ⟨hok k hk.1, hk.2⟩)⟩
theorem N_lt (h : N d e w base ok v xs) : ∀ k, v.ownBlock = some k → k < w.heap.size := by
  obtain ⟨_, rows, _, hR, _⟩ := h
  exact R_lt hR
theorem N_base (h : N d e w base ok v xs) : ∀ k, v.ownBlock = some k → base ≤ k := by
  obtain ⟨_, rows, _, hR, _⟩ := h
  exact R_base hR
theorem N_ne (h : N d e w base ok v xs) {t : Nat} {cells : Array Value} (hb : w.heap[g]? = some (.cells cells t (0, 0))) (ht : e ≠ t) : some g ≠ v.ownBlock := by
  obtain ⟨_, rows, _, hR, _⟩ := h
  exact R_ne hR hb ht
theorem N_bound (h : N d e w base ok v xs) : N d e w base (fun k => ok k ∧ k < w.heap.size) v xs := by
  have hlt := N_lt h
  obtain ⟨h0, rows, hl, hR, hf⟩ := h
  exact ⟨fun k hk => ⟨h0 k hk, hlt k hk⟩, rows, hl, hR, fun j x c hx hc => FK_mono (FK_bound (hf j x c hx hc)) (fun k hk => ⟨⟨hk.1.1, hk.2⟩, hk.1.2⟩)⟩
theorem N_lower {base' : Nat} (h : N d e w base ok v xs) (hb : base' ≤ base) : N d e w base' ok v xs := by
  obtain ⟨h0, rows, hl, hR, hf⟩ := h
  exact ⟨h0, rows, hl, R_lower hR hb, hf⟩
theorem N_step (h : N d e w base ok v xs) (hm : ∀ k, ok k → k < w.heap.size → w1.heap[k]? = w.heap[k]?) : N d e w1 base ok v xs := by
  obtain ⟨h0, rows, hl, hR, hf⟩ := h
  exact ⟨h0, rows, hl, R_step hR (fun k hk hlt => hm k (h0 k hk.symm) hlt), fun j x c hx hc => FK_step (hf j x c hx hc) (fun k hk hlt => hm k hk.1 hlt)⟩
theorem N_below (h : N d e w base ok v xs) (hb : Below w.heap.size w w1) : N d e w1 base ok v xs := N_step h (fun k _ hk => hb.block k hk)
theorem N_alloc (h : N d e w base ok v xs) (o : Obj) : N d e (w.alloc o) base ok v xs := N_below h (below_alloc (Below.refl _ _) o)
theorem N_drew (h : N d e w base ok v xs) : N d e w.drew base ok v xs := N_below h (below_drew (Below.refl _ _))
theorem N_drewN (h : N d e w base ok v xs) (m : Nat) : N d e (w.drewN m) base ok v xs := N_below h (pw_below_drewN (Below.refl _ _) m)
theorem N_far (h : N d e w base ok v xs) {p : Addr} (hok : ∀ k, ok k → k ≠ p.block) (u : Value) : N d e (w.setCell p u) base ok v xs := N_step h (fun k ho _ => Below.heap_setCell w p u k (hok k ho))
theorem N_elder' (h : N d e W base ok v xs) (hbase : ∀ k, u.ownBlock = some k → W.heap.size ≤ k) (hb : Below W.heap.size W w1) : N d e w1 base (fun k => ok k ∧ some k ≠ u.ownBlock) v xs :=
  N_mono (N_below (N_bound h) hb) (fun k hk => ⟨hk.1, fun he => by have := hbase k he.symm; have := hk.2; omega⟩)
theorem N_elderB (h : N d e w base ok v xs) (a : Nat) (ha : w.heap.size ≤ a) : N d e w base (fun k => ok k ∧ k ≠ a) v xs := N_mono (N_bound h) (fun k hk => ⟨hk.1, by have := hk.2; omega⟩)
theorem N_after (h : N d e W base (fun k => ok k ∧ some k ≠ u.ownBlock) v xs) {u1 : Value} (hg : W.grownBy w1 u.ownBlock) (hat : u1.ownBlock = u.ownBlock ∨ ∃ b, u1.ownBlock = some b ∧ W.heap.size ≤ b) : N d e w1 base (fun k => ok k ∧ some k ≠ u1.ownBlock) v xs := by
  refine N_mono (N_step (N_bound h) (fun k hk hlt => hg.block k hlt hk.1.2)) (fun k hk => ⟨hk.1.1, ?_⟩)
  rcases hat with hat | ⟨b, hb, hle⟩
  · rw [hat]; exact hk.1.2
  · rw [hb]
    intro he
    injection he with he
    have := hk.2
    omega
theorem N_slice (h : N d e w base ok v xs) : ∃ A c, v = .slice A xs.length c := by
  obtain ⟨_, rows, hl, hR, _⟩ := h
  obtain ⟨A, c, he⟩ := R_slice hR
  exact ⟨A, c, by rw [he, hl]⟩
theorem N_reads' {n c : Nat} (h : N d e w base ok (.slice A n c) xs) : n = xs.length ∧ n ≤ c ∧ d.C w A xs.length xs := by
  obtain ⟨_, rows, hl, hR, hf⟩ := h
  obtain ⟨hn, hc, hC⟩ := R_reads' hR
  refine ⟨by omega, hc, ?_⟩
  rw [hl] at hC
  refine ⟨rfl, hC.2.1, fun hp => ?_⟩
  obtain ⟨ad, he, hcell⟩ := hC.2.2 hp
  refine ⟨ad, he, fun j p hj => ?_⟩
  have hjl : j < rows.length := by have := (List.getElem?_eq_some_iff.1 hj).1; omega
  obtain ⟨c', hcl, hK, hcc⟩ := hcell j _ (List.getElem?_eq_getElem hjl)
  have hk := FK_now (hf j p _ hj (List.getElem?_eq_getElem hjl))
  refine ⟨c', hcl, ?_, hcc⟩
  rw [show c' = rows[j] from hK.1]
  exact hk
theorem N_reads (h : N d e w base ok v xs) : ∃ A c, v = .slice A xs.length c ∧ xs.length ≤ c ∧ d.C w A xs.length xs := by
  obtain ⟨A, c, rfl⟩ := N_slice h
  exact ⟨A, c, rfl, (N_reads' h).2⟩
theorem N_F {n : Nat} (h : N d e w base ok (.slice A n cc) xs) : F d w ok A n xs := fun W' hW => by
  have h2 := N_reads' (N_step h hW)
  rw [h2.1]
  exact h2.2.2
end
end Kd
end Go.Proofs.YtfejdnkmmjffcaaW.PrintWords
namespace Go.Proofs.YtfejdnkmmjffcaaW.PrintWords
open Go.RowKit
namespace Kd
section
variable {α : Type} {d : Kd α} {W : World} {g n : Nat} {S ok : Nat → Prop} {A : Option Addr} {ad : Addr} {xs : List α}
end
end Kd
end Go.Proofs.YtfejdnkmmjffcaaW.PrintWords
namespace Go.Proofs.YtfejdnkmmjffcaaW.PrintWords
open Go.RowKit
section
variable {w w' u : World} {m B g : Nat} {o : Obj} {row : Option Nat} {S : Nat → Prop} {a : Addr} {v : Value}
end
namespace Kd
section
variable {α : Type} {d : Kd α} {e base n m : Nat} {ok : Nat → Prop} {w w' : World} {v : Value} {A : Option Addr} {xs : List α}
end
end Kd
end Go.Proofs.YtfejdnkmmjffcaaW.PrintWords
namespace Go.Proofs.YtfejdnkmmjffcaaW.PrintWords
open Go.RowKit
section
variable {P : Program} {d : Nat} {xs ys : Array Value} {f : Field} {fs : List Field} {a b : Value} {r s : Bool} {w : World}
end
end Go.Proofs.YtfejdnkmmjffcaaW.PrintWords
namespace Go.Proofs.YtfejdnkmmjffcaaW.PrintWords
theorem Reps.one {α : Type} {R : α → List Value → Prop} {ps : List α} {cs : List Value} {p : α} {v : Value} (hp : R p [v]) (h : Reps R 1 ps cs) : Reps R 1 (p :: ps) (v :: cs) := by
  refine ⟨by simp [h.1], fun j q hq => ?_⟩
  cases j with
  | zero =>
    simp only [List.getElem?_cons_zero, Option.some.injEq] at hq
    subst hq
    simpa using hp
  | succ j =>
    simp only [List.getElem?_cons_succ] at hq
    have h1 := h.2 j q hq
    simpa [Nat.mul_one] using h1
theorem Reps.front {α : Type} {R : α → List Value → Prop} {size : Nat} {ps : List α} {cs c all : List Value} {p : α} (hp : R p c) (hc : c.length = size) (h : Reps R size ps cs) (ha : c ++ cs = all) : Reps R size (p :: ps) all := by
  subst ha
  refine ⟨by rw [List.length_append, hc, h.1, List.length_cons, Nat.succ_mul, Nat.add_comm], fun j q hq => ?_⟩
  cases j with
  | zero =>
    simp only [List.getElem?_cons_zero, Option.some.injEq] at hq
    subst hq
    rw [Nat.zero_mul, List.drop_zero, List.take_append_of_le_length (by omega), List.take_of_length_le (by omega)]
    exact hp
  | succ j =>
    simp only [List.getElem?_cons_succ] at hq
    have h1 := h.2 j q hq
    rw [Nat.succ_mul, List.drop_append, List.drop_of_length_le (by rw [hc]; exact Nat.le_add_left _ _), List.nil_append, hc, Nat.add_sub_cancel]
    exact h1
theorem Reps.c4 {α : Type} {R : α → List Value → Prop} {ps : List α} {cs : List Value} {p : α} {va vb vc vd : Value} (hp : R p [va, vb, vc, vd]) (h : Reps R 4 ps cs) : Reps R 4 (p :: ps) (va :: vb :: vc :: vd :: cs) := Reps.front hp rfl h rfl
end Go.Proofs.YtfejdnkmmjffcaaW.PrintWords
namespace Go.Proofs.YtfejdnkmmjffcaaW.PrintLast
def up (b : Nat → Bool) (i : Nat) : Nat → Bool := fun j => if j = i then true else b j
theorem up_self (b : Nat → Bool) (i : Nat) : up b i i = true := by simp [up]
theorem up_ne {b : Nat → Bool} {i j : Nat} (h : j ≠ i) : up b i j = b j := by simp [up, h]
def lof (n : Nat) (O : List Nat) (b : Nat → Bool) : List Bool := (List.range n).map fun j => if O.contains j then b j else true
def putSel (a : Act) (b : Nat → Bool) : List (Nat × Tmp × Value) → Act
  | [] => a
  | e :: r => putSel (if b e.1 = true then a.put (some e.2.1) e.2.2 else a) b r
section
variable {P : Program} {ops : Array Oper} {Q : Exit → Act → World → Prop} {md : Region.Mode} {T : Bool × List (List Nat × List Nat)} {B : List Nat} {O : List Nat} {b : Nat → Bool} {i j n : Nat}
theorem lof_length : (lof n O b).length = n := by simp [lof]
theorem lof_get {d : Bool} (hj : j < n) : (lof n O b).getD j d = if O.contains j then b j else true := by
  simp [lof, List.getD_eq_getElem?_getD, hj]
theorem lof_up (hi : O.contains i = true) : (lof n O b).set i true = lof n O (up b i) := by
  apply List.ext_getElem?
  intro j
  by_cases hj : j < n
  · by_cases hij : i = j
    · subst hij
      have hl : i < (lof n O b).length := by rw [lof_length]; exact hj
      rw [List.getElem?_set_self hl]
      simp only [lof, List.getElem?_map, List.getElem?_range hj, Option.map_some, hi, if_true, up_self]
    · rw [List.getElem?_set_ne hij]
      simp only [lof, List.getElem?_map, List.getElem?_range hj, Option.map_some]
      rw [up_ne (Ne.symm hij)]
  · rw [List.getElem?_eq_none (by simp [lof]; omega), List.getElem?_eq_none (by simp [lof]; omega)]
def StepAt (P : Program) (ops : Array Oper) (Q : Exit → Act → World → Prop) (B : List Nat) (O : List Nat) (I : (Nat → Bool) → Act → World → Prop) (i : Nat) : Prop :=
  ∀ b a w, I b a w → b i = false → (∀ j, (O.contains j && (B.getD i 0).testBit j) = true → b j = true) → (∀ d, (O.contains d && (B.getD d 0).testBit i) = true → b d = false) →
    ∃ oi, ops[i]? = some oi ∧ ∀ K : Act → World → Prop, Shut (∀ a' w', I (up b i) a' w' → K a' w') → if Region.wanted oi (yielded ops a.tmps) = true then Oper.wp P oi a w K Q else K (a.put oi.dst undef) w
theorem steps_nil {I : (Nat → Bool) → Act → World → Prop} : ∀ i ∈ ([] : List Nat), StepAt P ops Q B O I i := fun _ h => by cases h
theorem steps_cons {I : (Nat → Bool) → Act → World → Prop} {rs : List Nat} (h : StepAt P ops Q B O I i) (hs : ∀ j ∈ rs, StepAt P ops Q B O I j) : ∀ j ∈ i :: rs, StepAt P ops Q B O I j := fun j hj => by
  rcases List.mem_cons.1 hj with rfl | hj
  · exact h
  · exact hs j hj
def baseOk (T : List (List Nat × List Nat)) (O : List Nat) : Bool :=
  (List.range T.length).all (fun d => match T[d]? with
    | some r => (O.contains d || r.1.all fun n => !O.contains n) && r.1.all fun n => decide (n < d)
    | none => false) && O.all (fun i => decide (i < T.length)) && decide O.Nodup
theorem baseOk_row {T : List (List Nat × List Nat)} (h : baseOk T O = true) {d : Nat} {r : List Nat × List Nat} (hr : T[d]? = some r) : (O.contains d = false → ∀ n ∈ r.1, O.contains n = false) ∧ ∀ n ∈ r.1, n < d := by
  simp only [baseOk, Bool.and_eq_true] at h
  have h1 := List.all_eq_true.1 h.1.1 d (List.mem_range.2 (List.getElem?_eq_some_iff.1 hr).1)
  rw [hr] at h1
  simp only [Bool.and_eq_true, Bool.or_eq_true, List.all_eq_true, decide_eq_true_eq] at h1
  refine ⟨fun hd n hn => ?_, h1.2⟩
  rcases h1.1 with h2 | h2
  · rw [hd] at h2; cases h2
  · simpa using h2 n hn
theorem baseOk_lt {T : List (List Nat × List Nat)} (h : baseOk T O = true) {i : Nat} (hi : i ∈ O) : i < T.length := by
  simp only [baseOk, Bool.and_eq_true] at h
  simpa using List.all_eq_true.1 h.1.2 i hi
theorem baseOk_nodup {T : List (List Nat × List Nat)} (h : baseOk T O = true) : O.Nodup := by
  simp only [baseOk, Bool.and_eq_true] at h
  exact of_decide_eq_true h.2
def Closed (T : List (List Nat × List Nat)) (O : List Nat) (b : Nat → Bool) : Prop := ∀ d r, T[d]? = some r → O.contains d = true → b d = true → ∀ n ∈ r.1, O.contains n = true → b n = true
theorem bits_out {T : List (List Nat × List Nat)} (hw : waitsOk T B = true) (hk : baseOk T O = true) : ∀ (m d : Nat), d ≤ m → d < T.length → O.contains d = false → ∀ j, (B.getD d 0).testBit j = true → O.contains j = false := by
  intro m
  induction m with
  | zero =>
    intro d hd hl hO j hj
    have hd0 : d = 0 := by omega
    subst hd0
    have hr : T[0]? = some T[0] := List.getElem?_eq_getElem hl
    have h1 := List.all_eq_true.1 hw 0 (List.mem_range.2 hl)
    rw [hr] at h1
    simp only [beq_iff_eq] at h1
    have h2 : (upM B 0 T[0].1).testBit j = true := by rw [← h1, Nat.testBit_or, hj, Bool.true_or]
    obtain ⟨n, hn, h3⟩ := upM_bit h2
    have := (baseOk_row hk hr).2 n hn
    omega
  | succ m ih =>
    intro d hd hl hO j hj
    have hr : T[d]? = some T[d] := List.getElem?_eq_getElem hl
    have h1 := List.all_eq_true.1 hw d (List.mem_range.2 hl)
    rw [hr] at h1
    simp only [beq_iff_eq] at h1
    have h2 : (upM B d T[d].1).testBit j = true := by rw [← h1, Nat.testBit_or, hj, Bool.true_or]
    obtain ⟨n, hn, h3⟩ := upM_bit h2
    have hO2 := (baseOk_row hk hr).1 hO n hn
    rcases h3 with rfl | ⟨h4, h5⟩
    · exact hO2
    · exact ih n (by omega) (by omega) hO2 j h5
theorem closed_bits {T : List (List Nat × List Nat)} (hw : waitsOk T B = true) (hk : baseOk T O = true) (hc : Closed T O b) : ∀ (m d : Nat), d ≤ m → d < T.length → O.contains d = true → b d = true → ∀ j, O.contains j = true → (B.getD d 0).testBit j = true → b j = true := by
  intro m
  induction m with
  | zero =>
    intro d hd hl hO hb j hjO hj
    have hd0 : d = 0 := by omega
    subst hd0
    have hr : T[0]? = some T[0] := List.getElem?_eq_getElem hl
    have h1 := List.all_eq_true.1 hw 0 (List.mem_range.2 hl)
    rw [hr] at h1
    simp only [beq_iff_eq] at h1
    have h2 : (upM B 0 T[0].1).testBit j = true := by rw [← h1, Nat.testBit_or, hj, Bool.true_or]
    obtain ⟨n, hn, h3⟩ := upM_bit h2
    have := (baseOk_row hk hr).2 n hn
    omega
  | succ m ih =>
    intro d hd hl hO hb j hjO hj
    have hr : T[d]? = some T[d] := List.getElem?_eq_getElem hl
    have h1 := List.all_eq_true.1 hw d (List.mem_range.2 hl)
    rw [hr] at h1
    simp only [beq_iff_eq] at h1
    have h2 : (upM B d T[d].1).testBit j = true := by rw [← h1, Nat.testBit_or, hj, Bool.true_or]
    obtain ⟨n, hn, h3⟩ := upM_bit h2
    rcases h3 with rfl | ⟨h4, h5⟩
    · exact hc d _ hr hO hb n hn hjO
    · cases hO2 : O.contains n with
      | true => exact ih n (by omega) (by omega) hO2 (hc d _ hr hO hb n hn hO2) j hjO h5
      | false =>
        have := bits_out hw hk n n (Nat.le_refl _) (by omega) hO2 j h5
        rw [hjO] at this
        cases this
theorem up_count : ∀ {O : List Nat}, O.Nodup → i ∈ O → b i = false → (O.filter fun j => !up b i j).length + 1 = (O.filter fun j => !b j).length
  | [], _, hi, _ => by cases hi
  | x :: r, hn, hi, hb => by
    rw [List.nodup_cons] at hn
    rcases List.mem_cons.1 hi with rfl | hi
    · have h1 : (r.filter fun j => !up b i j) = r.filter fun j => !b j := by
        refine List.filter_congr (fun j hj => ?_)
        rw [up_ne (fun e => hn.1 (by rw [← e]; exact hj))]
      rw [List.filter_cons, List.filter_cons]
      simp [up_self, hb, h1]
    · have hxi : x ≠ i := fun e => hn.1 (e ▸ hi)
      have h1 := up_count hn.2 hi hb
      rw [List.filter_cons, List.filter_cons, up_ne hxi]
      cases hbx : b x
      · simp only [Bool.not_false, if_true, List.length_cons]
        omega
      · simpa using h1
theorem inv_all (hT : rtab md ops = T) (hw : waitsOk T.2 B = true) (hk : baseOk T.2 O = true) (I : (Nat → Bool) → Act → World → Prop) (hs : ∀ i ∈ O, StepAt P ops Q B O I i)
    (hend : ∀ b a w, (∀ j, O.contains j = true → b j = true) → I b a w → Q .normal a w) :
    ∀ (m : Nat) (b : Nat → Bool) (a : Act) (w : World), (O.filter fun j => !b j).length = m → Closed T.2 O b → I b a w → wpAnyLast P md ops Q (fun _ => True) [] m (lof T.2.length O b).toArray a w := by
  subst hT
  have mem_ready' : ∀ {b : Nat → Bool} {i : Nat}, i ∈ Region.ready md ops (lof (rtab md ops).2.length O b).toArray → i < (rtab md ops).2.length ∧ O.contains i = true ∧ b i = false ∧ ∀ r, (rtab md ops).2[i]? = some r → ∀ n ∈ r.1, n < (rtab md ops).2.length → O.contains n = true → b n = true := by
    intro b i hi
    rw [ready_eq] at hi
    unfold readyT at hi
    rw [List.mem_filter, List.mem_range] at hi
    obtain ⟨hl, h1⟩ := hi
    unfold readyAt at h1
    rw [Bool.and_eq_true, lof_get hl] at h1
    obtain ⟨h2, h3⟩ := h1
    have h4 : O.contains i = true := by
      cases h : O.contains i with
      | true => rfl
      | false => rw [h] at h2; simp at h2
    rw [h4] at h2
    refine ⟨hl, h4, by simpa using h2, fun r hr n hn hnl hO => ?_⟩
    rw [hr] at h3
    simp only [List.all_eq_true] at h3
    have h5 := h3 n hn
    rw [lof_get hnl, hO] at h5
    simpa using h5
  intro m
  induction m with
  | zero =>
    intro b a w hm hc hI
    have hall : ∀ j, O.contains j = true → b j = true := by
      intro j hj
      cases hb : b j with
      | true => rfl
      | false =>
        have : j ∈ O.filter fun j => !b j := List.mem_filter.2 ⟨List.contains_iff_mem.1 hj, by simp [hb]⟩
        rw [List.eq_nil_of_length_eq_zero hm] at this
        cases this
    refine ⟨?_, hend b a w hall hI⟩
    refine List.eq_nil_iff_forall_not_mem.2 (fun i hi => ?_)
    obtain ⟨_, h1, h2, _⟩ := mem_ready' hi
    rw [hall i h1] at h2
    cases h2
  | succ m ih =>
    intro b a w hm hc hI
    refine ⟨fun hr => ?_, fun i hi => ?_⟩
    · exfalso
      have hex : ∃ i, O.contains i = true ∧ b i = false := by
        cases hf : O.filter (fun j => !b j) with
        | nil => rw [hf] at hm; simp at hm
        | cons x r =>
          have hx : x ∈ O.filter (fun j => !b j) := by rw [hf]; exact List.mem_cons_self
          rw [List.mem_filter] at hx
          exact ⟨x, List.contains_iff_mem.2 hx.1, by simpa using hx.2⟩
      have hmin : ∀ k, (∃ i, i ≤ k ∧ O.contains i = true ∧ b i = false) → ∃ i, O.contains i = true ∧ b i = false ∧ ∀ j, j < i → O.contains j = true → b j = true := by
        intro k
        induction k with
        | zero =>
          rintro ⟨i, hi, h1, h2⟩
          exact ⟨i, h1, h2, fun j hj => by omega⟩
        | succ k ihk =>
          rintro ⟨i, hi, h1, h2⟩
          by_cases hlow : ∃ j, j ≤ k ∧ O.contains j = true ∧ b j = false
          · exact ihk hlow
          · refine ⟨i, h1, h2, fun j hj hO => ?_⟩
            cases hb : b j with
            | true => rfl
            | false => exact absurd ⟨j, by omega, hO, hb⟩ hlow
      obtain ⟨i0, h1, h2⟩ := hex
      obtain ⟨i, hO, hb, hlow⟩ := hmin i0 ⟨i0, Nat.le_refl _, h1, h2⟩
      have hl := baseOk_lt hk (List.contains_iff_mem.1 hO)
      have hin : i ∈ Region.ready md ops (lof (rtab md ops).2.length O b).toArray := by
        rw [ready_eq]
        unfold readyT
        rw [List.mem_filter, List.mem_range]
        refine ⟨hl, ?_⟩
        unfold readyAt
        rw [lof_get hl, hO, hb]
        have hr2 : (rtab md ops).2[i]? = some (rtab md ops).2[i] := List.getElem?_eq_getElem hl
        rw [hr2]
        simp only [if_true, Bool.not_false, Bool.true_and, List.all_eq_true]
        intro n hn
        have hni := (baseOk_row hk hr2).2 n hn
        rw [lof_get (by omega)]
        cases hOn : O.contains n with
        | true => simpa using hlow n hni hOn
        | false => simp
      rw [hr] at hin
      cases hin
    · obtain ⟨hl, hO, hb, hneed⟩ := mem_ready' hi
      have hon : ∀ j, (O.contains j && (B.getD i 0).testBit j) = true → b j = true := by
        intro j hj
        rw [Bool.and_eq_true] at hj
        have hr2 : (rtab md ops).2[i]? = some (rtab md ops).2[i] := List.getElem?_eq_getElem hl
        have h1 := List.all_eq_true.1 hw i (List.mem_range.2 hl)
        rw [hr2] at h1
        simp only [beq_iff_eq] at h1
        have h2 : (upM B i (rtab md ops).2[i].1).testBit j = true := by rw [← h1, Nat.testBit_or, hj.2, Bool.true_or]
        obtain ⟨n, hn, h3⟩ := upM_bit h2
        have hni := (baseOk_row hk hr2).2 n hn
        rcases h3 with rfl | ⟨h4, h5⟩
        · exact hneed _ hr2 n hn (by omega) hj.1
        · cases hO2 : O.contains n with
          | true => exact closed_bits hw hk hc n n (Nat.le_refl _) (by omega) hO2 (hneed _ hr2 n hn (by omega) hO2) j hj.1 h5
          | false =>
            have := bits_out hw hk n n (Nat.le_refl _) (by omega) hO2 j h5
            rw [hj.1] at this
            cases this
      have hoff : ∀ d, (O.contains d && (B.getD d 0).testBit i) = true → b d = false := by
        intro d hd
        rw [Bool.and_eq_true] at hd
        cases hbd : b d with
        | false => rfl
        | true =>
          have hdl := baseOk_lt hk (List.contains_iff_mem.1 hd.1)
          have := closed_bits hw hk hc d d (Nat.le_refl _) hdl hd.1 hbd i hO hd.2
          rw [hb] at this
          cases this
      obtain ⟨oi, hoi, hK⟩ := hs i (List.contains_iff_mem.1 hO) b a w hI hb hon hoff
      refine wpOp_step hoi (fun K' hK' => hK K' (fun a' w' hI' => hK' a' w' ⟨fun _ _ => trivial, ?_⟩))
      have hset : (lof (rtab md ops).2.length O b).toArray.setIfInBounds i true = (lof (rtab md ops).2.length O (up b i)).toArray := by
        apply Array.ext'
        rw [Array.toList_setIfInBounds]
        exact lof_up hO
      rw [hset]
      refine ih (up b i) a' w' ?_ ?_ hI'
      · have := up_count (baseOk_nodup hk) (List.contains_iff_mem.1 hO) hb
        omega
      · intro d r hr hOd hbd n hn hOn
        by_cases hni : n = i
        · rw [hni, up_self]
        · rw [up_ne hni]
          by_cases hdi : d = i
          · subst hdi
            exact hneed r hr n hn (by have := (baseOk_row hk hr).2 n hn; omega) hOn
          · rw [up_ne hdi] at hbd
            exact hc d r hr hOd hbd n hn hOn
theorem putSel_off {b : Nat → Bool} {t : Tmp} : ∀ {L : List (Nat × Tmp × Value)} {a : Act}, (L.all fun e => !(e.2.1 == t)) = true → (putSel a b L).tmps[t]? = a.tmps[t]?
  | [], _, _ => rfl
  | e :: r, a, h => by
    rw [List.all_cons, Bool.and_eq_true] at h
    have he : e.2.1 ≠ t := by simpa using h.1
    unfold putSel
    by_cases hb : b e.1 = true
    · rw [if_pos hb, putSel_off h.2]
      simp [Act.put, Array.getElem?_setIfInBounds_ne he]
    · rw [if_neg hb]
      exact putSel_off h.2
theorem putSel_on {b : Nat → Bool} {e : Nat × Tmp × Value} : ∀ {L : List (Nat × Tmp × Value)} {a : Act} (k : Nat), L[k]? = some e → ((L.drop (k + 1)).all fun x => !(x.2.1 == e.2.1)) = true → b e.1 = true → Nat.ble (e.2.1 + 1) a.tmps.size = true → (putSel a b L).tmps[e.2.1]? = some e.2.2
  | [], _, _, h, _, _, _ => by cases h
  | x :: r, a, 0, h, hd, hb, ht => by
    simp only [List.getElem?_cons_zero, Option.some.injEq] at h
    subst h
    unfold putSel
    rw [if_pos hb, putSel_off (by simpa using hd)]
    have ht2 : x.2.1 < a.tmps.size := Nat.le_of_ble_eq_true ht
    simp [Act.put, ht2]
  | x :: r, a, k + 1, h, hd, hb, ht => by
    unfold putSel
    refine putSel_on k (by simpa using h) (by simpa using hd) hb ?_
    by_cases hx : b x.1 = true
    · rw [if_pos hx]
      simpa [Act.put] using ht
    · rw [if_neg hx]
      exact ht
theorem put_comm {a : Act} {s t : Tmp} {u v : Value} (h : s ≠ t) : (a.put (some s) u).put (some t) v = (a.put (some t) v).put (some s) u := by
  simp only [Act.put]
  rw [Array.setIfInBounds_comm _ _ h]
theorem putSel_put {b : Nat → Bool} {t : Tmp} {v : Value} : ∀ {L : List (Nat × Tmp × Value)} {a : Act}, (L.all fun e => !(e.2.1 == t)) = true → (putSel a b L).put (some t) v = putSel (a.put (some t) v) b L
  | [], _, _ => rfl
  | e :: r, a, h => by
    rw [List.all_cons, Bool.and_eq_true] at h
    have he : e.2.1 ≠ t := by simpa using h.1
    unfold putSel
    by_cases hb : b e.1 = true
    · rw [if_pos hb, if_pos hb, putSel_put h.2, put_comm he]
    · rw [if_neg hb, if_neg hb]
      exact putSel_put h.2
theorem putSel_same {b : Nat → Bool} {i : Nat} : ∀ {L : List (Nat × Tmp × Value)} {a : Act}, (L.all fun e => !(e.1 == i)) = true → putSel a (up b i) L = putSel a b L
  | [], _, _ => rfl
  | e :: r, a, h => by
    rw [List.all_cons, Bool.and_eq_true] at h
    have he : e.1 ≠ i := by simpa using h.1
    unfold putSel
    rw [up_ne he]
    exact putSel_same h.2
theorem putSel_up {b : Nat → Bool} {i : Nat} {t : Tmp} {v0 v : Value} : ∀ {L1 L2 : List (Nat × Tmp × Value)} {a : Act}, b i = false → ((L1 ++ L2).all fun e => !(e.1 == i) && !(e.2.1 == t)) = true →
    (putSel a b (L1 ++ (i, t, v0) :: L2)).put (some t) v = putSel a (up b i) (L1 ++ (i, t, v) :: L2)
  | [], L2, a, hb, h => by
    simp only [List.nil_append] at h ⊢
    have h1 : (L2.all fun e => !(e.1 == i)) = true := List.all_eq_true.2 (fun e he => by have := List.all_eq_true.1 h e he; simp only [Bool.and_eq_true] at this; exact this.1)
    have h2 : (L2.all fun e => !(e.2.1 == t)) = true := List.all_eq_true.2 (fun e he => by have := List.all_eq_true.1 h e he; simp only [Bool.and_eq_true] at this; exact this.2)
    unfold putSel
    rw [if_neg (by rw [hb]; decide), if_pos (up_self b i), putSel_put h2, putSel_same h1]
  | e :: r, L2, a, hb, h => by
    simp only [List.cons_append, List.all_cons, Bool.and_eq_true] at h
    have he : e.1 ≠ i := by simpa using h.1.1
    simp only [List.cons_append]
    unfold putSel
    rw [up_ne he]
    exact putSel_up hb h.2
theorem putSel_upk {b : Nat → Bool} {i : Nat} {t : Tmp} {v0 v : Value} {a : Act} {L L' : List (Nat × Tmp × Value)} (k : Nat) (hb : b i = false) (hL : L[k]? = some (i, t, v0)) (hL' : L.set k (i, t, v) = L') (hd : ((L.take k ++ L.drop (k + 1)).all fun e => !(e.1 == i) && !(e.2.1 == t)) = true) :
    (putSel a b L).put (some t) v = putSel a (up b i) L' := by
  have hk := (List.getElem?_eq_some_iff.1 hL).1
  have h1 : L = L.take k ++ (i, t, v0) :: L.drop (k + 1) := by
    have h2 : L[k] = (i, t, v0) := (List.getElem?_eq_some_iff.1 hL).2
    rw [← h2, List.getElem_cons_drop, List.take_append_drop]
  have h3 : L' = L.take k ++ (i, t, v) :: L.drop (k + 1) := by rw [← hL', List.set_eq_take_append_cons_drop, if_pos hk]
  rw [h3]
  conv => lhs; rw [h1]
  exact putSel_up hb hd
theorem inv_ {l : Array Bool} {fuel : Nat} {a : Act} {w : World} (O : List Nat) (I : (Nat → Bool) → Act → World → Prop) (hT : rtab md ops = T) (hw : waitsOk T.2 B = true) (hk : baseOk T.2 O = true)
    (hl : (lof T.2.length O (fun _ => false) == l.toList && O.length == fuel) = true) (h0 : I (fun _ => false) a w) (hs : ∀ i ∈ O, StepAt P ops Q B O I i)
    (hend : ∀ b a w, (∀ j, O.contains j = true → b j = true) → I b a w → Q .normal a w) : wpAnyLast P md ops Q (fun _ => True) [] fuel l a w := by
  rw [Bool.and_eq_true, beq_iff_eq, beq_iff_eq] at hl
  have h1 := inv_all hT hw hk I hs hend fuel (fun _ => false) a w (by rw [← hl.2]; simp) (fun d r _ _ hb => by cases hb) h0
  have h2 : (lof T.2.length O (fun _ => false)).toArray = l := by apply Array.ext'; exact hl.1
  rw [h2] at h1
  exact h1
theorem inv_at {l : Array Bool} {fuel : Nat} {a : Act} {w : World} (O : List Nat) (I : Act → (Nat → Bool) → Act → World → Prop) (hT : rtab md ops = T) (hw : waitsOk T.2 B = true) (hk : baseOk T.2 O = true)
    (hl : (lof T.2.length O (fun _ => false) == l.toList && O.length == fuel) = true) (h0 : I a (fun _ => false) a w) (hs : ∀ i ∈ O, StepAt P ops Q B O (I a) i)
    (hend : ∀ b a' w, (∀ j, O.contains j = true → b j = true) → I a b a' w → Q .normal a' w) : wpAnyLast P md ops Q (fun _ => True) [] fuel l a w := inv_ O (I a) hT hw hk hl h0 hs hend
end
end Go.Proofs.YtfejdnkmmjffcaaW.PrintLast
namespace Go.Proofs.YtfejdnkmmjffcaaW.PrintWords
open Go.RowKit
end Go.Proofs.YtfejdnkmmjffcaaW.PrintWords
namespace Go.Proofs.YtfejdnkmmjffcaaW.PrintLast
section
variable {ops : Array Oper} {a : Act} {o og : Oper} {g : Nat} {t : Tmp} {u : Bool}
theorem wanted_on (hg : o.guard = some (g, u)) (ho : ops[g]? = some og) (hd : og.dst = some t) (hv : a.tmps[t]? = some (.bool u)) : Region.wanted o (yielded ops a.tmps) = true := by
  simp [Region.wanted, hg, yielded, ho, hd, hv]
end
end Go.Proofs.YtfejdnkmmjffcaaW.PrintLast
namespace Go.Proofs.YtfejdnkmmjffcaaW.PrintWords
open Go.RowKit
section
variable {P : Program} {ops : Array Oper} {rest : List Oper} {o : Oper} {a : Act} {Q : Exit → Act → World → Prop} {W : World}
theorem gate_guard (hw : Region.wanted o (yielded ops a.tmps) = true) (h : wpList P ops Q ({ o with guard := none } :: rest) a W) : wpList P ops Q (o :: rest) a W := by
  have h1 : Region.wanted { o with guard := none } (yielded ops a.tmps) = true := rfl
  unfold wpList at h ⊢
  rw [if_pos h1] at h
  rw [if_pos hw]
  exact h
end
end Go.Proofs.YtfejdnkmmjffcaaW.PrintWords
namespace Go.Proofs.YtfejdnkmmjffcaaW.PrintWords
open Go.RowKit
namespace Kd
section
variable {α : Type} {d : Kd α} {e base n cap g : Nat} {ok ok' okp : Nat → Prop} {w w1 W : World} {v v1 : Value} {xs ys : List α}
theorem N_appended {rows news : List (List Value)} (h0 : ∀ k, v.ownBlock = some k → ok k) (hl : rows.length = xs.length) (hf : ∀ (j : Nat) (x : α) (c : List Value), xs[j]? = some x → rows[j]? = some c → FK d W (fun k => ok k ∧ some k ≠ v.ownBlock) x c)
    (hl2 : news.length = ys.length) (hf2 : ∀ (j : Nat) (x : α) (c : List Value), ys[j]? = some x → news[j]? = some c → FK d W okp x c) (hokp : ∀ k, okp k → ok k ∧ some k ≠ v.ownBlock) (hfresh : ∀ k, W.heap.size ≤ k → ok k)
    (hR : (raw d.sz).R e w1 base (fun _ => True) v1 (rows ++ news)) (hg : W.grownBy w1 v.ownBlock) (hat : v1.ownBlock = v.ownBlock ∨ ∃ b, v1.ownBlock = some b ∧ W.heap.size ≤ b) : N d e w1 base ok v1 (xs ++ ys) := by
  have hne : ∀ k, some k ≠ v.ownBlock → k < W.heap.size → some k ≠ v1.ownBlock := by
    intro k hk hlt
    rcases hat with hat | ⟨b, hb, hle⟩
    · rw [hat]; exact hk
    · rw [hb]
      intro he
      injection he with he
      omega
  have step : ∀ {x : α} {c : List Value} {o : Nat → Prop}, FK d W o x c → (∀ k, o k → ok k ∧ some k ≠ v.ownBlock) → FK d w1 (fun k => ok k ∧ some k ≠ v1.ownBlock) x c := by
    intro x c o hq ho
    exact FK_mono (FK_step (FK_bound hq) (fun k hk hlt => hg.block k hlt (ho k hk.1).2)) (fun k hk => ⟨(ho k hk.1).1, hne k (ho k hk.1).2 hk.2⟩)
  refine ⟨fun k hk => ?_, rows ++ news, by rw [List.length_append, List.length_append, hl, hl2], raw_tight hR, fun j x c hx hc => ?_⟩
  · rcases hat with hat | ⟨b, hb, hle⟩
    · exact h0 k (hat ▸ hk)
    · rw [hb] at hk
      injection hk with hk
      exact hfresh k (by omega)
  · rcases Nat.lt_or_ge j xs.length with hlt | hge
    · rw [List.getElem?_append_left hlt] at hx
      rw [List.getElem?_append_left (by omega)] at hc
      exact step (hf j x c hx hc) (fun _ hk => hk)
    · rw [List.getElem?_append_right hge] at hx
      rw [List.getElem?_append_right (by omega), hl] at hc
      exact step (hf2 _ x c hx hc) hokp
theorem FK_raw {x : α} {c : List Value} (h : FK d W ok x c) : c = c ∧ c.length = d.sz ∧ ∀ u ∈ c, u.oneCell' = true := ⟨rfl, d.K_len (FK_now h), d.K_one (FK_now h)⟩
theorem N_made {rows : List (List Value)} (hR : (raw d.sz).R e w1 base (fun k => k = W.heap.size) v1 rows) (hg : W.grownBy w1 none) (hat : ∃ b, v1.ownBlock = some b ∧ W.heap.size ≤ b) (hl : rows.length = xs.length) (hf : ∀ (j : Nat) (x : α) (c : List Value), xs[j]? = some x → rows[j]? = some c → FK d W okp x c)
    (hok : ∀ k, okp k → ok k) (hfresh : ok W.heap.size) : N d e w1 base ok v1 xs := by
  obtain ⟨b, hb, hle⟩ := hat
  refine ⟨fun k hk => by rw [hR.1 k hk]; exact hfresh, rows, hl, raw_tight hR, fun j x c hx hc => ?_⟩
  refine FK_mono (FK_step (FK_bound (hf j x c hx hc)) (fun k hk hlt => hg.block k hlt (by simp))) (fun k hk => ⟨hok k hk.1, fun he => ?_⟩)
  rw [hb] at he
  injection he with he
  have := hk.2
  omega
end
section
variable {P : Program} {ops : Array Oper} {rest : List Oper} {o : Oper} {a : Act} {Q : Exit → Act → World → Prop} {Kc : Act → World → Prop} {α : Type}
theorem N_append (d : Kd α) {w0 W : World} (base : Nat) (hgd : o.guard = none) (s x : Operand) (t e : TypeId) (z : Value) (bytes : Nat)
    (ho : o.op = .call { callee := .builtin .append, args := #[s, x], argTypes := #[t, t] })
    (ht : P.underlying t = some (.slice e)) (hinfo : (P.info? e).map (fun i => (i.zero, i.size, i.bytes)) = some (some z, d.sz, bytes)) (hz : z.cells.size = d.sz) (hs0 : 0 < d.sz) (hb0 : 0 < bytes)
    (v : Value) (xs : List α) (p : α) (cs : List Value) (ok okp : Nat → Prop) (hs : a.eval s = v) (hx : a.eval x = .slice (some ⟨W.heap.size, 0, none⟩) 1 1) (hp : FK d W okp p cs) (hokp : ∀ k, okp k → ok k ∧ some k ≠ v.ownBlock) (hfresh : ∀ k, W.heap.size ≤ k → ok k)
    (HO : N d e W base ok v xs) (HB : Below base w0 W) (hbase : base ≤ W.heap.size) (hl : (xs.length + 1) * bytes ≤ 140737488355328)
    (h : ∀ v1 w1, N d e w1 base ok v1 (xs ++ [p]) → Below base w0 w1 → W.grownBy w1 v.ownBlock → (v1.ownBlock = v.ownBlock ∨ ∃ b, v1.ownBlock = some b ∧ W.heap.size ≤ b) → wpList P ops Q rest (a.put o.dst v1) w1) :
    wpList P ops Q (o :: rest) a (W.alloc (.cells cs.toArray e)) := by
  obtain ⟨h0, rows, hlr, hR, hf⟩ := HO
  refine R_append (raw d.sz) base hgd s x t e z bytes ho ht hinfo hz hs0 hb0 v rows cs cs (fun _ => True) (fun _ => False) hs hx (FK_raw hp) (fun _ hk => hk.elim) (fun _ _ => trivial) (raw_any hR) HB hbase (by rw [hlr]; exact hl) ?_
  intro v1 w1 hr hb hg hat
  exact h v1 w1 (N_appended h0 hlr hf (ys := [p]) (news := [cs]) rfl (fun j y c hy hc => by
    rcases j with _ | j
    · simp only [List.getElem?_cons_zero, Option.some.injEq] at hy hc
      rw [← hy, ← hc]; exact hp
    · simp at hy) hokp hfresh hr hg hat) hb hg hat
theorem N_append_step (d : Kd α) {w0 W : World} (base : Nat) (hw : Region.wanted o (yielded ops a.tmps) = true) (s x : Operand) (t e : TypeId) (z : Value) (bytes : Nat)
    (ho : o.op = .call { callee := .builtin .append, args := #[s, x], argTypes := #[t, t] })
    (ht : P.underlying t = some (.slice e)) (hinfo : (P.info? e).map (fun i => (i.zero, i.size, i.bytes)) = some (some z, d.sz, bytes)) (hz : z.cells.size = d.sz) (hs0 : 0 < d.sz) (hb0 : 0 < bytes)
    (v : Value) (xs : List α) (p : α) (cs : List Value) (ok okp : Nat → Prop) (hs : a.eval s = v) (hx : a.eval x = .slice (some ⟨W.heap.size, 0, none⟩) 1 1) (hp : FK d W okp p cs) (hokp : ∀ k, okp k → ok k ∧ some k ≠ v.ownBlock) (hfresh : ∀ k, W.heap.size ≤ k → ok k)
    (HO : N d e W base ok v xs) (HB : Below base w0 W) (hbase : base ≤ W.heap.size) (hl : (xs.length + 1) * bytes ≤ 140737488355328)
    (h : ∀ v1 w1, N d e w1 base ok v1 (xs ++ [p]) → Below base w0 w1 → W.grownBy w1 v.ownBlock → (v1.ownBlock = v.ownBlock ∨ ∃ b, v1.ownBlock = some b ∧ W.heap.size ≤ b) → Kc (a.put o.dst v1) w1) :
    if Region.wanted o (yielded ops a.tmps) = true then Oper.wp P o a (W.alloc (.cells cs.toArray e)) Kc Q else Kc (a.put o.dst undef) (W.alloc (.cells cs.toArray e)) := by
  obtain ⟨h0, rows, hlr, hR, hf⟩ := HO
  refine R_append_step (raw d.sz) base hw s x t e z bytes ho ht hinfo hz hs0 hb0 v rows cs cs (fun _ => True) (fun _ => False) hs hx (FK_raw hp) (fun _ hk => hk.elim) (fun _ _ => trivial) (raw_any hR) HB hbase (by rw [hlr]; exact hl) ?_
  intro v1 w1 hr hb hg hat
  exact h v1 w1 (N_appended h0 hlr hf (ys := [p]) (news := [cs]) rfl (fun j y c hy hc => by
    rcases j with _ | j
    · simp only [List.getElem?_cons_zero, Option.some.injEq] at hy hc
      rw [← hy, ← hc]; exact hp
    · simp at hy) hokp hfresh hr hg hat) hb hg hat
theorem N_lit (d : Kd α) {w0 W : World} (base e : Nat) (hgd : o.guard = none) {N' : Tmp} (_hd : o.dst = some N') {xs : List α} {inner : List Value} {ok okp : Nat → Prop}
    (hrun : (execOp a.eval o).run P W = .ok (.value (.slice (some ⟨W.heap.size, 0, none⟩) xs.length xs.length)) (W.alloc (.cells inner.toArray e)))
    (hrep : Reps (FK d W okp) d.sz xs inner) (hok : ∀ k, okp k → ok k) (hfresh : ok W.heap.size) (HB : Below base w0 W) (hbase : base ≤ W.heap.size) (hm : xs.length ≤ 9223372036854775807)
    (h : ∀ v1 w1, N d e w1 base ok v1 xs → Below base w0 w1 → W.grownBy w1 none → (∃ b, v1.ownBlock = some b ∧ W.heap.size ≤ b) → wpList P ops Q rest (a.put o.dst v1) w1) :
    wpList P ops Q (o :: rest) a W := by
  refine R_lit (raw d.sz) base e hgd _hd (xs := chunks d.sz xs.length inner) (inner := inner) (ok := fun k => k = W.heap.size) (okp := fun _ => False) (by rw [chunks_length]; exact hrun) (reps_raw hrep (fun y c hk => ⟨d.K_len (FK_now hk), d.K_one (FK_now hk)⟩)) (fun _ hk => hk.elim) rfl HB hbase (by rw [chunks_length]; exact hm) ?_
  intro v1 w1 hr hb hg hat
  exact h v1 w1 (N_made hr hg hat (chunks_length _ _ _) (fun j y c hy hc => by rw [chunks_get hc]; exact hrep.2 j y hy) hok hfresh) hb hg hat
end
end Kd
end Go.Proofs.YtfejdnkmmjffcaaW.PrintWords
