import Derived.Test.YtpojamikfcmnoaaMTensorTells0
import Derived.Test.YtpojamikfcmnoaaMTensorTells1
import Derived.Laws.StructEq
import Derived.Test.YtpojamikfcmnoaaProg
import Derived.Below
import Derived.Deep.Draws
import Derived.Deep.AppendLies
import Derived.Maps.AppendAt
import Derived.OwnWalk
import Derived.Laws.BytesArg
import Derived.Laws.MakeOwn
import Derived.Laws.OwnMore
import Derived.Deep.OwnRows
import Derived.Tactics
import Derived.Lib.ConvBytes
import Derived.Laws.Slices
import Derived.WalkKit
import Derived.KernelRfl
import Derived.RowKit3
import Derived.Deep.LoopGhost
import Derived.Deep.QuietTactic
import Derived.BigQuiet
import Derived.WideLaws
import Derived.Deep.DeepCutAuto
import Derived.Deep.CutBlock
import Derived.Deep.RegionHeld3
import Derived.Laws.Rows
import Derived.Lib.AppendStr
import Derived.ArgAppend
import Derived.Laws.IdiomCopy
import Derived.OrdersHeld
import Derived.Laws.BitsLemmas
import Derived.RowKit
import Derived.Laws.FloatBits
namespace Go.Proofs.YtpojamikfcmnoaaW.PrintWords
open Go.RowKit
namespace Kd
section
variable {α : Type} {n : Nat} {d : Kd α} {hs : 0 < d.sz} {w : World} {base : Nat} {ok : Nat → Prop} {xs : List α} {cs : List Value}
end
section
variable {α : Type} {n : Nat} {enc : α → Value} {h1 : ∀ x, (enc x).oneCell' = true} {hs : 0 < (scalar enc h1).sz} {w : World} {base : Nat} {ok : Nat → Prop} {xs : List α} {cs : List Value}
end
end Kd
end Go.Proofs.YtpojamikfcmnoaaW.PrintWords
namespace Go.Proofs.YtpojamikfcmnoaaW.PrintWords
open Go.RowKit
section
variable {P : Program}
end
namespace Kd
section
variable {P : Program} {ops : Array Oper} {rest : List Oper} {o : Oper} {a : Act} {Q : Exit → Act → World → Prop} {Kc : Act → World → Prop} {α : Type}
end
section
variable {α : Type} {d : Kd α} {e : Nat} {w : World} {base : Nat} {ok : Nat → Prop} {v : Value} {xs : List α}
end
section
variable {P : Program} {ops : Array Oper} {rest : List Oper} {o : Oper} {a : Act} {Q : Exit → Act → World → Prop} {Kc : Act → World → Prop} {α : Type}
end
end Kd
end Go.Proofs.YtpojamikfcmnoaaW.PrintWords
namespace Go.Proofs.YtpojamikfcmnoaaW.PrintWords
open Go.RowKit
namespace Kd
structure Heap {α : Type} (d : Kd α) : Prop where
  K : ∀ {w w1 : World} {x : α} {cs : List Value}, (∀ k, k < w.heap.size → w1.heap[k]? = w.heap[k]?) → d.K w x cs → d.K w1 x cs
theorem cell_heap {w w1 : World} (hb : ∀ k, k < w.heap.size → w1.heap[k]? = w.heap[k]?) {a : Addr} {v : Value} (h : w.cell? a = some v) : w1.cell? a = some v := by
  have := hb a.block (World.block_lt_of_cell? w a h)
  simpa [World.cell?, this] using h
theorem Heap.C {α : Type} {d : Kd α} (hd : Heap d) {w w1 : World} {A : Option Addr} {n : Nat} {xs : List α} (hb : ∀ k, k < w.heap.size → w1.heap[k]? = w.heap[k]?) (h : d.C w A n xs) : d.C w1 A n xs :=
  ⟨h.1, h.2.1, fun hn => by
    obtain ⟨ad, e, hc⟩ := h.2.2 hn
    refine ⟨ad, e, fun j p hj => ?_⟩
    obtain ⟨c, hs, hr, hcell⟩ := hc j p hj
    exact ⟨c, hs, hd.K hb hr, fun i u hu => cell_heap hb (hcell i u hu)⟩⟩
section
variable {α : Type} {d : Kd α} {e base g n c : Nat} {ok : Nat → Prop} {w w0 W : World} {A : Option Addr} {xs : List α}
end
end Kd
end Go.Proofs.YtpojamikfcmnoaaW.PrintWords
namespace Go.Proofs.YtpojamikfcmnoaaW.PrintWords
open Go.RowKit
def Kept (w W : World) (S : Nat → Prop) : Prop := w.heap.size ≤ W.heap.size ∧ ∀ i, i < w.heap.size → ¬ S i → W.heap[i]? = w.heap[i]?
section
variable {w W W2 : World} {S S2 S' : Nat → Prop}
theorem Kept.refl (w : World) (S : Nat → Prop) : Kept w w S := ⟨Nat.le_refl _, fun _ _ _ => rfl⟩
theorem Kept.of_below (h : Below w.heap.size w W) (S : Nat → Prop) : Kept w W S := ⟨h.size, fun i hi _ => h.block i hi⟩
theorem Kept.then_ (h : Kept w W S) (k : Kept W W2 S2) (hs : ∀ k, S2 k → S k ∨ w.heap.size ≤ k) : Kept w W2 S :=
  ⟨Nat.le_trans h.1 k.1, fun i hi hn => (k.2 i (Nat.lt_of_lt_of_le hi h.1) (fun h2 => (hs i h2).elim hn (fun h3 => by omega))).trans (h.2 i hi hn)⟩
theorem Kept.below (h : Kept w W S) (hb : Below W.heap.size W W2) : Kept w W2 S := h.then_ (Kept.of_below hb (fun _ => False)) (fun _ hk => hk.elim)
theorem Kept.alloc (h : Kept w W S) (o : Obj) : Kept w (W.alloc o) S := h.below (below_alloc (Below.refl _ _) o)
theorem Kept.drew (h : Kept w W S) : Kept w W.drew S := h
theorem Kept.drewN (h : Kept w W S) (m : Nat) : Kept w (W.drewN m) S := h
theorem Kept.setCell (h : Kept w W S) {p : Addr} (hp : S p.block ∨ w.heap.size ≤ p.block) (u : Value) : Kept w (W.setCell p u) S :=
  h.then_ (S2 := fun k => k = p.block) ⟨by simp [World.setCell], fun i _ hn => Below.heap_setCell W p u i hn⟩ (fun k hk => by rw [hk]; exact hp)
end
namespace Kd
section
variable {α : Type} {d : Kd α} {e base n c : Nat} {ok oki S S2 : Nat → Prop} {w w0 W W1 W2 : World} {v : Value} {A : Option Addr} {xs : List α} {i : Int} {cs : List Value}
theorem R_kept (h : d.R e W base ok v xs) (hk : Kept W W2 S) (hne : ∀ k, ok k → ¬ S k) : d.R e W2 base ok v xs := R_step h (fun k ho hlt => hk.2 k hlt (hne k ho))
end
end Kd
end Go.Proofs.YtpojamikfcmnoaaW.PrintWords
namespace Go.Proofs.YtpojamikfcmnoaaW.PrintWords
open Go.RowKit
def Foot (P : World → Prop) (W : World) (ok : Nat → Prop) : Prop := ∀ W' : World, (∀ k, ok k → k < W.heap.size → W'.heap[k]? = W.heap[k]?) → P W'
theorem heap_lt {W W1 : World} {k : Nat} (h : W1.heap[k]? = W.heap[k]?) (hlt : k < W.heap.size) : k < W1.heap.size := by
  rw [Array.getElem?_eq_getElem hlt] at h
  exact (Array.getElem?_eq_some_iff.1 h).1
namespace Foot
variable {P Q : World → Prop} {W W1 : World} {ok ok' : Nat → Prop}
theorem now (h : Foot P W ok) : P W := h W (fun _ _ _ => rfl)
theorem mono (h : Foot P W ok) (hok : ∀ k, ok k → ok' k) : Foot P W ok' := fun W' hW => h W' (fun k hk hlt => hW k (hok k hk) hlt)
theorem bound (h : Foot P W ok) : Foot P W (fun k => ok k ∧ k < W.heap.size) := fun W' hW => h W' (fun k hk hlt => hW k ⟨hk, hlt⟩ hlt)
theorem step (h : Foot P W ok) (hm : ∀ k, ok k → k < W.heap.size → W1.heap[k]? = W.heap[k]?) : Foot P W1 ok := fun W' hW => h W' (fun k hk hlt => (hW k hk (heap_lt (hm k hk hlt) hlt)).trans (hm k hk hlt))
theorem old (h : Foot P W ok) (hb : Below W.heap.size W W1) : Foot P W1 (fun k => ok k ∧ k < W.heap.size) := (h.bound).step (fun k _ hlt => hb.block k hlt)
end Foot
namespace Kd
def F {α : Type} (d : Kd α) (W : World) (ok : Nat → Prop) (A : Option Addr) (n : Nat) (xs : List α) : Prop := Foot (fun W => d.C W A n xs) W ok
def FK {α : Type} (d : Kd α) (W : World) (ok : Nat → Prop) (x : α) (c : List Value) : Prop := Foot (fun W => d.K W x c) W ok
section
variable {α β : Type} {d : Kd α} {e base n n' cc g N : Nat} {ok ok' okp S : Nat → Prop} {w w0 w1 W W1 : World} {A A' : Option Addr} {u v v1 : Value} {xs : List α} {xs' : List β} {d' : Kd β} {x : α} {c : List Value}
theorem F_now (h : F d W ok A n xs) : d.C W A n xs := Foot.now h
theorem F_mono (h : F d W ok A n xs) (hok : ∀ k, ok k → ok' k) : F d W ok' A n xs := Foot.mono h hok
theorem F_step (h : F d W ok A n xs) (hm : ∀ k, ok k → k < W.heap.size → W1.heap[k]? = W.heap[k]?) : F d W1 ok A n xs := Foot.step h hm
theorem F_below (h : F d W ok A n xs) (hb : Below W.heap.size W W1) : F d W1 ok A n xs := F_step h (fun k _ hlt => hb.block k hlt)
theorem F_alloc (h : F d W ok A n xs) (o : Obj) : F d (W.alloc o) ok A n xs := F_below h (below_alloc (Below.refl _ _) o)
theorem F_drew (h : F d W ok A n xs) : F d W.drew ok A n xs := F_below h (below_drew (Below.refl _ _))
theorem F_drewN (h : F d W ok A n xs) (m : Nat) : F d (W.drewN m) ok A n xs := F_below h (pw_below_drewN (Below.refl _ _) m)
theorem F_nil (d : Kd α) (W : World) (ok : Nat → Prop) : F d W ok none ([] : List α).length [] := fun W' _ => C_nil d W'
theorem F_elder' (h : F d W ok A n xs) (hbase : ∀ k, v.ownBlock = some k → W.heap.size ≤ k) (hb : Below W.heap.size W W1) : F d W1 (fun k => ok k ∧ some k ≠ v.ownBlock) A n xs :=
  F_mono (Foot.old h hb) (fun k hk => ⟨hk.1, fun he => by have := hbase k he.symm; have := hk.2; omega⟩)
theorem R_F (h : d.R e W base ok (.slice A n cc) xs) : F d W ok A n xs := fun W' hW => by
  have h2 := R_reads' (R_step h hW)
  rw [h2.1]
  exact h2.2.2
theorem FK_now (h : FK d W ok x c) : d.K W x c := Foot.now h
theorem FK_mono (h : FK d W ok x c) (hok : ∀ k, ok k → ok' k) : FK d W ok' x c := Foot.mono h hok
theorem FK_bound (h : FK d W ok x c) : FK d W (fun k => ok k ∧ k < W.heap.size) x c := Foot.bound h
theorem FK_step (h : FK d W ok x c) (hm : ∀ k, ok k → k < W.heap.size → W1.heap[k]? = W.heap[k]?) : FK d W1 ok x c := Foot.step h hm
theorem FK_of_M (h : d.M W base ok x c) : FK d W ok x c := fun _ hW => d.K_of_M (M_step h hW)
end
end Kd
end Go.Proofs.YtpojamikfcmnoaaW.PrintWords
namespace Go.Proofs.YtpojamikfcmnoaaW.PrintWords
open Go.RowKit
namespace Kd
def chunks (sz : Nat) (n : Nat) (inner : List Value) : List (List Value) := (List.range n).map fun j => (inner.drop (j * sz)).take sz
theorem chunks_length (sz n : Nat) (inner : List Value) : (chunks sz n inner).length = n := by simp [chunks]
theorem chunks_at {sz n : Nat} {inner : List Value} {j : Nat} (hj : j < n) : (chunks sz n inner)[j]? = some ((inner.drop (j * sz)).take sz) := by simp [chunks, hj]
theorem chunks_get {sz n : Nat} {inner : List Value} {j : Nat} {c : List Value} (h : (chunks sz n inner)[j]? = some c) : c = (inner.drop (j * sz)).take sz := by
  have hj : j < n := by have := (List.getElem?_eq_some_iff.1 h).1; rwa [chunks_length] at this
  rw [chunks_at hj] at h
  injection h with h
  exact h.symm
theorem reps_raw {α : Type} {Rr : α → List Value → Prop} {sz : Nat} {xs : List α} {inner : List Value} (h : Reps Rr sz xs inner) (hR : ∀ x c, Rr x c → c.length = sz ∧ ∀ u ∈ c, u.oneCell' = true) : Reps (fun x cs => cs = x ∧ cs.length = sz ∧ ∀ u ∈ cs, u.oneCell' = true) sz (chunks sz xs.length inner) inner := by
  refine ⟨by rw [chunks_length]; exact h.1, fun j p hj => ?_⟩
  have hjl : j < xs.length := by have := (List.getElem?_eq_some_iff.1 hj).1; rwa [chunks_length] at this
  have hp := chunks_get hj
  exact ⟨hp.symm, hR _ _ (h.2 j _ (List.getElem?_eq_getElem hjl))⟩
section
variable {α : Type} {d : Kd α} {e base n cc g : Nat} {ok ok' okp S : Nat → Prop} {w w1 W W1 : World} {A : Option Addr} {u v v1 : Value} {xs : List α} {x : α} {c : List Value}
def N {α : Type} (d : Kd α) (e : Nat) (w : World) (base : Nat) (ok : Nat → Prop) (v : Value) (xs : List α) : Prop :=
  (∀ k, v.ownBlock = some k → ok k) ∧ ∃ rows : List (List Value), rows.length = xs.length ∧ (raw d.sz).R e w base (fun k => some k = v.ownBlock) v rows ∧ ∀ (j : Nat) (x : α) (c : List Value), xs[j]? = some x → rows[j]? = some c → FK d w (fun k => ok k ∧ some k ≠ v.ownBlock) x c
theorem raw_tight {sz : Nat} {rows : List (List Value)} (h : (raw sz).R e w base ok v rows) : (raw sz).R e w base (fun k => some k = v.ownBlock) v rows := R_tight rfl h
theorem R_N (h : d.R e w base ok v xs) : N d e w base ok v xs := by
  obtain ⟨h0, inner, ho, hr⟩ := h
  refine ⟨h0, chunks d.sz xs.length inner, chunks_length _ _ _, ⟨fun k hk => hk.symm, inner, by rw [chunks_length]; exact ho, reps_raw hr (fun x c hp => ⟨d.K_len (d.K_of_M hp), d.K_one (d.K_of_M hp)⟩)⟩, fun j x c hx hc => ?_⟩
  rw [chunks_get hc]
  exact FK_of_M (hr.2 j x hx)
theorem N_nil (d : Kd α) (e : Nat) (w : World) (base : Nat) (ok : Nat → Prop) : N d e w base ok (.slice none 0 0) [] := R_N (R_nil _ _ _ _ _)
theorem N_mono (h : N d e w base ok v xs) (hok : ∀ k, ok k → ok' k) : N d e w base ok' v xs := by
  obtain ⟨h0, rows, hl, hR, hf⟩ := h
  exact ⟨fun k hk => hok k (h0 k hk), rows, hl, hR, fun j x c hx hc => FK_mono (hf j x c hx hc) (fun k hk => ⟨hok k hk.1, hk.2⟩)⟩
theorem N_lt (h : N d e w base ok v xs) : ∀ k, v.ownBlock = some k → k < w.heap.size := by
  obtain ⟨_, rows, _, hR, _⟩ := h
  exact R_lt hR
theorem N_base (h : N d e w base ok v xs) : ∀ k, v.ownBlock = some k → base ≤ k := by
  obtain ⟨_, rows, _, hR, _⟩ := h
  exact R_base hR
theorem N_bound (h : N d e w base ok v xs) : N d e w base (fun k => ok k ∧ k < w.heap.size) v xs := by
  have hlt := N_lt h
  obtain ⟨h0, rows, hl, hR, hf⟩ := h
  exact ⟨fun k hk => ⟨h0 k hk, hlt k hk⟩, rows, hl, hR, fun j x c hx hc => FK_mono (FK_bound (hf j x c hx hc)) (fun k hk => ⟨⟨hk.1.1, hk.2⟩, hk.1.2⟩)⟩
theorem N_lower {base' : Nat} (h : N d e w base ok v xs) (hb : base' ≤ base) : N d e w base' ok v xs := by
  obtain ⟨h0, rows, hl, hR, hf⟩ := h
  exact ⟨h0, rows, hl, R_lower hR hb, hf⟩
theorem N_step (h : N d e w base ok v xs) (hm : ∀ k, ok k → k < w.heap.size → w1.heap[k]? = w.heap[k]?) : N d e w1 base ok v xs := by
  obtain ⟨h0, rows, hl, hR, hf⟩ := h
  exact ⟨h0, rows, hl, R_step hR (fun k hk hlt => hm k (h0 k hk.symm) hlt), fun j x c hx hc => FK_step (hf j x c hx hc) (fun k hk hlt => hm k hk.1 hlt)⟩
theorem N_below (h : N d e w base ok v xs) (hb : Below w.heap.size w w1) : N d e w1 base ok v xs := N_step h (fun k _ hk => hb.block k hk)
theorem N_alloc (h : N d e w base ok v xs) (o : Obj) : N d e (w.alloc o) base ok v xs := N_below h (below_alloc (Below.refl _ _) o)
theorem N_drew (h : N d e w base ok v xs) : N d e w.drew base ok v xs := N_below h (below_drew (Below.refl _ _))
theorem N_drewN (h : N d e w base ok v xs) (m : Nat) : N d e (w.drewN m) base ok v xs := N_below h (pw_below_drewN (Below.refl _ _) m)
theorem N_elder' (h : N d e W base ok v xs) (hbase : ∀ k, u.ownBlock = some k → W.heap.size ≤ k) (hb : Below W.heap.size W w1) : N d e w1 base (fun k => ok k ∧ some k ≠ u.ownBlock) v xs :=
  N_mono (N_below (N_bound h) hb) (fun k hk => ⟨hk.1, fun he => by have := hbase k he.symm; have := hk.2; omega⟩)
theorem N_slice (h : N d e w base ok v xs) : ∃ A c, v = .slice A xs.length c := by
  obtain ⟨_, rows, hl, hR, _⟩ := h
  obtain ⟨A, c, he⟩ := R_slice hR
  exact ⟨A, c, by rw [he, hl]⟩
theorem N_reads' {n c : Nat} (h : N d e w base ok (.slice A n c) xs) : n = xs.length ∧ n ≤ c ∧ d.C w A xs.length xs := by
  obtain ⟨_, rows, hl, hR, hf⟩ := h
  obtain ⟨hn, hc, hC⟩ := R_reads' hR
  refine ⟨by omega, hc, ?_⟩
  rw [hl] at hC
  refine ⟨rfl, hC.2.1, fun hp => ?_⟩
  obtain ⟨ad, he, hcell⟩ := hC.2.2 hp
  refine ⟨ad, he, fun j p hj => ?_⟩
  have hjl : j < rows.length := by have := (List.getElem?_eq_some_iff.1 hj).1; omega
  obtain ⟨c', hcl, hK, hcc⟩ := hcell j _ (List.getElem?_eq_getElem hjl)
  have hk := FK_now (hf j p _ hj (List.getElem?_eq_getElem hjl))
  refine ⟨c', hcl, ?_, hcc⟩
  rw [show c' = rows[j] from hK.1]
  exact hk
theorem N_elem {n cap : Nat} (h : N d e W base ok (.slice (some ⟨g, 0, none⟩) n cap) xs) (z : α) (i : Int) (h0 : 0 ≤ i) (h1 : i < n) :
    ∃ c, c.length = d.sz ∧ FK d W (fun k => ok k ∧ k ≠ g) (xs.getD i.toNat z) c ∧ (∀ j u, c[j]? = some u → W.cell? ⟨g, i.toNat * d.sz + j, none⟩ = some u) ∧ ∀ j, W.frozen? ⟨g, i.toNat * d.sz + j, none⟩ = false := by
  obtain ⟨_, rows, hl, hR, hf⟩ := h
  have hn := (R_reads' hR).1
  obtain ⟨c, hcl, hM, hcc, hfr⟩ := R_elem hR [] i h0 h1
  have hil : i.toNat < rows.length := by omega
  have hil' : i.toNat < xs.length := by omega
  have hc : c = rows[i.toNat] := by
    have h2 := hM.1
    rwa [List.getD_eq_getElem?_getD, List.getElem?_eq_getElem hil] at h2
  refine ⟨c, hcl, ?_, hcc, hfr⟩
  rw [List.getD_eq_getElem?_getD, List.getElem?_eq_getElem hil']
  exact FK_mono (hf _ _ _ (List.getElem?_eq_getElem hil') (by rw [hc]; exact List.getElem?_eq_getElem hil)) (fun k hk => ⟨hk.1, fun he => hk.2 (by rw [he]; simp [Value.ownBlock])⟩)
theorem N_get {ad : Addr} {n cap : Nat} (h : N d e W base ok (.slice (some ad) n cap) xs) (z : α) (i : Int) (h0 : 0 ≤ i) (h1 : i < n) :
    ∃ c, c.length = d.sz ∧ FK d W (fun k => ok k ∧ some k ≠ (Value.slice (some ad) n cap).ownBlock) (xs.getD i.toNat z) c ∧ ∀ j u, c[j]? = some u → W.cell? (ad.add (i.toNat * d.sz + j)) = some u := by
  obtain ⟨g, rfl⟩ : ∃ g, ad = ⟨g, 0, none⟩ := by
    obtain ⟨_, rows, _, hR, _⟩ := h
    exact R_head hR
  obtain ⟨c, hcl, hM, hcc, _⟩ := N_elem h z i h0 h1
  refine ⟨c, hcl, FK_mono hM (fun k hk => ⟨hk.1, fun he => hk.2 (by simpa [Value.ownBlock] using he)⟩), fun j u hu => ?_⟩
  rw [add_at, Nat.zero_add]
  exact hcc j u hu
end
end Kd
end Go.Proofs.YtpojamikfcmnoaaW.PrintWords
namespace Go.Proofs.YtpojamikfcmnoaaW.PrintWords
open Go.RowKit
namespace Kd
section
variable {α : Type} {d : Kd α} {W : World} {g n : Nat} {S ok : Nat → Prop} {A : Option Addr} {ad : Addr} {xs : List α}
end
end Kd
end Go.Proofs.YtpojamikfcmnoaaW.PrintWords
namespace Go.Proofs.YtpojamikfcmnoaaW.PrintWords
open Go.RowKit
section
variable {w w' u : World} {m B g : Nat} {o : Obj} {row : Option Nat} {S : Nat → Prop} {a : Addr} {v : Value}
end
namespace Kd
section
variable {α : Type} {d : Kd α} {e base n m : Nat} {ok : Nat → Prop} {w w' : World} {v : Value} {A : Option Addr} {xs : List α}
end
end Kd
end Go.Proofs.YtpojamikfcmnoaaW.PrintWords
namespace Go.Proofs.YtpojamikfcmnoaaW.PrintWords
open Go.RowKit
section
variable {P : Program} {d : Nat} {xs ys : Array Value} {f : Field} {fs : List Field} {a b : Value} {r s : Bool} {w : World}
end
end Go.Proofs.YtpojamikfcmnoaaW.PrintWords
namespace Go.Proofs.YtpojamikfcmnoaaW.PrintWords
theorem Reps.one {α : Type} {R : α → List Value → Prop} {ps : List α} {cs : List Value} {p : α} {v : Value} (hp : R p [v]) (h : Reps R 1 ps cs) : Reps R 1 (p :: ps) (v :: cs) := by
  refine ⟨by simp [h.1], fun j q hq => ?_⟩
  cases j with
  | zero =>
    simp only [List.getElem?_cons_zero, Option.some.injEq] at hq
    subst hq
    simpa using hp
  | succ j =>
    simp only [List.getElem?_cons_succ] at hq
    have h1 := h.2 j q hq
    simpa [Nat.mul_one] using h1
end Go.Proofs.YtpojamikfcmnoaaW.PrintWords
namespace Go.Proofs.YtpojamikfcmnoaaW.PrintLast
section
variable {P : Program} {ops : Array Oper} {Q : Exit → Act → World → Prop} {md : Region.Mode} {T : Bool × List (List Nat × List Nat)} {B : List Nat} {O : List Nat} {b : Nat → Bool} {i j n : Nat}
end
end Go.Proofs.YtpojamikfcmnoaaW.PrintLast
namespace Go.Proofs.YtpojamikfcmnoaaW.PrintWords
open Go.RowKit
end Go.Proofs.YtpojamikfcmnoaaW.PrintWords
namespace Go.Proofs.YtpojamikfcmnoaaW.PrintLast
section
variable {ops : Array Oper} {a : Act} {o og : Oper} {g : Nat} {t : Tmp} {u : Bool}
end
end Go.Proofs.YtpojamikfcmnoaaW.PrintLast
namespace Go.Proofs.YtpojamikfcmnoaaW.PrintWords
open Go.RowKit
section
variable {P : Program} {ops : Array Oper} {rest : List Oper} {o : Oper} {a : Act} {Q : Exit → Act → World → Prop} {W : World}
theorem gate_guard (hw : Region.wanted o (yielded ops a.tmps) = true) (h : wpList P ops Q ({ o with guard := none } :: rest) a W) : wpList P ops Q (o :: rest) a W := by
  have h1 : Region.wanted { o with guard := none } (yielded ops a.tmps) = true := rfl
  unfold wpList at h ⊢
  rw [if_pos h1] at h
  rw [if_pos hw]
  exact h
end
end Go.Proofs.YtpojamikfcmnoaaW.PrintWords
namespace Go.Proofs.YtpojamikfcmnoaaW.PrintWords
open Go.RowKit
namespace Kd
section
variable {α : Type} {d : Kd α} {e base n cap g : Nat} {ok ok' okp : Nat → Prop} {w w1 W : World} {v v1 : Value} {xs ys : List α}
theorem N_made {rows : List (List Value)} (hR : (raw d.sz).R e w1 base (fun k => k = W.heap.size) v1 rows) (hg : W.grownBy w1 none) (hat : ∃ b, v1.ownBlock = some b ∧ W.heap.size ≤ b) (hl : rows.length = xs.length) (hf : ∀ (j : Nat) (x : α) (c : List Value), xs[j]? = some x → rows[j]? = some c → FK d W okp x c)
    (hok : ∀ k, okp k → ok k) (hfresh : ok W.heap.size) : N d e w1 base ok v1 xs := by
  obtain ⟨b, hb, hle⟩ := hat
  refine ⟨fun k hk => by rw [hR.1 k hk]; exact hfresh, rows, hl, raw_tight hR, fun j x c hx hc => ?_⟩
  refine FK_mono (FK_step (FK_bound (hf j x c hx hc)) (fun k hk hlt => hg.block k hlt (by simp))) (fun k hk => ⟨hok k hk.1, fun he => ?_⟩)
  rw [hb] at he
  injection he with he
  have := hk.2
  omega
end
section
variable {P : Program} {ops : Array Oper} {rest : List Oper} {o : Oper} {a : Act} {Q : Exit → Act → World → Prop} {Kc : Act → World → Prop} {α : Type}
theorem N_lit (d : Kd α) {w0 W : World} (base e : Nat) (hgd : o.guard = none) {N' : Tmp} (_hd : o.dst = some N') {xs : List α} {inner : List Value} {ok okp : Nat → Prop}
    (hrun : (execOp a.eval o).run P W = .ok (.value (.slice (some ⟨W.heap.size, 0, none⟩) xs.length xs.length)) (W.alloc (.cells inner.toArray e)))
    (hrep : Reps (FK d W okp) d.sz xs inner) (hok : ∀ k, okp k → ok k) (hfresh : ok W.heap.size) (HB : Below base w0 W) (hbase : base ≤ W.heap.size) (hm : xs.length ≤ 9223372036854775807)
    (h : ∀ v1 w1, N d e w1 base ok v1 xs → Below base w0 w1 → W.grownBy w1 none → (∃ b, v1.ownBlock = some b ∧ W.heap.size ≤ b) → wpList P ops Q rest (a.put o.dst v1) w1) :
    wpList P ops Q (o :: rest) a W := by
  refine R_lit (raw d.sz) base e hgd _hd (xs := chunks d.sz xs.length inner) (inner := inner) (ok := fun k => k = W.heap.size) (okp := fun _ => False) (by rw [chunks_length]; exact hrun) (reps_raw hrep (fun y c hk => ⟨d.K_len (FK_now hk), d.K_one (FK_now hk)⟩)) (fun _ hk => hk.elim) rfl HB hbase (by rw [chunks_length]; exact hm) ?_
  intro v1 w1 hr hb hg hat
  exact h v1 w1 (N_made hr hg hat (chunks_length _ _ _) (fun j y c hy hc => by rw [chunks_get hc]; exact hrep.2 j y hy) hok hfresh) hb hg hat
end
end Kd
end Go.Proofs.YtpojamikfcmnoaaW.PrintWords
namespace Go.Proofs.YtpojamikfcmnoaaW.PrintMore
open Go.RowKit Go.Proofs.YtpojamikfcmnoaaW.PrintWords
namespace Kd
open Go.Proofs.YtpojamikfcmnoaaW.PrintWords.Kd
end Kd
namespace Kd
open Go.Proofs.YtpojamikfcmnoaaW.PrintWords.Kd
section
variable {α : Type} {d : Kd α} {e base g N : Nat} {ok : Nat → Prop} {W w1 : World} {u v : Value} {xs : List α}
end
end Kd
theorem max2_int (k k' : IntKind) (x y : Int) : Builtin.max2 (.int k x) (.int k' y) = pure (.int k (if x < y then y else x)) := by simp only [Builtin.max2, gt_iff_lt]
theorem min2_int (k k' : IntKind) (x y : Int) : Builtin.min2 (.int k x) (.int k' y) = pure (.int k (if y < x then y else x)) := by simp only [Builtin.min2]
theorem max_two (ats : Array TypeId) (ty : TypeId) (a b : Value) : Builtin.max_ ats ty #[a, b] = (Builtin.max2 a b >>= fun s => pure s) := by simp only [Builtin.max_, List.foldlM_cons, List.foldlM_nil]
theorem min_two (ats : Array TypeId) (ty : TypeId) (a b : Value) : Builtin.min_ ats ty #[a, b] = (Builtin.min2 a b >>= fun s => pure s) := by simp only [Builtin.min_, List.foldlM_cons, List.foldlM_nil]
theorem max_three (ats : Array TypeId) (ty : TypeId) (a b c : Value) : Builtin.max_ ats ty #[a, b, c] = (Builtin.max2 a b >>= fun s => Builtin.max2 s c >>= fun s => pure s) := by simp only [Builtin.max_, List.foldlM_cons, List.foldlM_nil]
theorem min_three (ats : Array TypeId) (ty : TypeId) (a b c : Value) : Builtin.min_ ats ty #[a, b, c] = (Builtin.min2 a b >>= fun s => Builtin.min2 s c >>= fun s => pure s) := by simp only [Builtin.min_, List.foldlM_cons, List.foldlM_nil]
theorem max_four (ats : Array TypeId) (ty : TypeId) (a b c d : Value) : Builtin.max_ ats ty #[a, b, c, d] = (Builtin.max2 a b >>= fun s => Builtin.max2 s c >>= fun s => Builtin.max2 s d >>= fun s => pure s) := by simp only [Builtin.max_, List.foldlM_cons, List.foldlM_nil]
theorem min_four (ats : Array TypeId) (ty : TypeId) (a b c d : Value) : Builtin.min_ ats ty #[a, b, c, d] = (Builtin.min2 a b >>= fun s => Builtin.min2 s c >>= fun s => Builtin.min2 s d >>= fun s => pure s) := by simp only [Builtin.min_, List.foldlM_cons, List.foldlM_nil]
end Go.Proofs.YtpojamikfcmnoaaW.PrintMore
namespace Go.Proofs.YtpojamikfcmnoaaW.PrintWords
open Go.RowKit
section
variable {P : Program} {ops : Array Oper} {rest : List Oper} {o : Oper} {a : Act} {Q : Exit → Act → World → Prop} {W : World}
theorem gate_callee {f : FuncId} {as_ : Array Operand} {ts : Array TypeId} (_ho : o.op = .call { callee := .value (.func f), args := as_, argTypes := ts }) (h : wpList P ops Q (o :: rest) a W) : wpList P ops Q (o :: rest) a W := h
theorem gate_builtin {b : Builtin} {xs : Array Operand} {ts : Array TypeId} (_ho : o.op = .call { callee := .builtin b, args := xs, argTypes := ts }) (h : wpList P ops Q (o :: rest) a W) : wpList P ops Q (o :: rest) a W := h
end
def mx (a b : Int) : Int := if a < b then b else a
def mn (a b : Int) : Int := if b < a then b else a
def shl (k : IntKind) (x y : Int) : Int := k.wrap (x * 2 ^ min y.toNat k.bits)
theorem shl_small {k : IntKind} {x y j : Int} (h : shl k x y = j) (hy : y ≤ k.bits) : k.wrap (x * 2 ^ y.toNat) = j := by rw [← h]; unfold shl; rw [Nat.min_eq_left (by omega)]
theorem drewN_self (w : World) (n : Nat) : w.drewN n = w.drewN n := rfl
namespace Kd
section
variable {α : Type} {d : Kd α} {e base : Nat} {ok : Nat → Prop} {W w1 : World} {v : Value} {xs : List α}
end
section
variable {α : Type} {d : Kd α} {e base g n cap : Nat} {ok oki okp : Nat → Prop} {W : World} {xs : List α} {i : Int} {c : List Value}
end
section
variable {α : Type} {d : Kd α} {e base b b' g N : Nat} {ok ok1 : Nat → Prop} {W W2 w1 : World} {u v : Value} {xs ys : List α} {S : Nat → Prop}
end
end Kd
end Go.Proofs.YtpojamikfcmnoaaW.PrintWords
namespace Go.Proofs.YtpojamikfcmnoaaW.PrintWords
open Go.RowKit
namespace Kd
def V {α : Type} (d : Kd α) (_e : Nat) (W : World) (_base : Nat) (ok : Nat → Prop) (v : Value) (xs : List α) : Prop := ∃ A c, v = .slice A xs.length c ∧ xs.length ≤ c ∧ F d W ok A xs.length xs
section
variable {α β : Type} {d : Kd α} {e base base' n m c g N' lo hi : Nat} {ok ok' S : Nat → Prop} {w W w1 : World} {A : Option Addr} {ad : Addr} {u v v1 : Value} {xs : List α}
theorem V_map (h : V d e W base ok v xs) (hF : ∀ A, F d W ok A xs.length xs → F d w1 ok' A xs.length xs) : V d e w1 base' ok' v xs := by
  obtain ⟨A, c, hv, hl, hf⟩ := h
  exact ⟨A, c, hv, hl, hF A hf⟩
theorem V_mk (hl : xs.length ≤ c) (hf : F d W ok A xs.length xs) : V d e W base ok (.slice A xs.length c) xs := ⟨A, c, rfl, hl, hf⟩
theorem V_at (h : V d e W base ok (.slice A n c) xs) : n = xs.length ∧ n ≤ c ∧ F d W ok A xs.length xs := by
  obtain ⟨A', c', hv, hl, hf⟩ := h
  injection hv with ha hn hc
  subst ha; subst hc
  exact ⟨hn, by rw [hn]; exact hl, hf⟩
theorem V_reads' (h : V d e W base ok (.slice A n c) xs) : n = xs.length ∧ n ≤ c ∧ d.C W A xs.length xs := ⟨(V_at h).1, (V_at h).2.1, F_now (V_at h).2.2⟩
theorem V_F (h : V d e W base ok (.slice A n c) xs) : F d W ok A n xs := by
  obtain ⟨hn, _, hf⟩ := V_at h
  rw [hn]
  exact hf
theorem V_nil (d : Kd α) (e : Nat) (W : World) (base : Nat) (ok : Nat → Prop) : V d e W base ok (.slice none 0 0) [] := ⟨none, 0, rfl, Nat.le_refl _, F_nil d W ok⟩
theorem R_V (h : d.R e W base ok v xs) : V d e W base' ok v xs := by
  obtain ⟨A, c, rfl⟩ := R_slice h
  exact ⟨A, c, rfl, (R_reads' h).2.1, R_F h⟩
theorem V_mono (h : V d e W base ok v xs) (hok : ∀ k, ok k → ok' k) : V d e W base ok' v xs := V_map h (fun _ hf => F_mono hf hok)
theorem V_below (h : V d e W base ok v xs) (hb : Below W.heap.size W w1) : V d e w1 base ok v xs := V_map h (fun _ hf => F_below hf hb)
theorem V_alloc (h : V d e W base ok v xs) (o : Obj) : V d e (W.alloc o) base ok v xs := V_map h (fun _ hf => F_alloc hf o)
theorem V_drew (h : V d e W base ok v xs) : V d e W.drew base ok v xs := V_map h (fun _ hf => F_drew hf)
theorem V_drewN (h : V d e W base ok v xs) (m : Nat) : V d e (W.drewN m) base ok v xs := V_map h (fun _ hf => F_drewN hf m)
theorem V_elder' (h : V d e W base ok v xs) (hbase : ∀ k, u.ownBlock = some k → W.heap.size ≤ k) (hb : Below W.heap.size W w1) : V d e w1 base (fun k => ok k ∧ some k ≠ u.ownBlock) v xs := V_map h (fun _ hf => F_elder' hf hbase hb)
theorem FK_slice_open {l : List α} {cs : List Value} (h : FK (Kd.slice e d) W ok l cs) : ∃ A c, cs = [.slice A l.length c] ∧ l.length ≤ c ∧ F d W ok A l.length l := by
  obtain ⟨A, c, rfl, hl, _⟩ := FK_now h
  refine ⟨A, c, rfl, hl, fun W' hW => ?_⟩
  obtain ⟨A', c', he, _, g'⟩ := h W' hW
  injection he with he _
  injection he with ha _ _
  rw [ha]
  exact g'
theorem FK_slice_mk {l : List α} (hl : l.length ≤ c) (hf : F d W ok A l.length l) : FK (Kd.slice e d) W ok l [.slice A l.length c] := fun W' hW => ⟨A, c, rfl, hl, hf W' hW⟩
theorem R_newM {M : Nat → Prop} (h : d.R e w1 W.heap.size ok v xs) (hle : w.heap.size ≤ W.heap.size) (hM : ∀ k, w.heap.size ≤ k → M k) : d.R e w1 W.heap.size (fun k => M k ∧ ok k) v xs := R_mono (R_bound h) (fun k hk => ⟨hM k (Nat.le_trans hle hk.2.1), hk.1⟩)
end
end Kd
end Go.Proofs.YtpojamikfcmnoaaW.PrintWords
namespace Go.Proofs.Ytpojamikfcmnoaa.X
open Go.RowKit Go.Proofs.YtpojamikfcmnoaaW.PrintWords Go.Proofs.YtpojamikfcmnoaaW.PrintLast Go.Proofs.YtpojamikfcmnoaaW.PrintMore
attribute [local go_sem] max2_int min2_int max_two min_two max_three min_three max_four min_four
set_option linter.unusedVariables false
set_option linter.unusedSimpArgs false
def errW : Option Int → Value
  | none => .nilIface
  | some c => .iface 0 (.int .i64 c)
theorem errW_none : errW none = .nilIface := rfl
theorem errW_some (c : Int) : errW (some c) = .iface 0 (.int .i64 c) := rfl
theorem info2 : (Try.prog.info? 2).map (fun i => (i.zero, i.size, i.bytes)) = some (some (.int .i64 0), 1, 8) := by kernel_rfl
theorem info4 : (Try.prog.info? 4).map (fun i => (i.zero, i.size, i.bytes)) = some (some (.bool false), 1, 1) := by kernel_rfl
theorem info26 : (Try.prog.info? 26).map (fun i => (i.zero, i.size, i.bytes)) = some (some (.complex .f64 0 0), 1, 16) := by kernel_rfl
def encC (z : Nat × Nat) : Value := .complex .f64 z.1 z.2
def kdC : Kd (Nat × Nat) := Kd.scalar encC (fun _ => rfl)
theorem at_kdC {w : World} {A : Option Addr} {n : Nat} {xs : List (Nat × Nat)} (h : kdC.C w A n xs) (i : Int) (h0 : 0 ≤ i) (h1 : i < n) : ∃ ad, A = some ad ∧ w.cell? (ad.add i.toNat) = some (.complex .f64 (rdOf ((0, 0) : Nat × Nat) xs i).1 (rdOf ((0, 0) : Nat × Nat) xs i).2) :=
  ReadsOf.at_ (Kd.reads_of_C (enc := encC) (d := ((0, 0) : Nat × Nat)) (h1 := fun _ => rfl) h) i h0 h1
def ceq (x y : Nat × Nat) : Bool := (FloatKind.f64.format.order x.1 y.1 == some .eq) && (FloatKind.f64.format.order x.2 y.2 == some .eq)
theorem ceq_fold (a b c d : Nat) : ((FloatKind.f64.format.order a c == some .eq) && (FloatKind.f64.format.order b d == some .eq)) = ceq (a, b) (c, d) := rfl
def rd_L2 (xs : List (List Int)) (i : Int) : (List Int) := xs.getD i.toNat ([] : List Int)
theorem at_L2 {w : World} {A : Option Addr} {n : Nat} {xs : List (List Int)} (h : Kd.C (Kd.slice 2 (Kd.int .i64)) w A n xs) (i : Int) (h0 : 0 ≤ i) (h1 : i < n) : ∃ ad A0 c0, A = some ad ∧ w.cell? (ad.add i.toNat) = some (.slice A0 (rd_L2 xs i).length c0) ∧ (rd_L2 xs i).length ≤ c0 ∧ (Kd.int .i64).C w A0 (rd_L2 xs i).length (rd_L2 xs i) := by
  obtain ⟨ad, c, e, _, hK, hc0⟩ := Kd.C_get h ([] : List Int) i h0 h1
  have hc : ∀ j u, c[j]? = some u → w.cell? (ad.add (i.toNat * 1 + j)) = some u := hc0
  obtain ⟨A0, c0, rfl, l0, g0⟩ := hK
  exact ⟨ad, A0, c0, e, by have hq := hc 0 _ rfl; rwa [Nat.mul_one, Nat.add_zero] at hq, l0, g0⟩
structure S62 where
  f0 : ByteArray
  f1 : Int
  f2 : (List Int)
  f3 : ByteArray
def k62 : Kd S62 := Kd.iso (Kd.pair Kd.string (Kd.pair (Kd.int .i64) (Kd.pair (Kd.slice 2 (Kd.int .i64)) Kd.string))) (fun x : S62 => (x.f0, x.f1, x.f2, x.f3))
theorem k62_open {w : World} {x : S62} {cs : List Value} (h : k62.K w x cs) : ∃ A2 c2, cs = [.string x.f0, .int .i64 x.f1, .slice A2 x.f2.length c2, .string x.f3] ∧ x.f2.length ≤ c2 ∧ (Kd.int .i64).C w A2 x.f2.length x.f2 := by
  obtain ⟨_, _, rfl, rfl, ⟨_, _, rfl, rfl, ⟨_, _, rfl, ⟨A2, c2, rfl, l2, g2⟩, rfl⟩⟩⟩ := h
  exact ⟨A2, c2, rfl, l2, g2⟩
structure S23 where
  f0 : Int
  f1 : Int
structure S7 where
  f0 : Int
  f1 : Int
  f2 : Bool
  f3 : Int
def k7 : Kd S7 := Kd.iso (Kd.pair (Kd.int .i64) (Kd.pair (Kd.int .i64) (Kd.pair Kd.bool (Kd.int .u8)))) (fun x : S7 => (x.f0, x.f1, x.f2, x.f3))
structure S8 where
  f0 : Int
  f1 : Int
  f2 : Bool
  f3 : Int
structure S13 where
  f0 : ByteArray
  f1 : Int
structure S14 where
  f0 : ByteArray
  f1 : Int
structure S22 where
  f0 : Int
  f1 : Int
structure S61 where
  f0 : ByteArray
  f1 : Int
  f2 : (List Int)
  f3 : ByteArray
structure S63 where
  f0 : ByteArray
  f1 : Int
  f2 : (List Int)
  f3 : ByteArray
structure S64 where
  f0 : ByteArray
  f1 : Int
  f2 : (List Int)
  f3 : ByteArray
structure S120 where
  f0 : Int
  f1 : ByteArray
structure S121 where
  f0 : Int
  f1 : ByteArray
end Go.Proofs.Ytpojamikfcmnoaa.X
namespace Go.Proofs.Ytpojamikfcmnoaa.X
open Go.RowKit Go.Proofs.YtpojamikfcmnoaaW.PrintWords Go.Proofs.YtpojamikfcmnoaaW.PrintLast Go.Proofs.YtpojamikfcmnoaaW.PrintMore
attribute [local go_sem] max2_int min2_int max_two min_two max_three min_three max_four min_four
set_option linter.unusedVariables false
set_option linter.unusedSimpArgs false
theorem log2_mul_pow (m j : Nat) (h : m ≠ 0) : (m * 2 ^ j).log2 = m.log2 + j := by
  have h1 : m * 2 ^ j ≠ 0 := Nat.mul_ne_zero h (Nat.pos_iff_ne_zero.1 (Nat.two_pow_pos j))
  rw [Nat.log2_eq_iff h1, Nat.pow_add, show m.log2 + j + 1 = (m.log2 + 1) + j by omega, Nat.pow_add]
  have := (Nat.log2_eq_iff h).1 rfl
  exact ⟨Nat.mul_le_mul_right _ this.1, (Nat.mul_lt_mul_right (Nat.two_pow_pos j)).2 this.2⟩
theorem cut_nought (way : Ieee.Toward) (s : Bool) (n : Nat) : way.cut s n 0 = n := by
  unfold Ieee.Toward.cut
  have e : 1 <<< min 0 (n.log2 + 2) = 1 := by rw [Nat.zero_min]; rfl
  simp only [e, Nat.div_one, Nat.mod_one]
  cases way <;> simp
theorem cut_even (s : Bool) (n j d : Nat) (hn : n ≠ 0) : Ieee.Toward.even.cut s (n * 2 ^ j) (d + j) = Ieee.Toward.even.cut s n d := by
  have hj : 0 < 2 ^ j := Nat.two_pow_pos j
  unfold Ieee.Toward.cut
  rw [log2_mul_pow n j hn, show min (d + j) (n.log2 + j + 2) = min d (n.log2 + 2) + j by omega, Nat.one_shiftLeft, Nat.one_shiftLeft, Nat.pow_add]
  generalize 2 ^ min d (n.log2 + 2) = g
  simp only [Nat.mul_div_mul_right _ _ hj, Nat.mul_mod_mul_right]
  congr 2
  have e1 : (g * 2 ^ j < 2 * (n % g * 2 ^ j)) ↔ (g < 2 * (n % g)) := by
    rw [← Nat.mul_assoc]; exact Nat.mul_lt_mul_right hj
  have e2 : (g * 2 ^ j = 2 * (n % g * 2 ^ j)) ↔ (g = 2 * (n % g)) := by
    rw [← Nat.mul_assoc]; exact ⟨fun h => Nat.eq_of_mul_eq_mul_right hj h, fun h => by rw [← h]⟩
  rw [decide_eq_decide.2 e1]
  congr 2
  rw [Bool.eq_iff_iff, beq_iff_eq, beq_iff_eq]; exact e2
theorem cut_back (s : Bool) (n j : Nat) (hn : n ≠ 0) : Ieee.Toward.even.cut s (n * 2 ^ j) j = n := by
  have := cut_even s n j 0 hn
  rw [Nat.zero_add, cut_nought] at this; exact this
theorem nearest_scale (f : Ieee.Format) (s : Bool) (m j : Nat) (p : Int) : f.nearest s (m * 2 ^ j) p = f.nearest s m (p + j) := by
  by_cases hm : m = 0
  · subst hm; rw [Nat.zero_mul]; unfold Ieee.Format.nearest; rw [if_pos rfl, if_pos rfl]
  have hm' : m * 2 ^ j ≠ 0 := Nat.mul_ne_zero hm (Nat.pos_iff_ne_zero.1 (Nat.two_pow_pos j))
  unfold Ieee.Format.nearest
  rw [if_neg hm, if_neg hm', log2_mul_pow m j hm, show p + ((m.log2 + j : Nat) : Int) = p + j + (m.log2 : Int) by omega]
  generalize max (p + j + (m.log2 : Int) - f.fractionBits) f.leastPlace = last
  have key : Ieee.Toward.even.cut s ((m * 2 ^ j) <<< (p - last).toNat) (last - p).toNat = Ieee.Toward.even.cut s (m <<< (p + j - last).toNat) (last - (p + j)).toNat := by
    rw [Nat.shiftLeft_eq, Nat.shiftLeft_eq]
    by_cases h1 : last ≤ p
    · rw [show (last - p).toNat = 0 by omega, show (last - (p + j)).toNat = 0 by omega, cut_nought, cut_nought, Nat.mul_assoc, ← Nat.pow_add]
      congr 2; omega
    · by_cases h2 : p + j ≤ last
      · rw [show (p - last).toNat = 0 by omega, show (p + j - last).toNat = 0 by omega, Nat.pow_zero, Nat.mul_one, Nat.mul_one, show (last - p).toNat = (last - (p + j)).toNat + j by omega, cut_even s m j _ hm]
      · rw [show (p - last).toNat = 0 by omega, show (last - (p + j)).toNat = 0 by omega, Nat.pow_zero, Nat.mul_one, cut_nought]
        have e : m * 2 ^ j = (m * 2 ^ (p + j - last).toNat) * 2 ^ (last - p).toNat := by
          rw [Nat.mul_assoc, ← Nat.pow_add]; congr 2; omega
        rw [e, cut_back]
        exact Nat.mul_ne_zero hm (Nat.pos_iff_ne_zero.1 (Nat.two_pow_pos _))
  simp only [key]
def Num (f : Ieee.Format) (b : Nat) (s : Bool) (V : Nat) : Prop := ∃ m p, f.read b = .number s m p ∧ f.leastPlace ≤ p ∧ m * 2 ^ (p - f.leastPlace).toNat = V
theorem nearest_value (f : Ieee.Format) (s : Bool) (m k : Nat) (p q : Int) (hp : f.leastPlace ≤ p) (hq : f.leastPlace ≤ q) (h : m * 2 ^ (p - f.leastPlace).toNat = k * 2 ^ (q - f.leastPlace).toNat) : f.nearest s m p = f.nearest s k q := by
  by_cases hpq : p ≤ q
  · have e : m = k * 2 ^ (q - p).toNat := by
      refine Nat.eq_of_mul_eq_mul_right (Nat.two_pow_pos (p - f.leastPlace).toNat) ?_
      rw [h, Nat.mul_assoc, ← Nat.pow_add]; congr 2; omega
    rw [e, nearest_scale]; congr 1; omega
  · have e : k = m * 2 ^ (p - q).toNat := by
      refine Nat.eq_of_mul_eq_mul_right (Nat.two_pow_pos (q - f.leastPlace).toNat) ?_
      rw [← h, Nat.mul_assoc, ← Nat.pow_add]; congr 2; omega
    rw [e, nearest_scale]; congr 1; omega
theorem read_word (f : Ieee.Format) (s : Bool) (r : Nat) (h : r < f.signWeight) : (f.word s r / f.signWeight % 2 == 1) = s ∧ f.word s r % f.signWeight = r := by
  have hw : 0 < f.signWeight := Nat.two_pow_pos _
  unfold Ieee.Format.word
  cases s
  · rw [if_neg (by simp), Nat.div_eq_of_lt h, Nat.mod_eq_of_lt h]; exact ⟨rfl, rfl⟩
  · rw [if_pos rfl, Nat.add_div_left _ hw, Nat.div_eq_of_lt h, Nat.add_mod_left, Nat.mod_eq_of_lt h]; exact ⟨rfl, rfl⟩
theorem word_zero (f : Ieee.Format) (s : Bool) (p : Int) : f.nearest s 0 p = f.word s 0 := by unfold Ieee.Format.nearest; rw [if_pos rfl]
theorem num_zero (f : Ieee.Format) (s : Bool) : Num f (f.word s 0) s 0 := by
  obtain ⟨h1, h2⟩ := read_word f s 0 (Nat.two_pow_pos _)
  refine ⟨0, f.leastPlace, ?_, Int.le_refl _, Nat.zero_mul _⟩
  unfold Ieee.Format.read
  rw [h1, h2]
  exact if_pos (Nat.two_pow_pos _)
theorem num_nearest (f : Ieee.Format) (s : Bool) (m : Nat) (p : Int) (hp : f.leastPlace ≤ p) (hm : m < 2 ^ (f.fractionBits + 1)) (ht : (p + m.log2 - f.fractionBits - f.leastPlace).toNat + 3 ≤ 2 ^ f.exponentBits) :
    Num f (f.nearest s m p) s (m * 2 ^ (p - f.leastPlace).toNat) := by
  by_cases h0 : m = 0
  · subst h0; rw [word_zero, Nat.zero_mul]; exact num_zero f s
  have hl := (Nat.log2_eq_iff h0).1 rfl
  have hlf : m.log2 ≤ f.fractionBits := by
    have : 2 ^ m.log2 < 2 ^ (f.fractionBits + 1) := Nat.lt_of_le_of_lt hl.1 hm
    have := (Nat.pow_lt_pow_iff_right (by decide : 1 < 2)).1 this
    omega
  unfold Ieee.Format.nearest
  rw [if_neg h0]
  have hlast : max (p + (m.log2 : Int) - f.fractionBits) f.leastPlace ≤ p := by omega
  generalize hL : max (p + (m.log2 : Int) - f.fractionBits) f.leastPlace = last at hlast ⊢
  have hll : f.leastPlace ≤ last := by omega
  simp only [show (last - p).toNat = 0 by omega, cut_nought, Nat.shiftLeft_eq]
  have hB : f.binade = 2 ^ f.fractionBits := rfl
  have hK2 : m * 2 ^ (p - last).toNat < 2 * f.binade := by
    have h1 : m * 2 ^ (p - last).toNat < 2 ^ (m.log2 + 1) * 2 ^ (p - last).toNat := (Nat.mul_lt_mul_right (Nat.two_pow_pos _)).2 hl.2
    rw [← Nat.pow_add] at h1
    have h2 : 2 ^ (m.log2 + 1 + (p - last).toNat) ≤ 2 ^ (f.fractionBits + 1) := Nat.pow_le_pow_right (by decide) (by omega)
    rw [Nat.pow_succ] at h2
    rw [hB]; omega
  have hK1 : f.leastPlace < last → f.binade ≤ m * 2 ^ (p - last).toNat := by
    intro h
    have h1 : 2 ^ m.log2 * 2 ^ (p - last).toNat ≤ m * 2 ^ (p - last).toNat := Nat.mul_le_mul_right _ hl.1
    rw [← Nat.pow_add, show m.log2 + (p - last).toNat = f.fractionBits by omega] at h1
    exact h1
  have hV : m * 2 ^ (p - f.leastPlace).toNat = (m * 2 ^ (p - last).toNat) * 2 ^ (last - f.leastPlace).toNat := by
    rw [Nat.mul_assoc, ← Nat.pow_add]; congr 2; omega
  rw [hV]
  have hq : (last - f.leastPlace).toNat + 3 ≤ 2 ^ f.exponentBits := by omega
  generalize hKe : m * 2 ^ (p - last).toNat = K at *
  generalize hqe : (last - f.leastPlace).toNat = q at *
  have hBp : 0 < f.binade := Nat.two_pow_pos _
  have hr : q * f.binade + K < f.infRung := by
    unfold Ieee.Format.infRung
    have h1 : (q + 2) * f.binade ≤ (2 ^ f.exponentBits - 1) * f.binade := Nat.mul_le_mul_right _ (by omega)
    rw [Nat.add_mul] at h1; omega
  rw [Nat.min_eq_left (Nat.le_of_lt hr)]
  have hsw := f.infRung_lt
  obtain ⟨r1, r2⟩ := read_word f s (q * f.binade + K) (by omega)
  unfold Num Ieee.Format.read
  rw [r1, r2]
  by_cases hqz : q = 0
  · subst hqz
    rw [Nat.zero_mul, Nat.zero_add] at hr ⊢
    by_cases hs : K < f.binade
    · exact ⟨K, f.leastPlace, if_pos hs, Int.le_refl _, by rw [Int.sub_self]; rfl⟩
    · refine ⟨f.binade + K % f.binade, f.leastPlace + (K / f.binade - 1 : Nat), ?_, by omega, ?_⟩
      · show (if K < f.binade then _ else if K < f.infRung then _ else _) = _
        rw [if_neg hs, if_pos hr]
      · have hd : K / f.binade = 1 := by
          rw [Nat.div_eq_iff hBp]; omega
        have := Nat.div_add_mod K f.binade
        rw [hd, Nat.mul_one] at this
        rw [hd, this, show (f.leastPlace + ((1 - 1 : Nat) : Int) - f.leastPlace).toNat = 0 by omega]
  · have hK := hK1 (by omega)
    have hd : (q * f.binade + K) / f.binade = q + 1 := by
      rw [Nat.mul_comm, Nat.mul_add_div hBp]
      have : K / f.binade = 1 := by rw [Nat.div_eq_iff hBp]; omega
      omega
    have hm' : f.binade + (q * f.binade + K) % f.binade = K := by
      rw [Nat.mul_comm, Nat.mul_add_mod]
      have h1 : K / f.binade = 1 := by rw [Nat.div_eq_iff hBp]; omega
      have := Nat.div_add_mod K f.binade
      rw [h1, Nat.mul_one] at this; exact this
    refine ⟨f.binade + (q * f.binade + K) % f.binade, f.leastPlace + ((q * f.binade + K) / f.binade - 1 : Nat), ?_, by omega, ?_⟩
    · show (if q * f.binade + K < f.binade then _ else if q * f.binade + K < f.infRung then _ else _) = _
      have : f.binade ≤ q * f.binade := Nat.le_mul_of_pos_left _ (by omega)
      rw [if_neg (by omega), if_pos hr]
    · rw [hm', hd, show (f.leastPlace + ((q + 1 - 1 : Nat) : Int) - f.leastPlace).toNat = q by omega]
def sgn (s : Bool) (V : Nat) : Int := if s then -(V : Int) else (V : Int)
theorem sgn_mul (s : Bool) (a k : Nat) : sgn s (a * k) = sgn s a * (k : Int) := by
  unfold sgn; cases s <;> simp [Int.neg_mul]
theorem signed_sgn (s : Bool) (m a : Nat) : Ieee.signed s m a = sgn s (m * 2 ^ a) := by
  unfold Ieee.signed sgn; rw [Nat.shiftLeft_eq]
theorem sgn_abs (s : Bool) (V : Nat) : (sgn s V).natAbs = V := by unfold sgn; cases s <;> simp
theorem compare_scale (a b : Int) (k : Nat) (hk : 0 < k) : compare (a * (k : Int)) (b * (k : Int)) = compare a b := by
  have hk' : (0 : Int) < (k : Int) := by omega
  show compareOfLessAndEq _ _ = compareOfLessAndEq _ _
  unfold compareOfLessAndEq
  by_cases h1 : a < b
  · rw [if_pos h1, if_pos (Int.mul_lt_mul_of_pos_right h1 hk')]
  · rw [if_neg h1, if_neg (fun g => h1 (Int.lt_of_mul_lt_mul_right g (Int.le_of_lt hk')))]
    by_cases h2 : a = b
    · rw [if_pos h2, if_pos (by rw [h2])]
    · rw [if_neg h2, if_neg (fun g => h2 (Int.eq_of_mul_eq_mul_right (by omega) g))]
theorem num_order {f : Ieee.Format} {x y : Nat} {s t : Bool} {V W : Nat} (hx : Num f x s V) (hy : Num f y t W) : f.order x y = some (compare (sgn s V) (sgn t W)) := by
  obtain ⟨m, i, e1, hi, rfl⟩ := hx
  obtain ⟨n, j, e2, hj, rfl⟩ := hy
  unfold Ieee.Format.order
  rw [e1, e2]
  show some (compare (Ieee.signed s m (i - min i j).toNat) (Ieee.signed t n (j - min i j).toNat)) = _
  rw [signed_sgn, signed_sgn, ← compare_scale _ _ (2 ^ (min i j - f.leastPlace).toNat) (Nat.two_pow_pos _), ← sgn_mul, ← sgn_mul, Nat.mul_assoc, Nat.mul_assoc, ← Nat.pow_add, ← Nat.pow_add]
  rw [show (i - min i j).toNat + (min i j - f.leastPlace).toNat = (i - f.leastPlace).toNat by omega, show (j - min i j).toNat + (min i j - f.leastPlace).toNat = (j - f.leastPlace).toNat by omega]
theorem read_small {f : Ieee.Format} {b : Nat} {s : Bool} {m : Nat} {p : Int} (h : f.read b = .number s m p) : m < 2 * f.binade ∧ f.leastPlace ≤ p := by
  have hB : 0 < f.binade := Nat.two_pow_pos _
  unfold Ieee.Format.read at h
  dsimp only at h
  split at h
  · cases h; rename_i hr; exact ⟨by omega, Int.le_refl _⟩
  · split at h
    · cases h
      have := Nat.mod_lt (b % f.signWeight) hB
      exact ⟨by omega, by omega⟩
    · split at h <;> cases h
theorem dl : Ieee.double.leastPlace = -1074 := by decide
theorem sl : Ieee.single.leastPlace = -149 := by decide
def Ubig : Nat := 2 ^ 1074
theorem Ubig_eq : Ubig = 2 ^ 1074 := by unfold Ubig; rfl
def dI (s : Bool) (k : Nat) : Nat := Ieee.double.nearest s k 0
def IntF (x : Nat) (s : Bool) (k : Nat) : Prop := Num Ieee.double x s (k * Ubig)
theorem dI_int (s : Bool) (k : Nat) (hk : k < 9007199254740992) : IntF (dI s k) s k := by
  have := num_nearest Ieee.double s k 0 (by rw [dl]; decide) (by show k < 2 ^ 53; exact hk) (by
    rw [dl]
    have hl : k.log2 ≤ 52 := by
      by_cases h0 : k = 0
      · subst h0; decide
      · have := (Nat.log2_lt h0).2 (show k < 2 ^ 53 from hk); omega
    show ((0 : Int) + (k.log2 : Int) - ((52 : Nat) : Int) - (-1074)).toNat + 3 ≤ 2 ^ 11
    omega)
  rw [dl] at this
  rw [show ((0 : Int) - (-1074)).toNat = 1074 from rfl, ← Ubig_eq] at this
  exact this
theorem dI_of {s : Bool} {m k : Nat} {p : Int} (hp : -1074 ≤ p) (h : m * 2 ^ (p + 1074).toNat = k * Ubig) : Ieee.double.nearest s m p = dI s k :=
  nearest_value Ieee.double s m k p 0 (by rw [dl]; exact hp) (by rw [dl]; decide) (by rw [dl, Int.sub_neg, h, show ((0 : Int) - (-1074)).toNat = 1074 from rfl, ← Ubig_eq])
theorem Ubig_pos : 0 < Ubig := by rw [Ubig_eq]; exact Nat.two_pow_pos 1074
theorem cut_zero (s : Bool) (n d : Nat) : Ieee.Toward.zero.cut s n d = n / 2 ^ d := by
  unfold Ieee.Toward.cut
  show n / 1 <<< min d (n.log2 + 2) + 0 = _
  rw [Nat.add_zero, Nat.one_shiftLeft]
  by_cases h : d ≤ n.log2 + 2
  · rw [Nat.min_eq_left h]
  · rw [Nat.min_eq_right (by omega)]
    have h1 : n < 2 ^ (n.log2 + 2) := by
      by_cases h0 : n = 0
      · subst h0; exact Nat.two_pow_pos _
      · have := ((Nat.log2_eq_iff h0).1 rfl).2
        exact Nat.lt_of_lt_of_le this (Nat.pow_le_pow_right (by decide) (by omega))
    have h2 : n < 2 ^ d := Nat.lt_of_lt_of_le h1 (Nat.pow_le_pow_right (by decide) (by omega))
    rw [Nat.div_eq_of_lt h1, Nat.div_eq_of_lt h2]
def truncB (x : Nat) : Nat := Ieee.double.write ((Ieee.double.read x).integral .zero)
def signB (x : Nat) : Bool := decide (x % 18446744073709551616 ≥ 9223372036854775808)
def partE (x : Nat) : Bool :=
  (Ieee.double.order x 13920626448202203136 == some .gt || Ieee.double.order x 13920626448202203136 == some .eq) &&
  ((Ieee.double.order x 4697254411347427328 == some .lt || Ieee.double.order x 4697254411347427328 == some .eq) &&
  (Ieee.double.order x (truncB x) == some .eq && !(Ieee.double.order x 0 == some .eq && signB x)))
theorem cN : IntF 13920626448202203136 true 1048576 := by
  have h := dI_int true 1048576 (by decide)
  rwa [show dI true 1048576 = 13920626448202203136 by decide +kernel] at h
theorem cP : IntF 4697254411347427328 false 1048576 := by
  have h := dI_int false 1048576 (by decide)
  rwa [show dI false 1048576 = 4697254411347427328 by decide +kernel] at h
theorem cZ : IntF 0 false 0 := by
  have h := dI_int false 0 (by decide)
  rwa [show dI false 0 = 0 by decide +kernel] at h
theorem trunc_num {x : Nat} {s : Bool} {V : Nat} (h : Num Ieee.double x s V) : truncB x = dI s (V / Ubig) := by
  obtain ⟨m, p, h1, h2, rfl⟩ := h
  unfold truncB
  rw [h1]
  show Ieee.double.nearest s (Ieee.Toward.zero.cut s (m <<< p.toNat) (-p).toNat) 0 = _
  rw [cut_zero, Nat.shiftLeft_eq, dl, Int.sub_neg]
  rw [dl] at h2
  unfold dI
  congr 1
  by_cases hp : 0 ≤ p
  · rw [show (-p).toNat = 0 by omega, Nat.pow_zero, Nat.div_one, show (p + 1074).toNat = p.toNat + 1074 by omega, Nat.pow_add, ← Ubig_eq, ← Nat.mul_assoc, Nat.mul_div_cancel _ Ubig_pos]
  · have e : Ubig = 2 ^ (-p).toNat * 2 ^ (p + 1074).toNat := by
      rw [← Nat.pow_add, Ubig_eq, show (-p).toNat + (p + 1074).toNat = 1074 by omega]
    rw [e, Nat.mul_div_mul_right _ _ (Nat.two_pow_pos _), show p.toNat = 0 by omega, Nat.pow_zero, Nat.mul_one]
theorem sign_num {x : Nat} {s : Bool} {V : Nat} (hx : x < 18446744073709551616) (h : Num Ieee.double x s V) : signB x = s := by
  obtain ⟨m, p, h1, _, _⟩ := h
  have h2 : (x / Ieee.double.signWeight % 2 == 1) = s := by
    unfold Ieee.Format.read at h1
    dsimp only at h1
    split at h1
    · cases h1; rfl
    · split at h1
      · cases h1; rfl
      · split at h1 <;> cases h1
  have hw : Ieee.double.signWeight = 9223372036854775808 := by decide
  rw [hw] at h2
  unfold signB
  rw [← h2, Nat.mod_eq_of_lt hx, Bool.eq_iff_iff, decide_eq_true_iff, beq_iff_eq]
  omega
theorem cmp_gt (a b : Int) : (some (compare a b) == some Ordering.gt || some (compare a b) == some Ordering.eq) = decide (b ≤ a) := by
  show (some (compareOfLessAndEq a b) == some Ordering.gt || some (compareOfLessAndEq a b) == some Ordering.eq) = _
  unfold compareOfLessAndEq
  by_cases h : a < b
  · rw [if_pos h, decide_eq_false (by omega)]; rfl
  · rw [if_neg h, decide_eq_true (by omega)]
    split <;> rfl
theorem cmp_lt (a b : Int) : (some (compare a b) == some Ordering.lt || some (compare a b) == some Ordering.eq) = decide (a ≤ b) := by
  show (some (compareOfLessAndEq a b) == some Ordering.lt || some (compareOfLessAndEq a b) == some Ordering.eq) = _
  unfold compareOfLessAndEq
  by_cases h : a < b
  · rw [if_pos h, decide_eq_true (by omega)]; rfl
  · rw [if_neg h]
    by_cases h2 : a = b
    · rw [if_pos h2, decide_eq_true (by omega)]; rfl
    · rw [if_neg h2, decide_eq_false (by omega)]; rfl
theorem cmp_eq (a b : Int) : (some (compare a b) == some Ordering.eq) = decide (a = b) := by
  show (some (compareOfLessAndEq a b) == some Ordering.eq) = _
  unfold compareOfLessAndEq
  by_cases h : a < b
  · rw [if_pos h, decide_eq_false (by omega)]; rfl
  · rw [if_neg h]
    by_cases h2 : a = b
    · rw [if_pos h2, decide_eq_true h2]; rfl
    · rw [if_neg h2, decide_eq_false h2]; rfl
theorem order_inf {x y : Nat} {s t : Bool} {W : Nat} (hx : Ieee.double.read x = .infinity s) (hy : Num Ieee.double y t W) : Ieee.double.order x y = some (if s then .lt else .gt) := by
  obtain ⟨m, p, h1, _, _⟩ := hy
  unfold Ieee.Format.order
  rw [hx, h1]; rfl
theorem order_nan {x y : Nat} {s : Bool} {n : Nat} (hx : Ieee.double.read x = .nan s n) : Ieee.double.order x y = none := by
  unfold Ieee.Format.order
  rw [hx]; rfl
theorem sgn_inj (s : Bool) (V W : Nat) : sgn s V = sgn s W ↔ V = W := by unfold sgn; cases s <;> simp <;> omega
theorem sgn_le (s : Bool) (V K : Nat) : (sgn true K ≤ sgn s V ∧ sgn s V ≤ sgn false K) ↔ V ≤ K := by
  unfold sgn; cases s <;> simp <;> omega
theorem part_num {x : Nat} {s : Bool} {V : Nat} (hx : x < 18446744073709551616) (h : Num Ieee.double x s V) : partE x = (decide (V ≤ 1048576 * Ubig) && (decide (V / Ubig * Ubig = V) && (decide (V ≠ 0) || !s))) := by
  unfold partE
  rw [num_order h cN, num_order h cP, num_order h cZ, cmp_gt, cmp_lt, sign_num hx h]
  have hU := Ubig_pos
  by_cases hV : V ≤ 1048576 * Ubig
  · have hle := (sgn_le s V (1048576 * Ubig)).2 hV
    have ht : IntF (truncB x) s (V / Ubig) := by
      rw [trunc_num h]
      refine dI_int s _ ?_
      have : V / Ubig ≤ 1048576 := by rw [Nat.mul_comm] at hV; exact Nat.div_le_of_le_mul hV
      omega
    rw [num_order h ht, cmp_eq, cmp_eq, decide_eq_true hle.1, decide_eq_true hle.2, decide_eq_true hV, Bool.true_and, Bool.true_and, Bool.true_and]
    have e1 : (sgn s V = sgn s (V / Ubig * Ubig)) ↔ V / Ubig * Ubig = V := (sgn_inj s _ _).trans eq_comm
    have e2 : (sgn s V = sgn false (0 * Ubig)) ↔ V = 0 := by unfold sgn; cases s <;> simp <;> omega
    rw [decide_eq_decide.2 e1, decide_eq_decide.2 e2]
    by_cases h0 : V = 0
    · rw [decide_eq_true h0, decide_eq_false (fun g : V ≠ 0 => g h0), Bool.true_and, Bool.false_or]
    · rw [decide_eq_false h0, decide_eq_true (show V ≠ 0 from h0), Bool.false_and, Bool.true_or]; rfl
  · have hle : ¬ (sgn true (1048576 * Ubig) ≤ sgn s V ∧ sgn s V ≤ sgn false (1048576 * Ubig)) := fun g => hV ((sgn_le s V (1048576 * Ubig)).1 g)
    rw [decide_eq_false hV, Bool.false_and]
    by_cases g : sgn true (1048576 * Ubig) ≤ sgn s V
    · rw [decide_eq_true g, decide_eq_false (fun g2 => hle ⟨g, g2⟩)]; rfl
    · rw [decide_eq_false g]; rfl
theorem part_int {x : Nat} {s : Bool} {k : Nat} (hx : x < 18446744073709551616) (h : IntF x s k) : partE x = (decide (k ≤ 1048576) && (decide (k ≠ 0) || !s)) := by
  have hU := Ubig_pos
  rw [part_num hx h, Nat.mul_div_cancel _ hU]
  have e1 : k * Ubig ≤ 1048576 * Ubig ↔ k ≤ 1048576 := Nat.mul_le_mul_right_iff hU
  have e2 : k * Ubig ≠ 0 ↔ k ≠ 0 := ⟨fun g e => g (by rw [e, Nat.zero_mul]), fun g => Nat.mul_ne_zero g (by omega)⟩
  rw [decide_eq_decide.2 e1, decide_eq_decide.2 e2, decide_eq_true rfl, Bool.true_and]
end Go.Proofs.Ytpojamikfcmnoaa.X
