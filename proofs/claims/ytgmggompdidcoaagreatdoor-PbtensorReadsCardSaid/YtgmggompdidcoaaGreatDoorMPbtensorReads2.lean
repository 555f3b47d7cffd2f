import Derived.Test.YtgmggompdidcoaaGreatDoorMPbtensorReads1
import Derived.Test.YtgmggompdidcoaaGreatDoorProg
import Derived.Laws.BitsAllLaws
namespace Go.Proofs.YtgmggompdidcoaaGreatDoorW.aX
open Go.RowKit
end Go.Proofs.YtgmggompdidcoaaGreatDoorW.aX
namespace Go.Proofs.YtgmggompdidcoaaGreatDoorW.bJ
section
variable {ops : Array Oper} {a : Act} {o og : Oper} {g : Nat} {t : Tmp} {u : Bool}
theorem ER (hg : o.guard = some (g, u)) (ho : ops[g]? = some og) (hd : og.dst = some t) (hv : a.tmps[t]? = some (.bool u)) : Region.wanted o (yielded ops a.tmps) = true := by
  simp [Region.wanted, hg, yielded, ho, hd, hv]
theorem XK (hg : o.guard = some (g, u)) (ho : ops[g]? = some og) (hd : og.dst = some t) (hv : a.tmps[t]? = some (.bool (!u))) : Region.wanted o (yielded ops a.tmps) = false := by
  cases u <;> simp_all [Region.wanted, yielded]
end
end Go.Proofs.YtgmggompdidcoaaGreatDoorW.bJ
namespace Go.Proofs.YtgmggompdidcoaaGreatDoorW.aX
open Go.RowKit
section
variable {P : Program} {ops : Array Oper} {rest : List Oper} {o : Oper} {a : Act} {Q : Exit → Act → World → Prop} {W : World}
theorem uG (hw : Region.wanted o (yielded ops a.tmps) = true) (h : wpList P ops Q ({ o with guard := none } :: rest) a W) : wpList P ops Q (o :: rest) a W := by
  have h1 : Region.wanted { o with guard := none } (yielded ops a.tmps) = true := rfl
  unfold wpList at h ⊢
  rw [if_pos h1] at h
  rw [if_pos hw]
  exact h
end
end Go.Proofs.YtgmggompdidcoaaGreatDoorW.aX
namespace Go.Proofs.YtgmggompdidcoaaGreatDoorW.aX
open Go.RowKit
namespace Kd
section
variable {α : Type} {d : Kd α} {e base n cap g : Nat} {ok ok' qC : Nat → Prop} {w w1 W : World} {v v1 : Value} {xs ys : List α}
end
section
variable {P : Program} {ops : Array Oper} {rest : List Oper} {o : Oper} {a : Act} {Q : Exit → Act → World → Prop} {Kc : Act → World → Prop} {α : Type}
end
end Kd
end Go.Proofs.YtgmggompdidcoaaGreatDoorW.aX
namespace Go.Proofs.YtgmggompdidcoaaGreatDoorW.bK
open Go.RowKit Go.Proofs.YtgmggompdidcoaaGreatDoorW.aX
namespace Kd
open Go.Proofs.YtgmggompdidcoaaGreatDoorW.aX.Kd
end Kd
namespace Kd
open Go.Proofs.YtgmggompdidcoaaGreatDoorW.aX.Kd
section
variable {α : Type} {d : Kd α} {e base g N : Nat} {ok : Nat → Prop} {W w1 : World} {u v : Value} {xs : List α}
end
end Kd
theorem bO (k k' : IntKind) (x y : Int) : Builtin.max2 (.int k x) (.int k' y) = pure (.int k (if x < y then y else x)) := by simp only [Builtin.max2, gt_iff_lt]
theorem bQ (k k' : IntKind) (x y : Int) : Builtin.min2 (.int k x) (.int k' y) = pure (.int k (if y < x then y else x)) := by simp only [Builtin.min2]
theorem bS (ats : Array TypeId) (ty : TypeId) (a b : Value) : Builtin.max_ ats ty #[a, b] = (Builtin.max2 a b >>= fun s => pure s) := by simp only [Builtin.max_, List.foldlM_cons, List.foldlM_nil]
theorem bU (ats : Array TypeId) (ty : TypeId) (a b : Value) : Builtin.min_ ats ty #[a, b] = (Builtin.min2 a b >>= fun s => pure s) := by simp only [Builtin.min_, List.foldlM_cons, List.foldlM_nil]
theorem bM (ats : Array TypeId) (ty : TypeId) (a b c : Value) : Builtin.max_ ats ty #[a, b, c] = (Builtin.max2 a b >>= fun s => Builtin.max2 s c >>= fun s => pure s) := by simp only [Builtin.max_, List.foldlM_cons, List.foldlM_nil]
theorem bN (ats : Array TypeId) (ty : TypeId) (a b c : Value) : Builtin.min_ ats ty #[a, b, c] = (Builtin.min2 a b >>= fun s => Builtin.min2 s c >>= fun s => pure s) := by simp only [Builtin.min_, List.foldlM_cons, List.foldlM_nil]
theorem bP (ats : Array TypeId) (ty : TypeId) (a b c d : Value) : Builtin.max_ ats ty #[a, b, c, d] = (Builtin.max2 a b >>= fun s => Builtin.max2 s c >>= fun s => Builtin.max2 s d >>= fun s => pure s) := by simp only [Builtin.max_, List.foldlM_cons, List.foldlM_nil]
theorem bR (ats : Array TypeId) (ty : TypeId) (a b c d : Value) : Builtin.min_ ats ty #[a, b, c, d] = (Builtin.min2 a b >>= fun s => Builtin.min2 s c >>= fun s => Builtin.min2 s d >>= fun s => pure s) := by simp only [Builtin.min_, List.foldlM_cons, List.foldlM_nil]
end Go.Proofs.YtgmggompdidcoaaGreatDoorW.bK
namespace Go.Proofs.YtgmggompdidcoaaGreatDoorW.aX
open Go.RowKit
section
variable {P : Program} {ops : Array Oper} {rest : List Oper} {o : Oper} {a : Act} {Q : Exit → Act → World → Prop} {W : World}
theorem dJ {f : FuncId} {CK : Array Operand} {ts : Array TypeId} (_ho : o.op = .call { callee := .value (.func f), args := CK, argTypes := ts }) (h : wpList P ops Q (o :: rest) a W) : wpList P ops Q (o :: rest) a W := h
theorem qD {b : Builtin} {xs : Array Operand} {ts : Array TypeId} (_ho : o.op = .call { callee := .builtin b, args := xs, argTypes := ts }) (h : wpList P ops Q (o :: rest) a W) : wpList P ops Q (o :: rest) a W := h
end
def mn (a b : Int) : Int := if b < a then b else a
def shl (k : IntKind) (x y : Int) : Int := k.wrap (x * 2 ^ min y.toNat k.bits)
def shr (k : IntKind) (x y : Int) : Int := x / 2 ^ min y.toNat k.bits
theorem Zm {k : IntKind} {x y j : Int} (h : shl k x y = j) (hy : y ≤ k.bits) : k.wrap (x * 2 ^ y.toNat) = j := by rw [← h]; unfold shl; rw [Nat.min_eq_left (by omega)]
theorem Zn {k : IntKind} {x y j : Int} (h : shr k x y = j) (hy : y ≤ k.bits) : x / 2 ^ y.toNat = j := by rw [← h]; unfold shr; rw [Nat.min_eq_left (by omega)]
theorem oW (w : World) (n : Nat) : w.drewN n = w.drewN n := rfl
namespace Kd
section
variable {α : Type} {d : Kd α} {e base : Nat} {ok : Nat → Prop} {W w1 : World} {v : Value} {xs : List α}
end
section
variable {α : Type} {d : Kd α} {e base g n cap : Nat} {ok WC qC : Nat → Prop} {W : World} {xs : List α} {i : Int} {c : List Value}
end
section
variable {α : Type} {d : Kd α} {e base b b' g N : Nat} {ok ok1 : Nat → Prop} {W W2 w1 : World} {u v : Value} {xs ys : List α} {S : Nat → Prop}
theorem Gy (h : d.R e W base ok v xs) (hk : Kept W W2 S) (hne : ∀ k, ok k → ¬ S k) : d.R e W2 base (fun k => ok k ∧ (¬ S k ∧ k < W.heap.size)) v xs :=
  jh (eO (nU h) (fun k hk => ⟨hk.1, hne k hk.1, hk.2.2.1⟩)) hk (fun _ hk => hk.2.1)
end
end Kd
end Go.Proofs.YtgmggompdidcoaaGreatDoorW.aX
namespace Go.Proofs.YtgmggompdidcoaaGreatDoorW.aX
open Go.RowKit
namespace Kd
def V {α : Type} (d : Kd α) (_e : Nat) (W : World) (_base : Nat) (ok : Nat → Prop) (v : Value) (xs : List α) : Prop := ∃ A c, v = .slice A xs.length c ∧ xs.length ≤ c ∧ F d W ok A xs.length xs
section
variable {α β : Type} {d : Kd α} {e base base' n m c g N' lo hi : Nat} {ok ok' S : Nat → Prop} {w W w1 : World} {A : Option Addr} {ad : Addr} {u v v1 : Value} {xs : List α}
theorem N9 (h : V d e W base ok v xs) (hF : ∀ A, F d W ok A xs.length xs → F d w1 ok' A xs.length xs) : V d e w1 base' ok' v xs := by
  obtain ⟨A, c, hv, hl, hf⟩ := h
  exact ⟨A, c, hv, hl, hF A hf⟩
theorem ru (hl : xs.length ≤ c) (hf : F d W ok A xs.length xs) : V d e W base ok (.slice A xs.length c) xs := ⟨A, c, rfl, hl, hf⟩
theorem LF (h : V d e W base ok v xs) : ∃ A c, v = .slice A xs.length c := by
  obtain ⟨A, c, hv, _⟩ := h
  exact ⟨A, c, hv⟩
theorem Z6 (h : V d e W base ok (.slice A n c) xs) : n = xs.length ∧ n ≤ c ∧ F d W ok A xs.length xs := by
  obtain ⟨A', c', hv, hl, hf⟩ := h
  injection hv with ha hn hc
  subst ha; subst hc
  exact ⟨hn, by rw [hn]; exact hl, hf⟩
theorem LB (h : V d e W base ok (.slice A n c) xs) : n = xs.length ∧ n ≤ c ∧ d.C W A xs.length xs := ⟨(Z6 h).1, (Z6 h).2.1, mK (Z6 h).2.2⟩
theorem MQ (h : V d e W base ok (.slice A n c) xs) : F d W ok A n xs := by
  obtain ⟨hn, _, hf⟩ := Z6 h
  rw [hn]
  exact hf
theorem Mh (d : Kd α) (e : Nat) (W : World) (base : Nat) (ok : Nat → Prop) : V d e W base ok (.slice none 0 0) [] := ⟨none, 0, rfl, Nat.le_refl _, aDo d W ok⟩
theorem jk (h : V d e W base ok v xs) (hok : ∀ k, ok k → ok' k) : V d e W base ok' v xs := N9 h (fun _ hf => P7 hf hok)
theorem SX (h : V d e W base ok v xs) (hb : Below W.heap.size W w1) : V d e w1 base ok v xs := N9 h (fun _ hf => kZ hf hb)
theorem bg (h : V d e W base ok v xs) (o : Obj) : V d e (W.alloc o) base ok v xs := N9 h (fun _ hf => aAV hf o)
theorem ji (h : V d e W base ok v xs) : V d e W.drew base ok v xs := N9 h (fun _ hf => jf hf)
theorem bn (h : V d e W base ok v xs) (m : Nat) : V d e (W.drewN m) base ok v xs := N9 h (fun _ hf => aAX hf m)
theorem Y7 (h : V d e W base ok v xs) {p : Addr} (hok : ∀ k, ok k → k ≠ p.block) (u : Value) : V d e (W.setCell p u) base ok v xs := N9 h (fun _ hf => FC hf hok u)
theorem Fs (h : V d e W base ok v xs) (a : Nat) (ha : W.heap.size ≤ a) : V d e W base (fun k => ok k ∧ k ≠ a) v xs := N9 h (fun _ hf => aAb hf a ha)
end
end Kd
end Go.Proofs.YtgmggompdidcoaaGreatDoorW.aX
namespace Go.Proofs.YtgmggompdidcoaaGreatDoor.X
open Go.RowKit Go.Proofs.YtgmggompdidcoaaGreatDoorW.aX Go.Proofs.YtgmggompdidcoaaGreatDoorW.bJ Go.Proofs.YtgmggompdidcoaaGreatDoorW.bK
attribute [local go_sem] bO bQ bS bU bM bN bP bR
set_option linter.unusedVariables false
set_option linter.unusedSimpArgs false
section
theorem dr {w w' : World} (d : fG w w' := by repeat (first | exact fG.refl _ | apply fG.step)) : fG w w' := d
theorem dW {α : Type} {a b : α} {w w' : World} (h : a = b := by first | rfl | (simp; done) | (simp [*]; done)) (d : fG w w' := by repeat (first | exact fG.refl _ | apply fG.step)) : a = b ∧ fG w w' := ⟨h, d⟩
theorem nC {p : Prop} (h : p := by first | exact Kd.AZ _ _ _ _ _ | exact Kd.aDE _ _ _ _ _ | exact Kd.Mh _ _ _ _ _ | exact Kd.aDJ _ _ _ _ _ | exact Kd.aDK _ _ _ _ _) : p := h
theorem dH {α : Type} [BEq α] [LawfulBEq α] {a b : α} (h : a = b) : (a == b) = true ∧ (a != b) = false := ⟨beq_iff_eq.mpr h, bne_eq_false_iff_eq.mpr h⟩
theorem aI1 {α : Type} [BEq α] [LawfulBEq α] {a b : α} (h : a ≠ b) : (a == b) = false ∧ (a != b) = true := ⟨beq_eq_false_iff_ne.mpr h, bne_iff_ne.mpr h⟩
theorem dT {p : Prop} [d : Decidable p] (h : p) : decide p = true := decide_eq_true h
theorem dF {p : Prop} [d : Decidable p] (h : ¬p) : decide p = false := decide_eq_false h
theorem eT {p : Prop} (h : p) : p = True := eq_true h
theorem ip.{u} {c : Prop} {h : Decidable c} (hc : c) {α : Sort u} {t e : α} : ite c t e = t := if_pos hc
theorem iN.{u} {c : Prop} {h : Decidable c} (hc : ¬c) {α : Sort u} {t e : α} : ite c t e = e := if_neg hc
theorem uY {p q r : Prop} (h : aC p) (b : aC r) (f : p → r → q := by intro h_ b_; repeat (first | exact (Kd.gN h_ b_) | (with_reducible refine Kd.xY ?_ _) | (with_reducible refine Kd.ES ?_ _) | (with_reducible refine Kd.E5 ?_))) : q := f h.out b.out
section
variable {P : Program} {md : Region.Mode} {ops : Array Oper} {Q : Exit → Act → World → Prop} {S : World → Prop} {ds : List Nat} {fuel i : Nat} {l : Array Bool} {N : Option Tmp} {oi : Oper} {v : Value} {a a' : Act} {w : World}
theorem JC (l' : Array Bool) (h : kM P md ops Q S ds fuel l' a' w) (hi : ops[i]? = some oi := by rfl) (hN : oi.dst = N := by rfl) (hc : U2 md ops l l' i = true := by kernel_rfl) (hQ : ∀ c a w, Q (.panic c) (a.put oi.dst v) w → Q (.panic c) a w := by exact fun _ _ _ h => h)
    (hw : Region.wanted oi (yielded ops a.tmps) = true := by rfl) (hv : ∀ w', (execOp a.eval oi).run P w' = .ok (.value v) w' := by intro w'; go_simp; with_reducible rfl) (ha : a.put N v = a' := by first | (simp only [Act.put, List.setIfInBounds_toArray, List.set_cons_zero, List.set_cons_succ, dC, iC]; rfl) | (simp only [Act.put, List.setIfInBounds_toArray, List.set_cons_zero, List.set_cons_succ, dC, iC]; done)) : kM P md ops Q S ds (fuel + 1) l a w :=
  Nt l' hi hN hc hQ (Or.inl ⟨hw, hv⟩) ha h
theorem _q (l' : Array Bool) (hS : S w) (h : kM P md ops Q S ds fuel l' a' w) (hi : ops[i]? = some oi := by rfl) (hN : oi.dst = N := by rfl) (hc : takeB md ops ds l l' i = true := by kernel_rfl) (hQ : ∀ c a w, Q (.panic c) (a.put oi.dst v) w → Q (.panic c) a w := by exact fun _ _ _ h => h)
    (hw : Region.wanted oi (yielded ops a.tmps) = true := by rfl) (hv : ∀ w', S w' → (execOp a.eval oi).run P w' = .ok (.value v) w' := by intro w' hs_; repeat (have s_ := hs_.left; replace hs_ := hs_.right); go_simp; with_reducible rfl) (ha : a.put N v = a' := by first | (simp only [Act.put, List.setIfInBounds_toArray, List.set_cons_zero, List.set_cons_succ, dC, iC]; rfl) | (simp only [Act.put, List.setIfInBounds_toArray, List.set_cons_zero, List.set_cons_succ, dC, iC]; done)) : kM P md ops Q S ds (fuel + 1) l a w :=
  yC l' hi hN hc hQ (Or.inl ⟨hw, hv⟩) hS ha h
end
end
end Go.Proofs.YtgmggompdidcoaaGreatDoor.X
namespace Go.Proofs.YtgmggompdidcoaaGreatDoor.X
open Go.RowKit Go.Proofs.YtgmggompdidcoaaGreatDoorW.aX Go.Proofs.YtgmggompdidcoaaGreatDoorW.bJ Go.Proofs.YtgmggompdidcoaaGreatDoorW.bK
attribute [local go_sem] bO bQ bS bU bM bN bP bR
set_option linter.unusedVariables false
set_option linter.unusedSimpArgs false
set_option maxHeartbeats 8000000
set_option maxRecDepth 100000
def Oq : Option Int → Value
 | none => .nilIface
 | some c => .iface 0 (.int .i64 c)
theorem nG : Oq none = .nilIface := rfl
theorem nH (c : Int) : Oq (some c) = .iface 0 (.int .i64 c) := rfl
theorem FT : (Tryz.prog.info? 2).map (fun i => (i.zero, i.size, i.bytes)) = some (some (.int .i64 0), 1, 8) := by kernel_rfl
theorem info5 : (Tryz.prog.info? 5).map (fun i => (i.zero, i.size, i.bytes)) = some (some (.int .u8 0), 1, 1) := by kernel_rfl
theorem Nk : (Tryz.prog.info? 9).map (fun i => (i.zero, i.size, i.bytes)) = some (some (.string ⟨#[]⟩), 1, 16) := by kernel_rfl
theorem YX : (Tryz.prog.info? 68).map (fun i => (i.zero, i.size, i.bytes)) = some (some (.agg #[(.int .i64 0), (.int .i64 0), (.int .u64 0), (.string ⟨#[]⟩)]), 4, 40) := by kernel_rfl
theorem aDc : (Tryz.prog.info? 91).map (fun i => (i.zero, i.size, i.bytes)) = some (some (.agg #[(.string ⟨#[]⟩), (.string ⟨#[]⟩)]), 2, 32) := by kernel_rfl
theorem Lm : (Tryz.prog.info? 95).map (fun i => (i.zero, i.size, i.bytes)) = some (some (.agg #[(.int .i64 0), (.int .i64 0), (.int .u64 0), (.string ⟨#[]⟩)]), 4, 40) := by kernel_rfl
structure jK where
 f0 : ByteArray
 f1 : ByteArray
def z50 : jK := ⟨(⟨#[]⟩ : ByteArray), (⟨#[]⟩ : ByteArray)⟩
def JB : Kd jK := Kd.KU (Kd.pair Kd.string Kd.string) (fun x : jK => (x.f0, x.f1))
theorem aAm {w : World} {x : jK} {cs : List Value} (h : JB.K w x cs) : cs = [.string x.f0, .string x.f1] := by
 obtain ⟨_, _, rfl, rfl, rfl⟩ := h
 exact rfl
def rC (xs : List jK) (i : Int) : jK := xs.getD i.toNat z50
theorem jm {w : World} {A : Option Addr} {n : Nat} {xs : List jK} (h : Kd.C JB w A n xs) (i : Int) (h0 : 0 ≤ i) (h1 : i < n) : ∃ ad , A = some ad ∧ w.cell? (ad.add (i.toNat * 2)) = some (.string (rC xs i).f0) ∧ w.cell? ⟨(ad.add (i.toNat * 2)).block, (ad.add (i.toNat * 2)).off + 1, none⟩ = some (.string (rC xs i).f1) := by
 obtain ⟨ad, c, e, _, hK, hc0⟩ := Kd.Y5 h z50 i h0 h1
 have hc : ∀ j u, c[j]? = some u → w.cell? (ad.add (i.toNat * 2 + j)) = some u := hc0
 obtain rfl := aAm hK
 exact ⟨ad, e, hc 0 _ rfl, by rw [← K8 _ _ 1 (by omega)]; exact hc 1 _ rfl⟩
structure mR where
 f0 : ByteArray
 f1 : ByteArray
def z91 : mR := ⟨(⟨#[]⟩ : ByteArray), (⟨#[]⟩ : ByteArray)⟩
def zX : Kd mR := Kd.KU (Kd.pair Kd.string Kd.string) (fun x : mR => (x.f0, x.f1))
theorem aAo {w : World} {x : mR} {cs : List Value} (h : zX.K w x cs) : cs = [.string x.f0, .string x.f1] := by
 obtain ⟨_, _, rfl, rfl, rfl⟩ := h
 exact rfl
theorem aCr (w : World) (base : Nat) (ok : Nat → Prop) (x : mR)  : zX.M w base ok x [.string x.f0, .string x.f1] := ⟨[.string x.f0], [.string x.f1], rfl, rfl, rfl⟩
def qN (xs : List mR) (i : Int) : mR := xs.getD i.toNat z91
theorem AR {w : World} {A : Option Addr} {n : Nat} {xs : List mR} (h : Kd.C zX w A n xs) (i : Int) (h0 : 0 ≤ i) (h1 : i < n) : ∃ ad , A = some ad ∧ w.cell? (ad.add (i.toNat * 2)) = some (.string (qN xs i).f0) ∧ w.cell? ⟨(ad.add (i.toNat * 2)).block, (ad.add (i.toNat * 2)).off + 1, none⟩ = some (.string (qN xs i).f1) := by
 obtain ⟨ad, c, e, _, hK, hc0⟩ := Kd.Y5 h z91 i h0 h1
 have hc : ∀ j u, c[j]? = some u → w.cell? (ad.add (i.toNat * 2 + j)) = some u := hc0
 obtain rfl := aAo hK
 exact ⟨ad, e, hc 0 _ rfl, by rw [← K8 _ _ 1 (by omega)]; exact hc 1 _ rfl⟩
structure dK where
 f0 : Int
 f1 : Int
 f2 : Int
 f3 : ByteArray
def Sl : dK := ⟨(0 : Int), (0 : Int), (0 : Int), (⟨#[]⟩ : ByteArray)⟩
def lN : Kd dK := Kd.KU (Kd.pair (Kd.int .i64) (Kd.pair (Kd.int .i64) (Kd.pair (Kd.int .u64) Kd.string))) (fun x : dK => (x.f0, x.f1, x.f2, x.f3))
theorem aAp {w : World} {x : dK} {cs : List Value} (h : lN.K w x cs) : cs = [.int .i64 x.f0, .int .i64 x.f1, .int .u64 x.f2, .string x.f3] := by
 obtain ⟨_, _, rfl, rfl, ⟨_, _, rfl, rfl, ⟨_, _, rfl, rfl, rfl⟩⟩⟩ := h
 exact rfl
theorem LG (w : World) (base : Nat) (ok : Nat → Prop) (x : dK)  : lN.M w base ok x [.int .i64 x.f0, .int .i64 x.f1, .int .u64 x.f2, .string x.f3] := ⟨[.int .i64 x.f0], [.int .i64 x.f1, .int .u64 x.f2, .string x.f3], rfl, rfl, ⟨[.int .i64 x.f1], [.int .u64 x.f2, .string x.f3], rfl, rfl, ⟨[.int .u64 x.f2], [.string x.f3], rfl, rfl, rfl⟩⟩⟩
def bY (xs : List dK) (i : Int) : dK := xs.getD i.toNat Sl
theorem E8 {w : World} {A : Option Addr} {n : Nat} {xs : List dK} (h : Kd.C lN w A n xs) (i : Int) (h0 : 0 ≤ i) (h1 : i < n) : ∃ ad , A = some ad ∧ w.cell? (ad.add (i.toNat * 4)) = some (.int .i64 (bY xs i).f0) ∧ w.cell? ⟨(ad.add (i.toNat * 4)).block, (ad.add (i.toNat * 4)).off + 1, none⟩ = some (.int .i64 (bY xs i).f1) ∧ w.cell? ⟨(ad.add (i.toNat * 4)).block, (ad.add (i.toNat * 4)).off + 2, none⟩ = some (.int .u64 (bY xs i).f2) ∧ w.cell? ⟨(ad.add (i.toNat * 4)).block, (ad.add (i.toNat * 4)).off + 3, none⟩ = some (.string (bY xs i).f3) := by
 obtain ⟨ad, c, e, _, hK, hc0⟩ := Kd.Y5 h Sl i h0 h1
 have hc : ∀ j u, c[j]? = some u → w.cell? (ad.add (i.toNat * 4 + j)) = some u := hc0
 obtain rfl := aAp hK
 exact ⟨ad, e, hc 0 _ rfl, by rw [← K8 _ _ 1 (by omega)]; exact hc 1 _ rfl, by rw [← K8 _ _ 2 (by omega)]; exact hc 2 _ rfl, by rw [← K8 _ _ 3 (by omega)]; exact hc 3 _ rfl⟩
structure dP where
 f0 : Int
 f1 : Int
 f2 : Int
 f3 : ByteArray
def z68 : dP := ⟨(0 : Int), (0 : Int), (0 : Int), (⟨#[]⟩ : ByteArray)⟩
def oF : Kd dP := Kd.KU (Kd.pair (Kd.int .i64) (Kd.pair (Kd.int .i64) (Kd.pair (Kd.int .u64) Kd.string))) (fun x : dP => (x.f0, x.f1, x.f2, x.f3))
theorem aAn {w : World} {x : dP} {cs : List Value} (h : oF.K w x cs) : cs = [.int .i64 x.f0, .int .i64 x.f1, .int .u64 x.f2, .string x.f3] := by
 obtain ⟨_, _, rfl, rfl, ⟨_, _, rfl, rfl, ⟨_, _, rfl, rfl, rfl⟩⟩⟩ := h
 exact rfl
theorem YN (w : World) (base : Nat) (ok : Nat → Prop) (x : dP)  : oF.M w base ok x [.int .i64 x.f0, .int .i64 x.f1, .int .u64 x.f2, .string x.f3] := ⟨[.int .i64 x.f0], [.int .i64 x.f1, .int .u64 x.f2, .string x.f3], rfl, rfl, ⟨[.int .i64 x.f1], [.int .u64 x.f2, .string x.f3], rfl, rfl, ⟨[.int .u64 x.f2], [.string x.f3], rfl, rfl, rfl⟩⟩⟩
def cB (xs : List dP) (i : Int) : dP := xs.getD i.toNat z68
theorem AQ {w : World} {A : Option Addr} {n : Nat} {xs : List dP} (h : Kd.C oF w A n xs) (i : Int) (h0 : 0 ≤ i) (h1 : i < n) : ∃ ad , A = some ad ∧ w.cell? (ad.add (i.toNat * 4)) = some (.int .i64 (cB xs i).f0) ∧ w.cell? ⟨(ad.add (i.toNat * 4)).block, (ad.add (i.toNat * 4)).off + 1, none⟩ = some (.int .i64 (cB xs i).f1) ∧ w.cell? ⟨(ad.add (i.toNat * 4)).block, (ad.add (i.toNat * 4)).off + 2, none⟩ = some (.int .u64 (cB xs i).f2) ∧ w.cell? ⟨(ad.add (i.toNat * 4)).block, (ad.add (i.toNat * 4)).off + 3, none⟩ = some (.string (cB xs i).f3) := by
 obtain ⟨ad, c, e, _, hK, hc0⟩ := Kd.Y5 h z68 i h0 h1
 have hc : ∀ j u, c[j]? = some u → w.cell? (ad.add (i.toNat * 4 + j)) = some u := hc0
 obtain rfl := aAn hK
 exact ⟨ad, e, hc 0 _ rfl, by rw [← K8 _ _ 1 (by omega)]; exact hc 1 _ rfl, by rw [← K8 _ _ 2 (by omega)]; exact hc 2 _ rfl, by rw [← K8 _ _ 3 (by omega)]; exact hc 3 _ rfl⟩
structure S7 where
 f0 : Int
 f1 : Int
 f2 : Bool
 f3 : Int
def k7 : Kd S7 := Kd.KU (Kd.pair (Kd.int .i64) (Kd.pair (Kd.int .i64) (Kd.pair Kd.bool (Kd.int .u8)))) (fun x : S7 => (x.f0, x.f1, x.f2, x.f3))
structure S8 where
 f0 : Int
 f1 : Int
 f2 : Bool
 f3 : Int
def k8 : Kd S8 := Kd.KU (Kd.pair (Kd.int .i64) (Kd.pair (Kd.int .i64) (Kd.pair Kd.bool (Kd.int .u8)))) (fun x : S8 => (x.f0, x.f1, x.f2, x.f3))
structure S13 where
 f0 : ByteArray
 f1 : Int
structure S14 where
 f0 : ByteArray
 f1 : Int
structure S32 where
 f0 : ByteArray
 f1 : Int
 f2 : (List Int)
 f3 : ByteArray
structure RV where
 f0 : ByteArray
 f1 : Int
 f2 : (List Int)
 f3 : ByteArray
def k33 : Kd RV := Kd.KU (Kd.pair Kd.string (Kd.pair (Kd.int .i64) (Kd.pair (Kd.slice 2 (Kd.int .i64)) Kd.string))) (fun x : RV => (x.f0, x.f1, x.f2, x.f3))
structure S37 where
 f0 : ByteArray
 f1 : Int
 f2 : (List Int)
 f3 : ByteArray
def z37 : S37 := ⟨(⟨#[]⟩ : ByteArray), (0 : Int), ([] : List Int), (⟨#[]⟩ : ByteArray)⟩
structure S38 where
 f0 : ByteArray
 f1 : Int
 f2 : (List Int)
 f3 : ByteArray
structure S49 where
 f0 : ByteArray
 f1 : ByteArray
structure S58 where
 f0 : RV
 f1 : (List Int)
 f2 : (List Int)
 f3 : Bool
 f4 : (List ByteArray)
 f5 : Int
 f6 : Int
structure S59 where
 f0 : RV
 f1 : (List Int)
 f2 : (List Int)
 f3 : Bool
 f4 : (List ByteArray)
 f5 : Int
 f6 : Int
structure S67 where
 f0 : Int
 f1 : Int
 f2 : Int
 f3 : ByteArray
structure S82 where
 f0 : Int
 f1 : Int
structure S83 where
 f0 : Int
 f1 : Int
structure aIi where
 f0 : Int
 f1 : ByteArray
structure aIj where
 f0 : Int
 f1 : ByteArray
structure aIk where
 f0 : Int
 f1 : Int
structure aIl where
 f0 : Int
 f1 : Int
section
theorem fZ {p q : Prop} (h : aC p) (f : p → q := by intro h_; (with_reducible repeat (first | refine NM ?_ _ | refine kU ?_ | refine DV ?_ _)); exact h_) : q := f h.out
theorem aJ {p q : Prop} (h : aC p) (f : p → q := by intro h_; repeat (first | (with_reducible first | exact h_ | apply iD | apply nS | apply iO | refine fD ?_ (aC.out (by assumption))) | exact h_)) : q := f h.out
theorem dZ {p q : Prop} (h : aC p) (f : p → q := by intro h_; (with_reducible repeat (first | apply Kd.kI | apply Kd.kD | apply Kd.jX)); first | exact h_ | exact Kd.eO h_ (fun _ _ => trivial)) : q := f h.out
theorem gK {w : World} {g t : Nat} {cs : Array Value} {v : Value} (h : aC (w.heap[g]? = some (Obj.cells cs t (0, 0)))) (i : Nat) (e : cs[i]? = some v := by rfl) : w.cell? ⟨g, i, none⟩ = some v := (aM h.out i).trans e
theorem aA {p : Prop} (h : p) : aC p := ⟨h⟩
section
variable {p : Prop} {W0 w w1 : World} {g g' : Nat} {o : Obj}
theorem hbS (h : aC p) (hb : Below w.heap.size w w1) (f : p → Below W0.heap.size W0 w := by intro h_; repeat (first | (with_reducible first | exact h_ | apply iD | apply nS | apply iO | refine fD ?_ (aC.out (by assumption))) | exact h_)) : aC (Below W0.heap.size W0 w1) := ⟨jV (f h.out) hb⟩
theorem aI (h : aC p) (hb : Below w.heap.size w w1) (f : p → w.heap[g]? = some o := by intro h_; (with_reducible repeat (first | refine NM ?_ _ | refine kU ?_ | refine DV ?_ _)); exact h_) : aC (w1.heap[g]? = some o) := ⟨oK (f h.out) hb⟩
theorem bB (h : aC p) (hg : g = w.heap.size) (f : p → Below W0.heap.size W0 w := by intro h_; repeat (first | (with_reducible first | exact h_ | apply iD | apply nS | apply iO | refine fD ?_ (aC.out (by assumption))) | exact h_)) : aC (W0.heap.size ≤ g) := ⟨by rw [hg]; exact iI (f h.out)⟩
theorem cO (h : aC p) (hg : g' = w.heap.size) (f : p → w.heap[g]? = some o := by intro h_; (with_reducible repeat (first | refine NM ?_ _ | refine kU ?_ | refine DV ?_ _)); exact h_) : aC (g ≠ g') := ⟨by rw [hg]; exact Nat.ne_of_lt (jB (f h.out))⟩
theorem dD (h : aC p) (hg : g' = w.heap.size) (f : p → w.heap[g]? = some o := by intro h_; (with_reducible repeat (first | refine NM ?_ _ | refine kU ?_ | refine DV ?_ _)); exact h_) : aC (g' ≠ g) := ⟨by rw [hg]; exact Nat.ne_of_gt (jB (f h.out))⟩
theorem hbc {q : Addr} {v : Option Value} (h : aC (Below W0.heap.size W0 w)) (hx : W0.cell? q = v) (hl : q.block < W0.heap.size := by exact World.block_lt_of_cell? _ _ (by assumption)) : w.cell? q = v := (h.out.cell hl).trans hx
end
section
variable {w : World} {g t : Nat} {a b c d e f : Value}
theorem iA (h : aC (w.heap[g]? = some (.cells #[a] t (0, 0)))) : w.cell? ⟨g, 0, none⟩ = some a := aM h.out 0
theorem yN (h : aC (w.heap[g]? = some (.cells #[a, b] t (0, 0)))) : w.cell? ⟨g, 0, none⟩ = some a ∧ w.cell? ⟨g, 1, none⟩ = some b := ⟨aM h.out 0, aM h.out 1⟩
theorem aN (h : aC (w.heap[g]? = some (.cells #[a, b, c, d] t (0, 0)))) : w.cell? ⟨g, 0, none⟩ = some a ∧ w.cell? ⟨g, 1, none⟩ = some b ∧ w.cell? ⟨g, 2, none⟩ = some c ∧ w.cell? ⟨g, 3, none⟩ = some d := ⟨aM h.out 0, aM h.out 1, aM h.out 2, aM h.out 3⟩
theorem fz {cs : Array Value} (h : aC (w.heap[g]? = some (.cells cs t (0, 0)))) (i : Nat) : w.frozen? ⟨g, i, none⟩ = false := eZ h.out i
end
section
variable {α β : Type} {c : Prop} [Decidable c] {x : Option α} {f : α → Option β} {r : β} {y : Option β}
theorem bnd (h : x.bind f = some r) : ∃ t, aC (x = some t) ∧ f t = some r := by
 obtain ⟨t, e, h⟩ := Option.bind_eq_some_iff.mp h
 exact ⟨t, ⟨e⟩, h⟩
theorem dU (h : (if c then y else none) = some r) : c ∧ y = some r := by
 by_cases k : c
 · rw [ip k] at h; exact ⟨k, h⟩
 · rw [iN k] at h; cases h
end
theorem aK {p : Prop} [Decidable p] (h : decide p = true := by first | (with_reducible assumption) | assumption) : p := of_decide_eq_true h
section
variable {P : Program} {ops : Array Oper} {rest : List Oper} {o : Oper} {a : Act} {Q : Exit → Act → World → Prop} {W : World}
theorem dB {N : Tmp} {cs : Array Value} {t : TypeId} (h : ∀ g, g = W.heap.size → ∀ w1, w1.heap[g]? = some (.cells cs t (0, 0)) → Below W.heap.size W w1 → wpList P ops Q rest (a.put o.dst (.pointer (some ⟨g, 0, none⟩))) w1)
 (hgd : o.guard = none := by rfl) (hd : o.dst = some N := by rfl) (hr : (execOp a.eval o).run P W = .ok (.value (.pointer (some ⟨W.heap.size, 0, none⟩))) (W.alloc (.cells cs t (0, 0))) := by first | (go_simp; done) | (go_simp; rfl)) : wpList P ops Q (o :: rest) a W := Ef hgd hd hr h
theorem dV (N : Option Tmp) (hd : o.dst = N) (hg : o.guard = none) {f : FuncId} {fn : Func} {CK : Array Operand} {ts : Array TypeId} (hf : P.funcs[f]? = some fn) (hname : (fn.name == "runtime.NumGoroutine") = false) (hb : fn.body.isSome = true) (args : Array Value)
 (hop : o.op = .call { callee := .value (.func f), args := CK, argTypes := ts }) (h : Calls P f args W fun e w' => ∃ v, e = .returned v ∧ wpList P ops Q rest (a.put N v) w')
 (hargs : CK.map a.eval = args := by (try simp only [List.map_toArray, List.map_cons, List.map_nil]); first | done | rfl | (simp only [List.length_drop, List.length_take]; rfl)) : wpList P ops Q (o :: rest) a W := DZ N hd hg hf hname hb args hop hargs h
end
section
variable {P : Program} {md : Region.Mode} {ops : Array Oper} {Q : Exit → Act → World → Prop} {S : World → Prop} {ds : List Nat} {T : Bool × List (List Nat × List Nat)} {B : List Nat} {fuel i : Nat} {l : Array Bool} {N : Option Tmp} {oi : Oper} {v : Value} {a a' : Act} {w : World}
theorem xO {K : Act → World → Prop} {f : FuncId} {fn : Func} {CK : Array Operand} {ts : Array TypeId} (hf : P.funcs[f]? = some fn) (hname : (fn.name == "runtime.NumGoroutine") = false) (hb : fn.body.isSome = true) (args : Array Value)
 (hw : Region.wanted oi (yielded ops a.tmps) = true) (hN : oi.dst = N) (hop : oi.op = .call { callee := .value (.func f), args := CK, argTypes := ts })
 (h : Calls P f args w fun e w' => ∃ v, e = .returned v ∧ K (a.put N v) w') (hargs : CK.map a.eval = args := by (try simp only [List.map_toArray, List.map_cons, List.map_nil]); first | done | rfl | (simp only [List.length_drop, List.length_take]; rfl)) : if Region.wanted oi (yielded ops a.tmps) = true then Oper.wp P oi a w K Q else K (a.put N undef) w := aEg hf hname hb args hw hN hop hargs h
theorem mH (l' : Array Bool) (hT : aC (jU md ops = T)) (h : kM P md ops Q S ds fuel l' a' w) (hi : ops[i]? = some oi := by rfl) (hN : oi.dst = N := by rfl) (hc : ry T l.toList l'.toList i = true := by kernel_rfl) (hQ : ∀ c a w, Q (.panic c) (a.put oi.dst v) w → Q (.panic c) a w := by exact fun _ _ _ h => h)
 (hw : Region.wanted oi (yielded ops a.tmps) = true := by rfl) (hv : ∀ w', (execOp a.eval oi).run P w' = .ok (.value v) w' := by intro w'; go_simp; with_reducible rfl) (ha : a.put N v = a' := by simp only [Act.put, List.setIfInBounds_toArray, List.set_cons_zero, List.set_cons_succ, dC, iC]; rfl) : kM P md ops Q S ds (fuel + 1) l a w :=
 Nt l' hi hN (aCK hT.out hc) hQ (Or.inl ⟨hw, hv⟩) ha h
theorem JD (l' : Array Bool) (hT : aC (jU md ops = T)) (hB : aC (uK T.2 B = true)) (hS : S w) (h : kM P md ops Q S ds fuel l' a' w) (hi : ops[i]? = some oi := by rfl) (hN : oi.dst = N := by rfl) (hc : qd T B ds l.toList l'.toList i = true := by kernel_rfl) (hQ : ∀ c a w, Q (.panic c) (a.put oi.dst v) w → Q (.panic c) a w := by exact fun _ _ _ h => h)
 (hw : Region.wanted oi (yielded ops a.tmps) = true := by rfl) (hv : ∀ w', S w' → (execOp a.eval oi).run P w' = .ok (.value v) w' := by intro w' hs_; repeat (have s_ := hs_.left; replace hs_ := hs_.right); go_simp; with_reducible rfl) (ha : a.put N v = a' := by simp only [Act.put, List.setIfInBounds_toArray, List.set_cons_zero, List.set_cons_succ, dC, iC]; rfl) : kM P md ops Q S ds (fuel + 1) l a w :=
 yC l' hi hN (aAO hT.out hB.out hc) hQ (Or.inl ⟨hw, hv⟩) hS ha h
theorem xP (n : Tmp) (h : kM P md ops Q S ds fuel l a' w) (hN : N = some n := by rfl) (ha : a.put (some n) v = a' := by simp only [Act.put, List.setIfInBounds_toArray, List.set_cons_zero, List.set_cons_succ, dC, iC]; rfl) : kM P md ops Q S ds fuel l (a.put N v) w := by
 subst hN
 exact aEo ha h
end
theorem aZ {p : Prop} (h : p := by first | rfl | (simp; done) | (simp [*]; done)) : p := h
theorem qX {p : Prop} (h : p := by first | omega | exact Nat.le_refl _) : aC p := ⟨h⟩
theorem iK {p q : Prop} (k : aC p) (h : p → q := by intro h_; omega) : aC q := ⟨h k.out⟩
theorem eH {p : Prop} (h : p := by first | rfl | (simp [nG, nH] <;> rfl) | (simp [*, nG, nH] <;> rfl)) : p := h
theorem uD {α : Type} {r : α} {p : Prop} (h : none = some r) : p := by cases h
theorem Lc {w : World} {g t : Nat} {cs cs' : Array Value} (h : w.heap[g]? = some (.cells cs t (0, 0))) (e : cs = cs') : w.heap[g]? = some (.cells cs' t (0, 0)) := e ▸ h
theorem Fz {w : World} {g t : Nat} {cs : Array Value} {p : Addr} {u : Value} (hp : aC (g ≠ p.block)) (h : w.heap[g]? = some (.cells cs t (0, 0))) : (w.setCell p u).heap[g]? = some (.cells cs t (0, 0)) := PV h hp.out u
theorem aU {p q : Prop} (h : aC p) (f : p → q := by intro h_; apply Lc; (repeat (first | (with_reducible first | exact h_ | refine NM ?_ _ | refine kU ?_ | refine DV ?_ _ | apply jT) | (apply Fz; assumption) | exact h_)); rfl) : q := f h.out
def bL : Nat → Nat → List Bool
 | 0, _ => []
 | n + 1, k => (k % 2 == 1) :: bL n (k / 2)
def bA (n k : Nat) : Array Bool := ⟨bL n k⟩
section
variable {P : Program} {ops : Array Oper} {rest : List Oper} {o : Oper} {a : Act} {Q : Exit → Act → World → Prop} {W : World}
theorem Ow {N : Tmp} (h : ∀ g, g = W.heap.size → ∀ w1, w1.heap[g]? = some (.map #[] 0) → Below W.heap.size W w1 → wpList P ops Q rest (a.put o.dst (.map (some g))) w1)
 (hgd : o.guard = none := by rfl) (hd : o.dst = some N := by rfl) (hr : (execOp a.eval o).run P W = .ok (.value (.map (some W.heap.size))) (W.alloc (.map #[] 0)) := by first | (go_simp; done) | (go_simp; rfl)) : wpList P ops Q (o :: rest) a W := Kd._6 hgd hr (h _ rfl _ (vL W _) (iD (Below.refl _ _) _))
end
section
variable {W0 w w1 wb : World} {g : Nat}
theorem jG {o o2 : Obj} (h : aC (w1.heap[g]? = some o)) (hw : wb = w) (f : w1.heap[g]? = some o → w.heap[g]? = some o2 := by intro h_; apply Lc; (repeat (first | (with_reducible first | exact h_ | refine NM ?_ _ | refine kU ?_ | refine DV ?_ _ | apply jT) | (apply Fz; assumption) | exact h_)); rfl) : aC (wb.heap[g]? = some o2) := ⟨by rw [hw]; exact f h.out⟩
theorem wP (h : aC (Below W0.heap.size W0 w1)) (hw : wb = w) (f : Below W0.heap.size W0 w1 → Below W0.heap.size W0 w := by intro h_; repeat (first | (with_reducible first | exact h_ | apply iD | apply nS | apply iO | refine fD ?_ (aC.out (by assumption))) | exact h_)) : aC (Below W0.heap.size W0 wb) := ⟨by rw [hw]; exact f h.out⟩
theorem Md {α : Type} {d : Kd α} {n : Nat} {ok : Nat → Prop} {w W : World} {A : Option Addr} {xs : List α} (h : Kd.F d w ok A n xs) (hb : Below w.heap.size w W) : Kd.F d W ok A n xs := Kd.TY h (fun k _ hlt => hb.block k hlt)
theorem GA {α : Type} {d : Kd α} {n : Nat} {ok : Nat → Prop} {A : Option Addr} {xs : List α} (h : aC (Kd.F d w1 ok A n xs)) (hw : wb = w) (f : Kd.F d w1 ok A n xs → Kd.F d w ok A n xs := by intro h_; repeat (first | (with_reducible first | exact h_ | refine Kd.FC ?_ (fun k hk => Nat.ne_of_lt (Nat.lt_of_lt_of_le hk (aC.out (by assumption)))) _ | refine Md ?_ (iO (Below.refl _ _)) | refine Md ?_ (nS (Below.refl _ _) _)) | exact h_)) : aC (Kd.F d wb ok A n xs) := ⟨by rw [hw]; exact f h.out⟩
end
end
def _E.f (aY : ByteArray) (aT : Int) (aV : List Int) (bC : ByteArray) : Option (ByteArray × Int × List Int × ByteArray) := some (aY, aT, aV, bC)
theorem _E.calls (aY : ByteArray) (aT : Int) (mi : Nat → Prop) (fM : Option Addr) (fO : Nat) (aV : List Int) (bC : ByteArray) (r1 : ByteArray) (r2 : Int) (r3 : List Int) (r4 : ByteArray) (w : World) (aEl : Kd.V (Kd.int .i64) 2 w w.heap.size (fun k_ => mi k_) (.slice fM aV.length fO) aV) (h : _E.f aY aT aV bC = some (r1, r2, r3, r4)) :
 Calls Tryz.prog 10 #[.agg #[.string aY, .int .i64 aT, .slice fM aV.length fO, .string bC]] w fun e w' => ∃ z8 : Value, e = .returned (.agg #[.string r1, .int .i64 r2, z8, .string r4]) ∧ Kd.V (Kd.int .i64) 2 w' w.heap.size (fun k_ => (mi k_ ∨ w.heap.size ≤ k_)) z8 r3 ∧ Below w.heap.size w w' := by
 have lZ := Tryz.underlying33; have jY := Tryz.underlying38; have UJ := aA (show Kd.V (Kd.int .i64) 2 w w.heap.size (fun k_ => (mi k_ ∨ w.heap.size ≤ k_)) (.slice fM aV.length fO) aV from Kd.jk aEl (fun k_ hk => .inl hk)); have HB := aA (Below.refl w.heap.size w); have H : (some (aY, aT, aV, bC)) = some (r1, r2, r3, r4) := h; clear h
 simp only [Option.some.injEq, Prod.mk.injEq] at H
 obtain ⟨rfl, rfl, rfl, rfl⟩ := H
 go_enter Tryz.func10, Tryz.ntmps10
 go_wp2_with (first | ((with_reducible refine cK (N := 1) rfl ?_); refine dB (N := 1) (cs := #[.string aY, .int .i64 aT, .slice fM aV.length fO, .string bC]) (t := 33) ?_; intro dG hg w2 aG hb; replace UJ := aA (Kd.SX (Kd.Fs (by (with_reducible repeat (first | apply Kd.bg | apply Kd.bn | apply Kd.ji)); exact UJ.out) dG (Nat.le_of_eq hg.symm)) hb); have aD := aA aG; have lV := bB HB hg; have lU := bB HB hg; replace HB := hbS HB hb; clear hb aG hg) | ((with_reducible refine cK (N := 2) rfl ?_); refine dB (N := 2) (cs := #[.string ⟨#[]⟩, .int .i64 0, .slice none 0 0, .string ⟨#[]⟩]) (t := 38) ?_; intro iY hg w3 aG hb; replace UJ := aA (Kd.SX (Kd.Fs (by (with_reducible repeat (first | apply Kd.bg | apply Kd.bn | apply Kd.ji)); exact UJ.out) iY (Nat.le_of_eq hg.symm)) hb); have bX := aA aG; have LU := bB HB hg; have LP := bB HB hg; replace HB := hbS HB hb; have EO := cO aD hg; have EP := dD aD hg; replace aD := aI aD hb; clear hb aG hg; have aIW := EO.out; have aIX := EP.out; obtain ⟨aCY, aCZ, aC0, aC1⟩ := aN aD; have aHg := fz aD 0; have aHh := fz aD 1; have aHi := fz aD 2; have aHj := fz aD 3; obtain ⟨aC2, aC3, aC4, aC5⟩ := aN bX; have aHk := fz bX 0; have aHl := fz bX 1; have aHm := fz bX 2; have aHn := eZ bX.out 3))
 refine bodyPost_ret (results_cell_row rfl _ _ iY 38 #[.string aY, .int .i64 aT, .slice fM aV.length fO, .string bC] (0, 0) _ rfl (aU bX) Tryz.underlying38 rfl (by kernel_rfl)) rfl ?_
 exact ⟨_, eH, by (with_reducible repeat (first | apply Kd.bg | apply Kd.bn | apply Kd.ji)); exact Kd.jk (Kd.Y7 (p := ⟨iY, 3, none⟩) (Kd.Y7 (p := ⟨iY, 2, none⟩) (Kd.Y7 (p := ⟨iY, 1, none⟩) (Kd.Y7 (p := ⟨iY, 0, none⟩) (Kd.jk UJ.out (fun k_ hk => (⟨hk, hk.2⟩ : _ ∧ k_ ≠ iY))) (fun _ hk => hk.2) (.string aY)) (fun _ hk => hk.2) (.int .i64 aT)) (fun _ hk => hk.2) (.slice fM aV.length fO)) (fun _ hk => hk.2) (.string bC)) (fun _ hk => hk.1.1.1), aJ HB⟩
section
mutual
def nR.j0 : Nat → Bool → ByteArray → Int → List Int → ByteArray → ByteArray → Int → List Int → ByteArray → Option (Bool)
 | 0, _, _, _, _, _, _, _, _, _ => none
 | k + 1, x33, vM, pO, pQ, pR, zI, uL, vN, xZ => if x33 = true then (some false) else (nR.l0 k 0 vM pO pQ pR zI uL vN xZ)
def nR.l0 : Nat → Int → ByteArray → Int → List Int → ByteArray → ByteArray → Int → List Int → ByteArray → Option (Bool)
 | 0, _, _, _, _, _, _, _, _, _ => none
 | k + 1, x5, vM, pO, pQ, pR, zI, uL, vN, xZ => if x5 < (pQ.length : Int) then (if 0 ≤ x5 then (if x5 < (vN.length : Int) then (if (rd pQ x5) = (rd vN x5) then (nR.l0 k (wrap64 (x5 + 1)) vM pO pQ pR zI uL vN xZ) else (some false)) else (none)) else (none)) else (some true)
end
def nR.f (k : Nat) (aY : ByteArray) (aT : Int) (aV : List Int) (bC : ByteArray) (lJ : ByteArray) (lK : Int) (iX : List Int) (lL : ByteArray) : Option (Bool) := if aY.toList = lJ.toList then (if aT = lK then (if bC.toList = lL.toList then (nR.j0 k ((aV.length : Int) != (iX.length : Int)) aY aT aV bC lJ lK iX lL) else (nR.j0 k true aY aT aV bC lJ lK iX lL)) else (nR.j0 k true aY aT aV bC lJ lK iX lL)) else (nR.j0 k true aY aT aV bC lJ lK iX lL)
theorem nR.calls (k : Nat) (aY : ByteArray) (aT : Int) (fM : Option Addr) (fO : Nat) (aV : List Int) (bC : ByteArray) (lJ : ByteArray) (lK : Int) (FU : Option Addr) (FX : Nat) (iX : List Int) (lL : ByteArray) (r : Bool) (w : World) (rF : Kd.C (Kd.int .i64) w fM aV.length aV) (rE : aV.length ≤ fO) (ZL : Kd.C (Kd.int .i64) w FU iX.length iX) (ZJ : iX.length ≤ FX) (h : nR.f k aY aT aV bC lJ lK iX lL = some r) :
 Calls Tryz.prog 9 #[.agg #[.string aY, .int .i64 aT, .slice fM aV.length fO, .string bC], .agg #[.string lJ, .int .i64 lK, .slice FU iX.length FX, .string lL]] w fun e w' => e = .returned (.bool r) ∧ Below w.heap.size w w' := by
 have jY := Tryz.underlying38; have tC := aA rF; have vS := aA rE; clear rF rE; have Mg := aA ZL; have aHy := aA ZJ; clear ZL ZJ; have HB := aA (Below.refl w.heap.size w); have H : (if aY.toList = lJ.toList then (if aT = lK then (if bC.toList = lL.toList then (nR.j0 k ((aV.length : Int) != (iX.length : Int)) aY aT aV bC lJ lK iX lL) else (nR.j0 k true aY aT aV bC lJ lK iX lL)) else (nR.j0 k true aY aT aV bC lJ lK iX lL)) else (nR.j0 k true aY aT aV bC lJ lK iX lL)) = some r := h; clear h; have yI := aA H; clear H
 go_enter Tryz.func9, Tryz.ntmps9
 go_upto_region 1 with (first | ((with_reducible refine cK (N := 2) rfl ?_); (try (refine uG (by rfl) ?_; dsimp only)); refine dB (N := 2) (cs := #[.string aY, .int .i64 aT, .slice fM aV.length fO, .string bC]) (t := 38) ?_; intro dG hg w4 aG hb; have aD := aA aG; have lV := bB HB hg; have lU := bB HB hg; replace HB := hbS HB hb; clear hb aG hg) | ((with_reducible refine cK (N := 3) rfl ?_); (try (refine uG (by rfl) ?_; dsimp only)); refine dB (N := 3) (cs := #[.string lJ, .int .i64 lK, .slice FU iX.length FX, .string lL]) (t := 38) ?_; intro iY hg w5 aG hb; have bX := aA aG; have LU := bB HB hg; have LP := bB HB hg; replace HB := hbS HB hb; have EO := cO aD hg; have EP := dD aD hg; replace aD := aI aD hb; clear hb aG hg))
 repeat (go_quiet (first | ((with_reducible refine cK (N := 2) rfl ?_); (try (refine uG (by rfl) ?_; dsimp only)); refine dB (N := 2) (cs := #[.string aY, .int .i64 aT, .slice fM aV.length fO, .string bC]) (t := 38) ?_; intro dG hg w4 aG hb; have aD := aA aG; have lV := bB HB hg; have lU := bB HB hg; replace HB := hbS HB hb; clear hb aG hg) | ((with_reducible refine cK (N := 3) rfl ?_); (try (refine uG (by rfl) ?_; dsimp only)); refine dB (N := 3) (cs := #[.string lJ, .int .i64 lK, .slice FU iX.length FX, .string lL]) (t := 38) ?_; intro iY hg w5 aG hb; have bX := aA aG; have LU := bB HB hg; have LP := bB HB hg; replace HB := hbS HB hb; have EO := cO aD hg; have EP := dD aD hg; replace aD := aI aD hb; clear hb aG hg)); go_upto_region 1 with (first | ((with_reducible refine cK (N := 2) rfl ?_); (try (refine uG (by rfl) ?_; dsimp only)); refine dB (N := 2) (cs := #[.string aY, .int .i64 aT, .slice fM aV.length fO, .string bC]) (t := 38) ?_; intro dG hg w4 aG hb; have aD := aA aG; have lV := bB HB hg; have lU := bB HB hg; replace HB := hbS HB hb; clear hb aG hg) | ((with_reducible refine cK (N := 3) rfl ?_); (try (refine uG (by rfl) ?_; dsimp only)); refine dB (N := 3) (cs := #[.string lJ, .int .i64 lK, .slice FU iX.length FX, .string lL]) (t := 38) ?_; intro iY hg w5 aG hb; have bX := aA aG; have LU := bB HB hg; have LP := bB HB hg; replace HB := hbS HB hb; have EO := cO aD hg; have EP := dD aD hg; replace aD := aI aD hb; clear hb aG hg)))
 (try simp only [Act.put, List.setIfInBounds_toArray, List.set_cons_zero, List.set_cons_succ])
 go_cut [33] (fun v33 wc => ∃ (kq : Nat) (ZT : Bool), v33 = .bool ZT ∧ aC (nR.j0 kq ZT aY aT aV bC lJ lK iX lL = some r) ∧ aC (kq ≤ k) ∧ aC (wc.heap[dG]? = some (.cells #[.string aY, .int .i64 aT, (.slice fM aV.length fO), .string bC] 38 (0, 0))) ∧ aC (wc.heap[iY]? = some (.cells #[.string lJ, .int .i64 lK, (.slice FU iX.length FX), .string lL] 38 (0, 0))) ∧ aC (Below w.heap.size w wc))
 case first =>
  have H := yI.out; clear yI
  by_cases c6 : aY.toList = lJ.toList
  ·
   rw [ip c6] at H; obtain ⟨kP, wD⟩ := dH c6; clear c6
   (first | rw [kP] | (simp only [dC, iC]; rw [kP]) | skip)
   by_cases c7 : aT = lK
   ·
    rw [ip c7] at H; obtain ⟨nA, zP⟩ := dH c7; clear c7
    by_cases c8 : bC.toList = lL.toList
    ·
     rw [ip c8] at H; obtain ⟨mG, EA⟩ := dH c8; clear c8; have H' := aA H; clear H; have aFg := EO.out; have aFh := EP.out; obtain ⟨G8, G9, H6, H7⟩ := aN aD; have JN := fz aD 0; have JO := fz aD 1; have JP := fz aD 2; have JQ := fz aD 3; obtain ⟨Ho, Hq, Hr, Ht⟩ := aN bX; have Iz := fz bX 0; have Ja := fz bX 1; have Jb := fz bX 2; have Jc := fz bX 3
     go_wp2
     repeat (go_quiet (fail); try go_wp2)
     go_meet
     case rel => exact ⟨_, (((aV.length : Int) != (iX.length : Int))), aZ, H', qX, ⟨fZ aD⟩, ⟨fZ bX⟩, ⟨aJ HB⟩⟩
    ·
     rw [iN c8] at H; have mG := beq_eq_false_iff_ne.mpr c8; have EA := bne_iff_ne.mpr c8; have H' := aA H; clear H; have aHO := EO.out; have aHY := EP.out; obtain ⟨Hu, Hy, Ia, Ib⟩ := aN aD; have Jd := fz aD 0; have Je := fz aD 1; have Jf := fz aD 2; have Jg := fz aD 3; obtain ⟨cu, cz, df, dh⟩ := aN bX; have aBL := fz bX 0; have aBM := fz bX 1; have aBN := fz bX 2; have aBO := fz bX 3
     go_wp2
     repeat (go_quiet (fail); try go_wp2)
     go_meet
     case rel => exact ⟨_, (true), aZ, H', qX, ⟨fZ aD⟩, ⟨fZ bX⟩, ⟨aJ HB⟩⟩
   ·
    rw [iN c7] at H; have nA := beq_eq_false_iff_ne.mpr c7; have zP := bne_iff_ne.mpr c7; have H' := aA H; clear H; have aHP := EO.out; have aHZ := EP.out; obtain ⟨X6, X8, X9, YA⟩ := aN aD; have Jl := fz aD 0; have Jm := fz aD 1; have Jn := fz aD 2; have ib := fz aD 3; obtain ⟨dz, ek, eu, fe⟩ := aN bX; have Jo := fz bX 0; have Jp := fz bX 1; have Jq := fz bX 2; have Jr := fz bX 3
    go_wp2
    repeat (go_quiet (fail); try go_wp2)
    go_meet
    case rel => exact ⟨_, (true), aZ, H', qX, ⟨fZ aD⟩, ⟨fZ bX⟩, ⟨aJ HB⟩⟩
  ·
   rw [iN c6] at H; have kP := beq_eq_false_iff_ne.mpr c6; have wD := bne_iff_ne.mpr c6
   (first | rw [kP] | (simp only [dC, iC]; rw [kP]) | skip)
   have H' := aA H; clear H; have Ng := EO.out; have Ni := EP.out; obtain ⟨YB, YC, YD, YE⟩ := aN aD; have YH := fz aD 0; have YI := fz aD 1; have YJ := fz aD 2; have YK := fz aD 3; obtain ⟨EU, EW, H8, IA⟩ := aN bX; have EX := fz bX 0; have EY := fz bX 1; have IB := fz bX 2; have IC := fz bX 3
   go_wp2
   repeat (go_quiet (fail); try go_wp2)
   go_meet
   case rel => exact ⟨_, (true), aZ, H', qX, ⟨fZ aD⟩, ⟨fZ bX⟩, ⟨aJ HB⟩⟩
 case rest =>
  clear yI; obtain ⟨kq, ZT, rfl, HA, HJ2, aD, bX, HB⟩ := hcut
  cases kq with
  | zero => exact absurd HA.out (by simp [nR.j0])
  | succ DL =>
   have H := HA.out; clear HA
   simp only [nR.j0] at H
   by_cases c21 : ZT = true
   ·
    subst c21; have H1 : (some false) = some r := by rw [ip rfl] at H; exact H
    clear H; have H := H1; clear H1; obtain rfl := Option.some.inj H
    go_wp2
    repeat (go_quiet (fail); try go_wp2)
    go_ret
    exact ⟨eH, aJ HB⟩
   ·
    replace c21 := Bool.eq_false_iff.mpr c21; subst c21; have H1 : (nR.l0 DL 0 aY aT aV bC lJ lK iX lL) = some r := by rw [iN (show ¬ (false = true) by decide)] at H; exact H
    clear H; have H := H1; clear H1; have H' := aA H; clear H
    go_wp2
    repeat (go_quiet (fail); try go_wp2)
    go_loopg [5] DL (fun kq v5 w' => ∃ (tY : Int), v5 = .int .i64 tY ∧ aC (nR.l0 kq tY aY aT aV bC lJ lK iX lL = some r) ∧ aC (kq ≤ DL) ∧ aC (w'.heap[dG]? = some (.cells #[.string aY, .int .i64 aT, (.slice fM aV.length fO), .string bC] 38 (0, 0))) ∧ aC (w'.heap[iY]? = some (.cells #[.string lJ, .int .i64 lK, (.slice FU iX.length FX), .string lL] 38 (0, 0))) ∧ aC (Below w.heap.size w w'))
    case atStart => exact ⟨(0), aZ, H', ⟨Nat.le_refl _⟩, ⟨fZ aD⟩, ⟨fZ bX⟩, ⟨aJ HB⟩⟩
    case round =>
     clear H'; obtain ⟨tY, rfl, HA, nO, aD, bX, HB⟩ := hrel
     cases gk with
     | zero => exact absurd HA.out (by simp [nR.l0])
     | succ k2 =>
      have H := HA.out; clear HA
      simp only [nR.l0] at H
      by_cases mU : tY < (aV.length : Int)
      ·
       rw [ip mU] at H; have LY := dT mU; clear mU; replace H := dU H; obtain ⟨c23, H⟩ := H; have ZA := dT c23; clear c23; replace H := dU H; obtain ⟨c24, H⟩ := H; have FH := dT c24; clear c24
       by_cases nD : (rd aV tY) = (rd iX tY)
       ·
        rw [ip nD] at H; obtain ⟨LZ, QQ⟩ := dH nD; clear nD; have H' := aA H; clear H; have aHS := EO.out; have aH2 := EP.out; obtain ⟨Ig, Ih, Ii, Ij⟩ := aN aD; have Js := fz aD 0; have Jt := fz aD 1; have Ju := fz aD 2; have Jv := fz aD 3; have j6 : 0 ≤ (tY : Int) := aK; have kC : tY < (aV.length : Int) := aK; obtain ⟨uN, rY, uI⟩ := Kd.kN tC.out tY j6 kC; cases rY; replace uI := hbc HB uI; replace j6 := eT j6; replace kC := eT kC; obtain ⟨aBi, aBj, aBk, aBl⟩ := aN bX; have aBT := fz bX 0; have aBU := fz bX 1; have aBV := fz bX 2; have aBW := fz bX 3; have jC : 0 ≤ (tY : Int) := aK; have jD : tY < (iX.length : Int) := aK; obtain ⟨uO, pV, uJ⟩ := Kd.kN Mg.out tY jC jD; cases pV; replace uJ := hbc HB uJ; replace jC := eT jC; replace jD := eT jD
        go_wp2
        repeat (go_quiet (fail); try go_wp2)
        go_roundg k2
        case measure => have := HJ2.out; have := nO.out; omega
        case rel => exact ⟨(wrap64 (tY + 1)), aZ, H', ⟨by have := HJ2.out; have := nO.out; omega⟩, ⟨fZ aD⟩, ⟨fZ bX⟩, ⟨aJ HB⟩⟩
       ·
        rw [iN nD] at H; have LZ := beq_eq_false_iff_ne.mpr nD; have QQ := bne_iff_ne.mpr nD; obtain rfl := Option.some.inj H; have aEj := EO.out; have aEk := EP.out; obtain ⟨aBq, aBr, aBs, aBt⟩ := aN aD; have aB1 := fz aD 0; have aB2 := fz aD 1; have aB3 := fz aD 2; have aB4 := fz aD 3; have j6 : 0 ≤ (tY : Int) := aK; have kC : tY < (aV.length : Int) := aK; obtain ⟨uN, rY, uI⟩ := Kd.kN tC.out tY j6 kC; cases rY; replace uI := hbc HB uI; replace j6 := eT j6; replace kC := eT kC; obtain ⟨TE, TF, TG, TH⟩ := aN bX; have ic := fz bX 0; have ig := fz bX 1; have ik := fz bX 2; have il := fz bX 3; have jC : 0 ≤ (tY : Int) := aK; have jD : tY < (iX.length : Int) := aK; obtain ⟨uO, pV, uJ⟩ := Kd.kN Mg.out tY jC jD; cases pV; replace uJ := hbc HB uJ; replace jC := eT jC; replace jD := eT jD
        go_wp2
        repeat (go_quiet (fail); try go_wp2)
        go_ret
        exact ⟨eH, aJ HB⟩
      ·
       rw [iN mU] at H; have LY := dF mU; clear mU; obtain rfl := Option.some.inj H; have Nh := EO.out; have Nj := EP.out; obtain ⟨YF, YG, fo, fq⟩ := aN aD; have Jw := fz aD 0; have Jy := fz aD 1; have aB5 := fz aD 2; have aB6 := fz aD 3
       go_wp2
       repeat (go_quiet (fail); try go_wp2)
       go_ret
       exact ⟨eH, aJ HB⟩
end
def xH (v : Nat) : Nat := if v < 128 then 1 else xH (v / 128) + 1
 decreasing_by omega
theorem PT {v : Nat} (h : v < 128) : xH v = 1 := by rw [xH, ip h]
theorem XW {v : Nat} (h : ¬ v < 128) : xH v = xH (v / 128) + 1 := by rw [xH, iN h]
def ns (s : ByteArray) : List Nat := s.data.toList.map UInt8.toNat
theorem vG (s : ByteArray) : (ns s).length = s.size := by simp [ns]
theorem oz (s : ByteArray) : ∀ c ∈ ns s, c < 256 := by
 intro c hc
 simp only [ns, List.mem_map] at hc
 obtain ⟨x, _, rfl⟩ := hc
 exact x.toNat_lt
theorem QB (s : ByteArray) (i : Nat) (h : i < s.size) : (ns s)[i]'(by rw [vG]; exact h) = (s[i]'h).toNat := by simp [ns]; rfl
theorem LJ (s : ByteArray) (i : Nat) (h : i < s.size) : (ns s).drop i = (s[i]'h).toNat :: (ns s).drop (i + 1) := by
 rw [List.drop_eq_getElem_cons (by rw [vG]; exact h), QB s i h]
theorem NK (s : ByteArray) (i : Nat) (h : s.size ≤ i) : (ns s).drop i = [] := by
 rw [List.drop_eq_nil_iff, vG]; exact h
theorem BA (s : ByteArray) (i : Nat) (h : i < s.size) : bt s i = ((s[i]'h).toNat : Int) := by simp [bt, h]
def sM : List Nat → Nat → Nat → Nat × Nat × Nat
 | [], _, _ => (0, 0, 1)
 | c :: l, n, v => if n = 9 ∧ 1 < c then (0, 0, 2) else if c < 128 then (v + c * 128 ^ n, n + 1, 0) else sM l (n + 1) (v + (c % 128) * 128 ^ n)
def eD (s : ByteArray) : Nat × Nat × Nat := sM (ns s) 0 0
def tX (v : Nat) : List Nat := if v < 128 then [v] else (v % 128 + 128) :: tX (v / 128)
 decreasing_by omega
theorem TU {v : Nat} (h : v < 128) : tX v = [v] := by rw [tX, ip h]
theorem TT {v : Nat} (h : ¬ v < 128) : tX v = (v % 128 + 128) :: tX (v / 128) := by rw [tX, iN h]
theorem Lu (n : Nat) : 128 ^ n = 2 ^ (7 * n) := by
 rw [Nat.pow_mul]
theorem LD (x : Int) : IntKind.u64.wrap x = x % 18446744073709551616 := by simp [IntKind.wrap, IntKind.bits, IntKind.signed]
theorem aCx (v c n : Nat) (hv : v < 128 ^ n) (hn : n ≤ 9) (h9 : n = 9 → c ≤ 1) :
 Go.bits .or .u64 (v : Int) (IntKind.u64.wrap ((c : Int) % 128 * 2 ^ (7 * n))) = ((v + c % 128 * 128 ^ n : Nat) : Int) := by
 have e : (c : Int) % 128 * 2 ^ (7 * n) = ((c % 128 * 2 ^ (7 * n) : Nat) : Int) := by simp
 have hp : c % 128 * 2 ^ (7 * n) < 18446744073709551616 := by
  rcases Nat.lt_or_ge n 9 with h | h
  · have h1 : 2 ^ (7 * n) ≤ 2 ^ 56 := Nat.pow_le_pow_right (by decide) (by omega)
    have h2 : c % 128 * 2 ^ (7 * n) ≤ 127 * 2 ^ 56 := Nat.mul_le_mul (by omega) h1
    omega
  · obtain rfl : n = 9 := by omega
    have := h9 rfl
    have h2 : c % 128 * 2 ^ (7 * 9) ≤ 1 * 2 ^ 63 := Nat.mul_le_mul (by omega) (by decide)
    omega
 have hw : IntKind.u64.wrap ((c : Int) % 128 * 2 ^ (7 * n)) = ((c % 128 * 2 ^ (7 * n) : Nat) : Int) := by
  rw [e, LD]; omega
 have hv2 : v < 2 ^ (7 * n) := by rw [← Lu]; exact hv
 have hv3 : v < 18446744073709551616 := by
  have : 2 ^ (7 * n) ≤ 2 ^ 63 := Nat.pow_le_pow_right (by decide) (by omega)
  omega
 rw [hw, u64_or_nat _ _ hv3 hp, Nat.or_comm, Nat.mul_comm, ← Nat.two_pow_add_eq_or_of_lt hv2, Lu, Nat.mul_comm, Nat.add_comm]
theorem XI {c n v : Nat} {l : List Nat} (h9 : n = 9 → c ≤ 1) : sM (c :: l) n v = if c < 128 then (v + c * 128 ^ n, n + 1, 0) else sM l (n + 1) (v + (c % 128) * 128 ^ n) := by
 rw [sM, iN (by omega)]
def uT (v : Nat) : ByteArray := strOfNums ((tX v).map Int.ofNat)
theorem Dk (v : Nat) : (tX v).length = xH v := by
 induction v using Nat.strongRecOn with
 | _ v ih =>
  by_cases h : v < 128
  · rw [TU h, PT h]; rfl
  · rw [TT h, XW h, List.length_cons, ih (v / 128) (by omega)]
theorem aAR (m : Nat) (k : Nat) (h : m < 128 ^ (k + 1)) : xH m ≤ k + 1 := by
 induction k generalizing m with
 | zero => rw [PT (by simpa using h)]; omega
 | succ k ih =>
  by_cases h1 : m < 128
  · rw [PT h1]; omega
  · rw [XW h1]
    have := ih (m / 128) (by rw [Nat.div_lt_iff_lt_mul (by decide)]; rw [Nat.pow_succ] at h; omega)
    omega
theorem Ff (m : Nat) : 1 ≤ xH m := by rw [xH]; split <;> omega
theorem XV (m : Nat) (h : m < 18446744073709551616) : xH m ≤ 10 := aAR m 9 (show m < 1180591620717411303424 by omega)
end Go.Proofs.YtgmggompdidcoaaGreatDoor.X
