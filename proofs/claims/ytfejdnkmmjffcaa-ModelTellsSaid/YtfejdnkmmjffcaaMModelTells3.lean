import Derived.Test.YtfejdnkmmjffcaaMModelTells0
import Derived.Test.YtfejdnkmmjffcaaMModelTells1
import Derived.Test.YtfejdnkmmjffcaaMModelTells2
import Derived.Test.YtfejdnkmmjffcaaProg
import Derived.Below
import Derived.Deep.Draws
import Derived.Deep.AppendLies
import Derived.Maps.AppendAt
import Derived.OwnWalk
import Derived.Laws.BytesArg
import Derived.Laws.MakeOwn
import Derived.Laws.OwnMore
import Derived.Deep.OwnRows
import Derived.Tactics
import Derived.Lib.ConvBytes
import Derived.Laws.Slices
import Derived.WalkKit
import Derived.KernelRfl
import Derived.RowKit3
import Derived.Deep.LoopGhost
import Derived.Deep.QuietTactic
import Derived.BigQuiet
import Derived.WideLaws
import Derived.Deep.DeepCutAuto
import Derived.Deep.CutBlock
import Derived.Deep.RegionHeld3
import Derived.Laws.Rows
import Derived.Lib.AppendStr
import Derived.ArgAppend
import Derived.Laws.IdiomCopy
import Derived.OrdersHeld
import Derived.Laws.BitsLemmas
import Derived.RowKit
import Derived.WalkLawsBesides
import Derived.MapKept
namespace Go.Proofs.YtfejdnkmmjffcaaW.PrintMore
open Go.RowKit Go.Proofs.YtfejdnkmmjffcaaW.PrintWords
namespace Kd
open Go.Proofs.YtfejdnkmmjffcaaW.PrintWords.Kd
end Kd
namespace Kd
open Go.Proofs.YtfejdnkmmjffcaaW.PrintWords.Kd
section
variable {α : Type} {d : Kd α} {e base g N : Nat} {ok : Nat → Prop} {W w1 : World} {u v : Value} {xs : List α}
theorem R_old (hu : d.R e W base ok u xs) (hb : Below W.heap.size W w1) : d.R e w1 base (fun k => ok k ∧ k < W.heap.size) u xs :=
  R_mono (R_below (R_bound hu) hb) (fun _ h => ⟨h.1, h.2.2.1⟩)
theorem R_told (h : d.R e w1 base (fun k => ok k ∧ k < N) u xs) (hbase : ∀ k, v.ownBlock = some k → N ≤ k) : d.R e w1 base (fun k => (ok k ∧ some k ≠ v.ownBlock) ∧ k < N) u xs :=
  R_mono h (fun k hk => ⟨⟨hk.1, fun e => Nat.lt_irrefl _ (Nat.lt_of_lt_of_le hk.2 (hbase k e.symm))⟩, hk.2⟩)
end
end Kd
theorem max2_int (k k' : IntKind) (x y : Int) : Builtin.max2 (.int k x) (.int k' y) = pure (.int k (if x < y then y else x)) := by simp only [Builtin.max2, gt_iff_lt]
theorem min2_int (k k' : IntKind) (x y : Int) : Builtin.min2 (.int k x) (.int k' y) = pure (.int k (if y < x then y else x)) := by simp only [Builtin.min2]
theorem max_two (ats : Array TypeId) (ty : TypeId) (a b : Value) : Builtin.max_ ats ty #[a, b] = (Builtin.max2 a b >>= fun s => pure s) := by simp only [Builtin.max_, List.foldlM_cons, List.foldlM_nil]
theorem min_two (ats : Array TypeId) (ty : TypeId) (a b : Value) : Builtin.min_ ats ty #[a, b] = (Builtin.min2 a b >>= fun s => pure s) := by simp only [Builtin.min_, List.foldlM_cons, List.foldlM_nil]
theorem max_three (ats : Array TypeId) (ty : TypeId) (a b c : Value) : Builtin.max_ ats ty #[a, b, c] = (Builtin.max2 a b >>= fun s => Builtin.max2 s c >>= fun s => pure s) := by simp only [Builtin.max_, List.foldlM_cons, List.foldlM_nil]
theorem min_three (ats : Array TypeId) (ty : TypeId) (a b c : Value) : Builtin.min_ ats ty #[a, b, c] = (Builtin.min2 a b >>= fun s => Builtin.min2 s c >>= fun s => pure s) := by simp only [Builtin.min_, List.foldlM_cons, List.foldlM_nil]
theorem max_four (ats : Array TypeId) (ty : TypeId) (a b c d : Value) : Builtin.max_ ats ty #[a, b, c, d] = (Builtin.max2 a b >>= fun s => Builtin.max2 s c >>= fun s => Builtin.max2 s d >>= fun s => pure s) := by simp only [Builtin.max_, List.foldlM_cons, List.foldlM_nil]
theorem min_four (ats : Array TypeId) (ty : TypeId) (a b c d : Value) : Builtin.min_ ats ty #[a, b, c, d] = (Builtin.min2 a b >>= fun s => Builtin.min2 s c >>= fun s => Builtin.min2 s d >>= fun s => pure s) := by simp only [Builtin.min_, List.foldlM_cons, List.foldlM_nil]
end Go.Proofs.YtfejdnkmmjffcaaW.PrintMore
namespace Go.Proofs.YtfejdnkmmjffcaaW.PrintWords
open Go.RowKit
section
variable {P : Program} {ops : Array Oper} {rest : List Oper} {o : Oper} {a : Act} {Q : Exit → Act → World → Prop} {W : World}
theorem gate_callee {f : FuncId} {as_ : Array Operand} {ts : Array TypeId} (_ho : o.op = .call { callee := .value (.func f), args := as_, argTypes := ts }) (h : wpList P ops Q (o :: rest) a W) : wpList P ops Q (o :: rest) a W := h
theorem gate_builtin {b : Builtin} {xs : Array Operand} {ts : Array TypeId} (_ho : o.op = .call { callee := .builtin b, args := xs, argTypes := ts }) (h : wpList P ops Q (o :: rest) a W) : wpList P ops Q (o :: rest) a W := h
end
def mn (a b : Int) : Int := if b < a then b else a
namespace Kd
section
variable {α : Type} {d : Kd α} {e base : Nat} {ok : Nat → Prop} {W w1 : World} {v : Value} {xs : List α}
end
section
variable {α : Type} {d : Kd α} {e base g n cap : Nat} {ok oki okp : Nat → Prop} {W : World} {xs : List α} {i : Int} {c : List Value}
end
section
variable {α : Type} {d : Kd α} {e base b b' g N : Nat} {ok ok1 : Nat → Prop} {W W2 w1 : World} {u v : Value} {xs ys : List α} {S : Nat → Prop}
end
end Kd
end Go.Proofs.YtfejdnkmmjffcaaW.PrintWords
namespace Go.Proofs.YtfejdnkmmjffcaaW.PrintWords
open Go.RowKit
namespace Kd
def V {α : Type} (d : Kd α) (_e : Nat) (W : World) (_base : Nat) (ok : Nat → Prop) (v : Value) (xs : List α) : Prop := ∃ A c, v = .slice A xs.length c ∧ xs.length ≤ c ∧ F d W ok A xs.length xs
section
variable {α β : Type} {d : Kd α} {e base base' n m c g N' lo hi : Nat} {ok ok' S : Nat → Prop} {w W w1 : World} {A : Option Addr} {ad : Addr} {u v v1 : Value} {xs : List α}
theorem V_map (h : V d e W base ok v xs) (hF : ∀ A, F d W ok A xs.length xs → F d w1 ok' A xs.length xs) : V d e w1 base' ok' v xs := by
  obtain ⟨A, c, hv, hl, hf⟩ := h
  exact ⟨A, c, hv, hl, hF A hf⟩
theorem V_mk (hl : xs.length ≤ c) (hf : F d W ok A xs.length xs) : V d e W base ok (.slice A xs.length c) xs := ⟨A, c, rfl, hl, hf⟩
theorem V_slice (h : V d e W base ok v xs) : ∃ A c, v = .slice A xs.length c := by
  obtain ⟨A, c, hv, _⟩ := h
  exact ⟨A, c, hv⟩
theorem V_at (h : V d e W base ok (.slice A n c) xs) : n = xs.length ∧ n ≤ c ∧ F d W ok A xs.length xs := by
  obtain ⟨A', c', hv, hl, hf⟩ := h
  injection hv with ha hn hc
  subst ha; subst hc
  exact ⟨hn, by rw [hn]; exact hl, hf⟩
theorem V_reads' (h : V d e W base ok (.slice A n c) xs) : n = xs.length ∧ n ≤ c ∧ d.C W A xs.length xs := ⟨(V_at h).1, (V_at h).2.1, F_now (V_at h).2.2⟩
theorem V_F (h : V d e W base ok (.slice A n c) xs) : F d W ok A n xs := by
  obtain ⟨hn, _, hf⟩ := V_at h
  rw [hn]
  exact hf
theorem V_nil (d : Kd α) (e : Nat) (W : World) (base : Nat) (ok : Nat → Prop) : V d e W base ok (.slice none 0 0) [] := ⟨none, 0, rfl, Nat.le_refl _, F_nil d W ok⟩
theorem R_V (h : d.R e W base ok v xs) : V d e W base' ok v xs := by
  obtain ⟨A, c, rfl⟩ := R_slice h
  exact ⟨A, c, rfl, (R_reads' h).2.1, R_F h⟩
theorem S_V (h : Kd.S d e W base ok v xs) : V d e W base' ok v xs := R_V (S_R h)
theorem V_mono (h : V d e W base ok v xs) (hok : ∀ k, ok k → ok' k) : V d e W base ok' v xs := V_map h (fun _ hf => F_mono hf hok)
theorem V_lower (h : V d e W base ok v xs) (_ : base' ≤ base) : V d e W base' ok v xs := h
theorem V_below (h : V d e W base ok v xs) (hb : Below W.heap.size W w1) : V d e w1 base ok v xs := V_map h (fun _ hf => F_below hf hb)
theorem V_alloc (h : V d e W base ok v xs) (o : Obj) : V d e (W.alloc o) base ok v xs := V_map h (fun _ hf => F_alloc hf o)
theorem V_drew (h : V d e W base ok v xs) : V d e W.drew base ok v xs := V_map h (fun _ hf => F_drew hf)
theorem V_drewN (h : V d e W base ok v xs) (m : Nat) : V d e (W.drewN m) base ok v xs := V_map h (fun _ hf => F_drewN hf m)
theorem V_far (h : V d e W base ok v xs) {p : Addr} (hok : ∀ k, ok k → k ≠ p.block) (u : Value) : V d e (W.setCell p u) base ok v xs := V_map h (fun _ hf => F_far hf hok u)
theorem V_after (h : V d e W base (fun k => ok k ∧ some k ≠ u.ownBlock) v xs) (hg : W.grownBy w1 u.ownBlock) (hat : v1.ownBlock = u.ownBlock ∨ ∃ b, v1.ownBlock = some b ∧ W.heap.size ≤ b) : V d e w1 base (fun k => ok k ∧ some k ≠ v1.ownBlock) v xs := V_map h (fun _ hf => F_after hf hg hat)
theorem V_afterv (h : V d e W base (fun k => ok k ∧ some k ≠ v.ownBlock) u xs) (hg : W.grownBy w1 v.ownBlock) (hat : v1.ownBlock = v.ownBlock ∨ ∃ b, v1.ownBlock = some b ∧ W.heap.size ≤ b) : V d e w1 base (fun k => ok k ∧ some k ≠ v1.ownBlock) u xs := V_after h hg hat
theorem N_afterv (h : N d e W base (fun k => ok k ∧ some k ≠ v.ownBlock) u xs) (hg : W.grownBy w1 v.ownBlock) (hat : v1.ownBlock = v.ownBlock ∨ ∃ b, v1.ownBlock = some b ∧ W.heap.size ≤ b) : N d e w1 base (fun k => ok k ∧ some k ≠ v1.ownBlock) u xs := N_after h hg hat
theorem V_elder' (h : V d e W base ok v xs) (hbase : ∀ k, u.ownBlock = some k → W.heap.size ≤ k) (hb : Below W.heap.size W w1) : V d e w1 base (fun k => ok k ∧ some k ≠ u.ownBlock) v xs := V_map h (fun _ hf => F_elder' hf hbase hb)
theorem V_elderB (h : V d e W base ok v xs) (a : Nat) (ha : W.heap.size ≤ a) : V d e W base (fun k => ok k ∧ k ≠ a) v xs := V_map h (fun _ hf => F_elderB hf a ha)
theorem V_get (h : V d e W base ok (.slice (some ad) n c) xs) (z : α) (i : Int) (h0 : 0 ≤ i) (h1 : i < n) :
    ∃ cs, cs.length = d.sz ∧ FK d W ok (xs.getD i.toNat z) cs ∧ ∀ j u, cs[j]? = some u → W.cell? (ad.add (i.toNat * d.sz + j)) = some u := by
  obtain ⟨ad', cs, he, hcl, hK, hcc, _⟩ := F_get (V_F h) z i h0 h1
  injection he with he
  subst he
  exact ⟨cs, hcl, hK, hcc⟩
end
end Kd
end Go.Proofs.YtfejdnkmmjffcaaW.PrintWords
namespace Go.Proofs.Ytfejdnkmmjffcaa.X
open Go.RowKit Go.Proofs.YtfejdnkmmjffcaaW.PrintWords Go.Proofs.YtfejdnkmmjffcaaW.PrintLast Go.Proofs.YtfejdnkmmjffcaaW.PrintMore
attribute [local go_sem] max2_int min2_int max_two min_two max_three min_three max_four min_four
set_option linter.unusedVariables false
set_option linter.unusedSimpArgs false
def errW : Option Int → Value
  | none => .nilIface
  | some c => .iface 0 (.int .i64 c)
theorem errW_none : errW none = .nilIface := rfl
theorem errW_some (c : Int) : errW (some c) = .iface 0 (.int .i64 c) := rfl
theorem info2 : (Try.prog.info? 2).map (fun i => (i.zero, i.size, i.bytes)) = some (some (.int .i64 0), 1, 8) := by kernel_rfl
theorem info9 : (Try.prog.info? 9).map (fun i => (i.zero, i.size, i.bytes)) = some (some (.string ⟨#[]⟩), 1, 16) := by kernel_rfl
theorem info40 : (Try.prog.info? 40).map (fun i => (i.zero, i.size, i.bytes)) = some (some (.agg #[(.string ⟨#[]⟩), (.int .i64 0), (.slice none 0 0)]), 3, 48) := by kernel_rfl
theorem info42 : (Try.prog.info? 42).map (fun i => (i.zero, i.size, i.bytes)) = some (some (.agg #[(.string ⟨#[]⟩), (.int .i64 0), (.slice none 0 0), (.string ⟨#[]⟩)]), 4, 64) := by kernel_rfl
theorem info46 : (Try.prog.info? 46).map (fun i => (i.zero, i.size, i.bytes)) = some (some (.agg #[(.string ⟨#[]⟩), (.slice none 0 0), (.string ⟨#[]⟩), (.slice none 0 0)]), 4, 80) := by kernel_rfl
theorem info48 : (Try.prog.info? 48).map (fun i => (i.zero, i.size, i.bytes)) = some (some (.agg #[(.string ⟨#[]⟩), (.bool false), (.int .i64 0), (.slice none 0 0)]), 4, 56) := by kernel_rfl
theorem info55 : (Try.prog.info? 55).map (fun i => (i.zero, i.size, i.bytes)) = some (some (.agg #[(.string ⟨#[]⟩), (.int .i64 0), (.slice none 0 0), (.string ⟨#[]⟩)]), 4, 64) := by kernel_rfl
theorem info59 : (Try.prog.info? 59).map (fun i => (i.zero, i.size, i.bytes)) = some (some (.agg #[(.string ⟨#[]⟩), (.slice none 0 0), (.string ⟨#[]⟩), (.slice none 0 0)]), 4, 80) := by kernel_rfl
theorem info89 : (Try.prog.info? 89).map (fun i => (i.zero, i.size, i.bytes)) = some (some (.agg #[(.string ⟨#[]⟩), (.int .i64 0), (.slice none 0 0)]), 3, 48) := by kernel_rfl
theorem info90 : (Try.prog.info? 90).map (fun i => (i.zero, i.size, i.bytes)) = some (some (.agg #[(.string ⟨#[]⟩), (.bool false), (.int .i64 0), (.slice none 0 0)]), 4, 56) := by kernel_rfl
structure S40 where
  f0 : ByteArray
  f1 : Int
  f2 : (List Int)
def z40 : S40 := ⟨(⟨#[]⟩ : ByteArray), (0 : Int), ([] : List Int)⟩
def k40 : Kd S40 := Kd.iso (Kd.pair Kd.string (Kd.pair (Kd.int .i64) (Kd.slice 2 (Kd.int .i64)))) (fun x : S40 => (x.f0, x.f1, x.f2))
theorem k40_open {w : World} {x : S40} {cs : List Value} (h : k40.K w x cs) : ∃ A2 c2, cs = [.string x.f0, .int .i64 x.f1, .slice A2 x.f2.length c2] ∧ x.f2.length ≤ c2 ∧ (Kd.int .i64).C w A2 x.f2.length x.f2 := by
  obtain ⟨_, _, rfl, rfl, ⟨_, _, rfl, rfl, ⟨A2, c2, rfl, l2, g2⟩⟩⟩ := h
  exact ⟨A2, c2, rfl, l2, g2⟩
theorem k40_mkM (w : World) (base : Nat) (ok : Nat → Prop) (x : S40) {v2 : Value} (g2 : (Kd.int .i64).R 2 w base ok v2 x.f2) : k40.M w base ok x [.string x.f0, .int .i64 x.f1, v2] := ⟨[.string x.f0], [.int .i64 x.f1, v2], rfl, rfl, ⟨[.int .i64 x.f1], [v2], rfl, rfl, ⟨v2, rfl, g2⟩⟩⟩
theorem k40_openF {W : World} {ok : Nat → Prop} {x : S40} {cs : List Value} (h : Kd.FK k40 W ok x cs) : ∃ A2 c2, cs = [.string x.f0, .int .i64 x.f1, .slice A2 x.f2.length c2] ∧ x.f2.length ≤ c2 ∧ Kd.F (Kd.int .i64) W ok A2 x.f2.length x.f2 := by
  obtain ⟨A2, c2, rfl, l2, _⟩ := k40_open (Kd.FK_now h)
  exact ⟨A2, c2, rfl, l2, (fun W' hW => by obtain ⟨A2_, c2_, he, l2_, g2_⟩ := k40_open (h W' hW); injection (Option.some.inj (show some (Value.slice A2 x.f2.length c2) = some (Value.slice A2_ x.f2.length c2_) from congrArg (fun l => l[2]?) he)) with ha_ _ _; rw [ha_]; exact g2_)⟩
def rd_T40 (xs : List S40) (i : Int) : S40 := xs.getD i.toNat z40
theorem at_T40 {w : World} {A : Option Addr} {n : Nat} {xs : List S40} (h : Kd.C k40 w A n xs) (i : Int) (h0 : 0 ≤ i) (h1 : i < n) : ∃ ad A2 c2, A = some ad ∧ w.cell? (ad.add (i.toNat * 3)) = some (.string (rd_T40 xs i).f0) ∧ w.cell? ⟨(ad.add (i.toNat * 3)).block, (ad.add (i.toNat * 3)).off + 1, none⟩ = some (.int .i64 (rd_T40 xs i).f1) ∧ w.cell? ⟨(ad.add (i.toNat * 3)).block, (ad.add (i.toNat * 3)).off + 2, none⟩ = some (.slice A2 (rd_T40 xs i).f2.length c2) ∧ (rd_T40 xs i).f2.length ≤ c2 ∧ (Kd.int .i64).C w A2 (rd_T40 xs i).f2.length (rd_T40 xs i).f2 := by
  obtain ⟨ad, c, e, _, hK, hc0⟩ := Kd.C_get h z40 i h0 h1
  have hc : ∀ j u, c[j]? = some u → w.cell? (ad.add (i.toNat * 3 + j)) = some u := hc0
  obtain ⟨A2, c2, rfl, l2, g2⟩ := k40_open hK
  exact ⟨ad, A2, c2, e, hc 0 _ rfl, by rw [← add_field _ _ 1 (by omega)]; exact hc 1 _ rfl, by rw [← add_field _ _ 2 (by omega)]; exact hc 2 _ rfl, l2, g2⟩
structure S42 where
  f0 : ByteArray
  f1 : Int
  f2 : (List Int)
  f3 : ByteArray
def z42 : S42 := ⟨(⟨#[]⟩ : ByteArray), (0 : Int), ([] : List Int), (⟨#[]⟩ : ByteArray)⟩
def k42 : Kd S42 := Kd.iso (Kd.pair Kd.string (Kd.pair (Kd.int .i64) (Kd.pair (Kd.slice 2 (Kd.int .i64)) Kd.string))) (fun x : S42 => (x.f0, x.f1, x.f2, x.f3))
theorem k42_open {w : World} {x : S42} {cs : List Value} (h : k42.K w x cs) : ∃ A2 c2, cs = [.string x.f0, .int .i64 x.f1, .slice A2 x.f2.length c2, .string x.f3] ∧ x.f2.length ≤ c2 ∧ (Kd.int .i64).C w A2 x.f2.length x.f2 := by
  obtain ⟨_, _, rfl, rfl, ⟨_, _, rfl, rfl, ⟨_, _, rfl, ⟨A2, c2, rfl, l2, g2⟩, rfl⟩⟩⟩ := h
  exact ⟨A2, c2, rfl, l2, g2⟩
theorem k42_mkM (w : World) (base : Nat) (ok : Nat → Prop) (x : S42) {v2 : Value} (g2 : (Kd.int .i64).R 2 w base ok v2 x.f2) : k42.M w base ok x [.string x.f0, .int .i64 x.f1, v2, .string x.f3] := ⟨[.string x.f0], [.int .i64 x.f1, v2, .string x.f3], rfl, rfl, ⟨[.int .i64 x.f1], [v2, .string x.f3], rfl, rfl, ⟨[v2], [.string x.f3], rfl, ⟨v2, rfl, g2⟩, rfl⟩⟩⟩
theorem k42_openF {W : World} {ok : Nat → Prop} {x : S42} {cs : List Value} (h : Kd.FK k42 W ok x cs) : ∃ A2 c2, cs = [.string x.f0, .int .i64 x.f1, .slice A2 x.f2.length c2, .string x.f3] ∧ x.f2.length ≤ c2 ∧ Kd.F (Kd.int .i64) W ok A2 x.f2.length x.f2 := by
  obtain ⟨A2, c2, rfl, l2, _⟩ := k42_open (Kd.FK_now h)
  exact ⟨A2, c2, rfl, l2, (fun W' hW => by obtain ⟨A2_, c2_, he, l2_, g2_⟩ := k42_open (h W' hW); injection (Option.some.inj (show some (Value.slice A2 x.f2.length c2) = some (Value.slice A2_ x.f2.length c2_) from congrArg (fun l => l[2]?) he)) with ha_ _ _; rw [ha_]; exact g2_)⟩
def rd_T42 (xs : List S42) (i : Int) : S42 := xs.getD i.toNat z42
theorem at_T42 {w : World} {A : Option Addr} {n : Nat} {xs : List S42} (h : Kd.C k42 w A n xs) (i : Int) (h0 : 0 ≤ i) (h1 : i < n) : ∃ ad A2 c2, A = some ad ∧ w.cell? (ad.add (i.toNat * 4)) = some (.string (rd_T42 xs i).f0) ∧ w.cell? ⟨(ad.add (i.toNat * 4)).block, (ad.add (i.toNat * 4)).off + 1, none⟩ = some (.int .i64 (rd_T42 xs i).f1) ∧ w.cell? ⟨(ad.add (i.toNat * 4)).block, (ad.add (i.toNat * 4)).off + 2, none⟩ = some (.slice A2 (rd_T42 xs i).f2.length c2) ∧ w.cell? ⟨(ad.add (i.toNat * 4)).block, (ad.add (i.toNat * 4)).off + 3, none⟩ = some (.string (rd_T42 xs i).f3) ∧ (rd_T42 xs i).f2.length ≤ c2 ∧ (Kd.int .i64).C w A2 (rd_T42 xs i).f2.length (rd_T42 xs i).f2 := by
  obtain ⟨ad, c, e, _, hK, hc0⟩ := Kd.C_get h z42 i h0 h1
  have hc : ∀ j u, c[j]? = some u → w.cell? (ad.add (i.toNat * 4 + j)) = some u := hc0
  obtain ⟨A2, c2, rfl, l2, g2⟩ := k42_open hK
  exact ⟨ad, A2, c2, e, hc 0 _ rfl, by rw [← add_field _ _ 1 (by omega)]; exact hc 1 _ rfl, by rw [← add_field _ _ 2 (by omega)]; exact hc 2 _ rfl, by rw [← add_field _ _ 3 (by omega)]; exact hc 3 _ rfl, l2, g2⟩
structure S48 where
  f0 : ByteArray
  f1 : Bool
  f2 : Int
  f3 : (List Int)
def z48 : S48 := ⟨(⟨#[]⟩ : ByteArray), false, (0 : Int), ([] : List Int)⟩
def k48 : Kd S48 := Kd.iso (Kd.pair Kd.string (Kd.pair Kd.bool (Kd.pair (Kd.int .i64) (Kd.slice 2 (Kd.int .i64))))) (fun x : S48 => (x.f0, x.f1, x.f2, x.f3))
theorem k48_open {w : World} {x : S48} {cs : List Value} (h : k48.K w x cs) : ∃ A3 c3, cs = [.string x.f0, .bool x.f1, .int .i64 x.f2, .slice A3 x.f3.length c3] ∧ x.f3.length ≤ c3 ∧ (Kd.int .i64).C w A3 x.f3.length x.f3 := by
  obtain ⟨_, _, rfl, rfl, ⟨_, _, rfl, rfl, ⟨_, _, rfl, rfl, ⟨A3, c3, rfl, l3, g3⟩⟩⟩⟩ := h
  exact ⟨A3, c3, rfl, l3, g3⟩
theorem k48_mk (w : World) (x : S48) {A3 : Option Addr} {c3 : Nat} (l3 : x.f3.length ≤ c3) (g3 : (Kd.int .i64).C w A3 x.f3.length x.f3) : k48.K w x [.string x.f0, .bool x.f1, .int .i64 x.f2, .slice A3 x.f3.length c3] := ⟨[.string x.f0], [.bool x.f1, .int .i64 x.f2, .slice A3 x.f3.length c3], rfl, rfl, ⟨[.bool x.f1], [.int .i64 x.f2, .slice A3 x.f3.length c3], rfl, rfl, ⟨[.int .i64 x.f2], [.slice A3 x.f3.length c3], rfl, rfl, ⟨A3, c3, rfl, l3, g3⟩⟩⟩⟩
theorem k48_mkM (w : World) (base : Nat) (ok : Nat → Prop) (x : S48) {v3 : Value} (g3 : (Kd.int .i64).R 2 w base ok v3 x.f3) : k48.M w base ok x [.string x.f0, .bool x.f1, .int .i64 x.f2, v3] := ⟨[.string x.f0], [.bool x.f1, .int .i64 x.f2, v3], rfl, rfl, ⟨[.bool x.f1], [.int .i64 x.f2, v3], rfl, rfl, ⟨[.int .i64 x.f2], [v3], rfl, rfl, ⟨v3, rfl, g3⟩⟩⟩⟩
theorem k48_openF {W : World} {ok : Nat → Prop} {x : S48} {cs : List Value} (h : Kd.FK k48 W ok x cs) : ∃ A3 c3, cs = [.string x.f0, .bool x.f1, .int .i64 x.f2, .slice A3 x.f3.length c3] ∧ x.f3.length ≤ c3 ∧ Kd.F (Kd.int .i64) W ok A3 x.f3.length x.f3 := by
  obtain ⟨A3, c3, rfl, l3, _⟩ := k48_open (Kd.FK_now h)
  exact ⟨A3, c3, rfl, l3, (fun W' hW => by obtain ⟨A3_, c3_, he, l3_, g3_⟩ := k48_open (h W' hW); injection (Option.some.inj (show some (Value.slice A3 x.f3.length c3) = some (Value.slice A3_ x.f3.length c3_) from congrArg (fun l => l[3]?) he)) with ha_ _ _; rw [ha_]; exact g3_)⟩
theorem k48_mkF (W : World) (ok : Nat → Prop) (x : S48) {A3 : Option Addr} {c3 : Nat} (l3 : x.f3.length ≤ c3) (g3 : Kd.F (Kd.int .i64) W ok A3 x.f3.length x.f3) : Kd.FK k48 W ok x [.string x.f0, .bool x.f1, .int .i64 x.f2, .slice A3 x.f3.length c3] := fun W2 hW => k48_mk W2 x l3 (g3 W2 hW)
def rd_T48 (xs : List S48) (i : Int) : S48 := xs.getD i.toNat z48
theorem at_T48 {w : World} {A : Option Addr} {n : Nat} {xs : List S48} (h : Kd.C k48 w A n xs) (i : Int) (h0 : 0 ≤ i) (h1 : i < n) : ∃ ad A3 c3, A = some ad ∧ w.cell? (ad.add (i.toNat * 4)) = some (.string (rd_T48 xs i).f0) ∧ w.cell? ⟨(ad.add (i.toNat * 4)).block, (ad.add (i.toNat * 4)).off + 1, none⟩ = some (.bool (rd_T48 xs i).f1) ∧ w.cell? ⟨(ad.add (i.toNat * 4)).block, (ad.add (i.toNat * 4)).off + 2, none⟩ = some (.int .i64 (rd_T48 xs i).f2) ∧ w.cell? ⟨(ad.add (i.toNat * 4)).block, (ad.add (i.toNat * 4)).off + 3, none⟩ = some (.slice A3 (rd_T48 xs i).f3.length c3) ∧ (rd_T48 xs i).f3.length ≤ c3 ∧ (Kd.int .i64).C w A3 (rd_T48 xs i).f3.length (rd_T48 xs i).f3 := by
  obtain ⟨ad, c, e, _, hK, hc0⟩ := Kd.C_get h z48 i h0 h1
  have hc : ∀ j u, c[j]? = some u → w.cell? (ad.add (i.toNat * 4 + j)) = some u := hc0
  obtain ⟨A3, c3, rfl, l3, g3⟩ := k48_open hK
  exact ⟨ad, A3, c3, e, hc 0 _ rfl, by rw [← add_field _ _ 1 (by omega)]; exact hc 1 _ rfl, by rw [← add_field _ _ 2 (by omega)]; exact hc 2 _ rfl, by rw [← add_field _ _ 3 (by omega)]; exact hc 3 _ rfl, l3, g3⟩
structure S46 where
  f0 : ByteArray
  f1 : (List ByteArray)
  f2 : ByteArray
  f3 : (List S48)
def z46 : S46 := ⟨(⟨#[]⟩ : ByteArray), ([] : List ByteArray), (⟨#[]⟩ : ByteArray), ([] : List S48)⟩
def k46 : Kd S46 := Kd.iso (Kd.pair Kd.string (Kd.pair (Kd.slice 9 Kd.string) (Kd.pair Kd.string (Kd.slice 48 k48)))) (fun x : S46 => (x.f0, x.f1, x.f2, x.f3))
theorem k46_open {w : World} {x : S46} {cs : List Value} (h : k46.K w x cs) : ∃ A1 c1 A3 c3, cs = [.string x.f0, .slice A1 x.f1.length c1, .string x.f2, .slice A3 x.f3.length c3] ∧ x.f1.length ≤ c1 ∧ Kd.string.C w A1 x.f1.length x.f1 ∧ x.f3.length ≤ c3 ∧ k48.C w A3 x.f3.length x.f3 := by
  obtain ⟨_, _, rfl, rfl, ⟨_, _, rfl, ⟨A1, c1, rfl, l1, g1⟩, ⟨_, _, rfl, rfl, ⟨A3, c3, rfl, l3, g3⟩⟩⟩⟩ := h
  exact ⟨A1, c1, A3, c3, rfl, l1, g1, l3, g3⟩
theorem k46_mkM (w : World) (base : Nat) (ok : Nat → Prop) (x : S46) {v1 : Value} (g1 : Kd.string.R 9 w base ok v1 x.f1) {v3 : Value} (g3 : k48.R 48 w base ok v3 x.f3) : k46.M w base ok x [.string x.f0, v1, .string x.f2, v3] := ⟨[.string x.f0], [v1, .string x.f2, v3], rfl, rfl, ⟨[v1], [.string x.f2, v3], rfl, ⟨v1, rfl, g1⟩, ⟨[.string x.f2], [v3], rfl, rfl, ⟨v3, rfl, g3⟩⟩⟩⟩
theorem k46_openF {W : World} {ok : Nat → Prop} {x : S46} {cs : List Value} (h : Kd.FK k46 W ok x cs) : ∃ A1 c1 A3 c3, cs = [.string x.f0, .slice A1 x.f1.length c1, .string x.f2, .slice A3 x.f3.length c3] ∧ x.f1.length ≤ c1 ∧ Kd.F Kd.string W ok A1 x.f1.length x.f1 ∧ x.f3.length ≤ c3 ∧ Kd.F k48 W ok A3 x.f3.length x.f3 := by
  obtain ⟨A1, c1, A3, c3, rfl, l1, _, l3, _⟩ := k46_open (Kd.FK_now h)
  exact ⟨A1, c1, A3, c3, rfl, l1, (fun W' hW => by obtain ⟨A1_, c1_, A3_, c3_, he, l1_, g1_, l3_, g3_⟩ := k46_open (h W' hW); injection (Option.some.inj (show some (Value.slice A1 x.f1.length c1) = some (Value.slice A1_ x.f1.length c1_) from congrArg (fun l => l[1]?) he)) with ha_ _ _; rw [ha_]; exact g1_), l3, (fun W' hW => by obtain ⟨A1_, c1_, A3_, c3_, he, l1_, g1_, l3_, g3_⟩ := k46_open (h W' hW); injection (Option.some.inj (show some (Value.slice A3 x.f3.length c3) = some (Value.slice A3_ x.f3.length c3_) from congrArg (fun l => l[3]?) he)) with ha_ _ _; rw [ha_]; exact g3_)⟩
def rd_T46 (xs : List S46) (i : Int) : S46 := xs.getD i.toNat z46
theorem at_T46 {w : World} {A : Option Addr} {n : Nat} {xs : List S46} (h : Kd.C k46 w A n xs) (i : Int) (h0 : 0 ≤ i) (h1 : i < n) : ∃ ad A1 c1 A3 c3, A = some ad ∧ w.cell? (ad.add (i.toNat * 4)) = some (.string (rd_T46 xs i).f0) ∧ w.cell? ⟨(ad.add (i.toNat * 4)).block, (ad.add (i.toNat * 4)).off + 1, none⟩ = some (.slice A1 (rd_T46 xs i).f1.length c1) ∧ w.cell? ⟨(ad.add (i.toNat * 4)).block, (ad.add (i.toNat * 4)).off + 2, none⟩ = some (.string (rd_T46 xs i).f2) ∧ w.cell? ⟨(ad.add (i.toNat * 4)).block, (ad.add (i.toNat * 4)).off + 3, none⟩ = some (.slice A3 (rd_T46 xs i).f3.length c3) ∧ (rd_T46 xs i).f1.length ≤ c1 ∧ Kd.string.C w A1 (rd_T46 xs i).f1.length (rd_T46 xs i).f1 ∧ (rd_T46 xs i).f3.length ≤ c3 ∧ k48.C w A3 (rd_T46 xs i).f3.length (rd_T46 xs i).f3 := by
  obtain ⟨ad, c, e, _, hK, hc0⟩ := Kd.C_get h z46 i h0 h1
  have hc : ∀ j u, c[j]? = some u → w.cell? (ad.add (i.toNat * 4 + j)) = some u := hc0
  obtain ⟨A1, c1, A3, c3, rfl, l1, g1, l3, g3⟩ := k46_open hK
  exact ⟨ad, A1, c1, A3, c3, e, hc 0 _ rfl, by rw [← add_field _ _ 1 (by omega)]; exact hc 1 _ rfl, by rw [← add_field _ _ 2 (by omega)]; exact hc 2 _ rfl, by rw [← add_field _ _ 3 (by omega)]; exact hc 3 _ rfl, l1, g1, l3, g3⟩
structure S89 where
  f0 : ByteArray
  f1 : Int
  f2 : (List Int)
def z89 : S89 := ⟨(⟨#[]⟩ : ByteArray), (0 : Int), ([] : List Int)⟩
def k89 : Kd S89 := Kd.iso (Kd.pair Kd.string (Kd.pair (Kd.int .i64) (Kd.slice 2 (Kd.int .i64)))) (fun x : S89 => (x.f0, x.f1, x.f2))
theorem k89_open {w : World} {x : S89} {cs : List Value} (h : k89.K w x cs) : ∃ A2 c2, cs = [.string x.f0, .int .i64 x.f1, .slice A2 x.f2.length c2] ∧ x.f2.length ≤ c2 ∧ (Kd.int .i64).C w A2 x.f2.length x.f2 := by
  obtain ⟨_, _, rfl, rfl, ⟨_, _, rfl, rfl, ⟨A2, c2, rfl, l2, g2⟩⟩⟩ := h
  exact ⟨A2, c2, rfl, l2, g2⟩
theorem k89_mk (w : World) (x : S89) {A2 : Option Addr} {c2 : Nat} (l2 : x.f2.length ≤ c2) (g2 : (Kd.int .i64).C w A2 x.f2.length x.f2) : k89.K w x [.string x.f0, .int .i64 x.f1, .slice A2 x.f2.length c2] := ⟨[.string x.f0], [.int .i64 x.f1, .slice A2 x.f2.length c2], rfl, rfl, ⟨[.int .i64 x.f1], [.slice A2 x.f2.length c2], rfl, rfl, ⟨A2, c2, rfl, l2, g2⟩⟩⟩
theorem k89_mkF (W : World) (ok : Nat → Prop) (x : S89) {A2 : Option Addr} {c2 : Nat} (l2 : x.f2.length ≤ c2) (g2 : Kd.F (Kd.int .i64) W ok A2 x.f2.length x.f2) : Kd.FK k89 W ok x [.string x.f0, .int .i64 x.f1, .slice A2 x.f2.length c2] := fun W2 hW => k89_mk W2 x l2 (g2 W2 hW)
def rd_T89 (xs : List S89) (i : Int) : S89 := xs.getD i.toNat z89
theorem at_T89 {w : World} {A : Option Addr} {n : Nat} {xs : List S89} (h : Kd.C k89 w A n xs) (i : Int) (h0 : 0 ≤ i) (h1 : i < n) : ∃ ad A2 c2, A = some ad ∧ w.cell? (ad.add (i.toNat * 3)) = some (.string (rd_T89 xs i).f0) ∧ w.cell? ⟨(ad.add (i.toNat * 3)).block, (ad.add (i.toNat * 3)).off + 1, none⟩ = some (.int .i64 (rd_T89 xs i).f1) ∧ w.cell? ⟨(ad.add (i.toNat * 3)).block, (ad.add (i.toNat * 3)).off + 2, none⟩ = some (.slice A2 (rd_T89 xs i).f2.length c2) ∧ (rd_T89 xs i).f2.length ≤ c2 ∧ (Kd.int .i64).C w A2 (rd_T89 xs i).f2.length (rd_T89 xs i).f2 := by
  obtain ⟨ad, c, e, _, hK, hc0⟩ := Kd.C_get h z89 i h0 h1
  have hc : ∀ j u, c[j]? = some u → w.cell? (ad.add (i.toNat * 3 + j)) = some u := hc0
  obtain ⟨A2, c2, rfl, l2, g2⟩ := k89_open hK
  exact ⟨ad, A2, c2, e, hc 0 _ rfl, by rw [← add_field _ _ 1 (by omega)]; exact hc 1 _ rfl, by rw [← add_field _ _ 2 (by omega)]; exact hc 2 _ rfl, l2, g2⟩
structure S90 where
  f0 : ByteArray
  f1 : Bool
  f2 : Int
  f3 : (List Int)
def z90 : S90 := ⟨(⟨#[]⟩ : ByteArray), false, (0 : Int), ([] : List Int)⟩
def k90 : Kd S90 := Kd.iso (Kd.pair Kd.string (Kd.pair Kd.bool (Kd.pair (Kd.int .i64) (Kd.slice 2 (Kd.int .i64))))) (fun x : S90 => (x.f0, x.f1, x.f2, x.f3))
theorem k90_open {w : World} {x : S90} {cs : List Value} (h : k90.K w x cs) : ∃ A3 c3, cs = [.string x.f0, .bool x.f1, .int .i64 x.f2, .slice A3 x.f3.length c3] ∧ x.f3.length ≤ c3 ∧ (Kd.int .i64).C w A3 x.f3.length x.f3 := by
  obtain ⟨_, _, rfl, rfl, ⟨_, _, rfl, rfl, ⟨_, _, rfl, rfl, ⟨A3, c3, rfl, l3, g3⟩⟩⟩⟩ := h
  exact ⟨A3, c3, rfl, l3, g3⟩
theorem k90_mk (w : World) (x : S90) {A3 : Option Addr} {c3 : Nat} (l3 : x.f3.length ≤ c3) (g3 : (Kd.int .i64).C w A3 x.f3.length x.f3) : k90.K w x [.string x.f0, .bool x.f1, .int .i64 x.f2, .slice A3 x.f3.length c3] := ⟨[.string x.f0], [.bool x.f1, .int .i64 x.f2, .slice A3 x.f3.length c3], rfl, rfl, ⟨[.bool x.f1], [.int .i64 x.f2, .slice A3 x.f3.length c3], rfl, rfl, ⟨[.int .i64 x.f2], [.slice A3 x.f3.length c3], rfl, rfl, ⟨A3, c3, rfl, l3, g3⟩⟩⟩⟩
theorem k90_mkF (W : World) (ok : Nat → Prop) (x : S90) {A3 : Option Addr} {c3 : Nat} (l3 : x.f3.length ≤ c3) (g3 : Kd.F (Kd.int .i64) W ok A3 x.f3.length x.f3) : Kd.FK k90 W ok x [.string x.f0, .bool x.f1, .int .i64 x.f2, .slice A3 x.f3.length c3] := fun W2 hW => k90_mk W2 x l3 (g3 W2 hW)
def rd_T90 (xs : List S90) (i : Int) : S90 := xs.getD i.toNat z90
theorem at_T90 {w : World} {A : Option Addr} {n : Nat} {xs : List S90} (h : Kd.C k90 w A n xs) (i : Int) (h0 : 0 ≤ i) (h1 : i < n) : ∃ ad A3 c3, A = some ad ∧ w.cell? (ad.add (i.toNat * 4)) = some (.string (rd_T90 xs i).f0) ∧ w.cell? ⟨(ad.add (i.toNat * 4)).block, (ad.add (i.toNat * 4)).off + 1, none⟩ = some (.bool (rd_T90 xs i).f1) ∧ w.cell? ⟨(ad.add (i.toNat * 4)).block, (ad.add (i.toNat * 4)).off + 2, none⟩ = some (.int .i64 (rd_T90 xs i).f2) ∧ w.cell? ⟨(ad.add (i.toNat * 4)).block, (ad.add (i.toNat * 4)).off + 3, none⟩ = some (.slice A3 (rd_T90 xs i).f3.length c3) ∧ (rd_T90 xs i).f3.length ≤ c3 ∧ (Kd.int .i64).C w A3 (rd_T90 xs i).f3.length (rd_T90 xs i).f3 := by
  obtain ⟨ad, c, e, _, hK, hc0⟩ := Kd.C_get h z90 i h0 h1
  have hc : ∀ j u, c[j]? = some u → w.cell? (ad.add (i.toNat * 4 + j)) = some u := hc0
  obtain ⟨A3, c3, rfl, l3, g3⟩ := k90_open hK
  exact ⟨ad, A3, c3, e, hc 0 _ rfl, by rw [← add_field _ _ 1 (by omega)]; exact hc 1 _ rfl, by rw [← add_field _ _ 2 (by omega)]; exact hc 2 _ rfl, by rw [← add_field _ _ 3 (by omega)]; exact hc 3 _ rfl, l3, g3⟩
structure S55 where
  f0 : ByteArray
  f1 : Int
  f2 : (List Int)
  f3 : ByteArray
def z55 : S55 := ⟨(⟨#[]⟩ : ByteArray), (0 : Int), ([] : List Int), (⟨#[]⟩ : ByteArray)⟩
def k55 : Kd S55 := Kd.iso (Kd.pair Kd.string (Kd.pair (Kd.int .i64) (Kd.pair (Kd.slice 2 (Kd.int .i64)) Kd.string))) (fun x : S55 => (x.f0, x.f1, x.f2, x.f3))
theorem k55_open {w : World} {x : S55} {cs : List Value} (h : k55.K w x cs) : ∃ A2 c2, cs = [.string x.f0, .int .i64 x.f1, .slice A2 x.f2.length c2, .string x.f3] ∧ x.f2.length ≤ c2 ∧ (Kd.int .i64).C w A2 x.f2.length x.f2 := by
  obtain ⟨_, _, rfl, rfl, ⟨_, _, rfl, rfl, ⟨_, _, rfl, ⟨A2, c2, rfl, l2, g2⟩, rfl⟩⟩⟩ := h
  exact ⟨A2, c2, rfl, l2, g2⟩
theorem k55_mk (w : World) (x : S55) {A2 : Option Addr} {c2 : Nat} (l2 : x.f2.length ≤ c2) (g2 : (Kd.int .i64).C w A2 x.f2.length x.f2) : k55.K w x [.string x.f0, .int .i64 x.f1, .slice A2 x.f2.length c2, .string x.f3] := ⟨[.string x.f0], [.int .i64 x.f1, .slice A2 x.f2.length c2, .string x.f3], rfl, rfl, ⟨[.int .i64 x.f1], [.slice A2 x.f2.length c2, .string x.f3], rfl, rfl, ⟨[.slice A2 x.f2.length c2], [.string x.f3], rfl, ⟨A2, c2, rfl, l2, g2⟩, rfl⟩⟩⟩
theorem k55_mkF (W : World) (ok : Nat → Prop) (x : S55) {A2 : Option Addr} {c2 : Nat} (l2 : x.f2.length ≤ c2) (g2 : Kd.F (Kd.int .i64) W ok A2 x.f2.length x.f2) : Kd.FK k55 W ok x [.string x.f0, .int .i64 x.f1, .slice A2 x.f2.length c2, .string x.f3] := fun W2 hW => k55_mk W2 x l2 (g2 W2 hW)
def rd_T55 (xs : List S55) (i : Int) : S55 := xs.getD i.toNat z55
theorem at_T55 {w : World} {A : Option Addr} {n : Nat} {xs : List S55} (h : Kd.C k55 w A n xs) (i : Int) (h0 : 0 ≤ i) (h1 : i < n) : ∃ ad A2 c2, A = some ad ∧ w.cell? (ad.add (i.toNat * 4)) = some (.string (rd_T55 xs i).f0) ∧ w.cell? ⟨(ad.add (i.toNat * 4)).block, (ad.add (i.toNat * 4)).off + 1, none⟩ = some (.int .i64 (rd_T55 xs i).f1) ∧ w.cell? ⟨(ad.add (i.toNat * 4)).block, (ad.add (i.toNat * 4)).off + 2, none⟩ = some (.slice A2 (rd_T55 xs i).f2.length c2) ∧ w.cell? ⟨(ad.add (i.toNat * 4)).block, (ad.add (i.toNat * 4)).off + 3, none⟩ = some (.string (rd_T55 xs i).f3) ∧ (rd_T55 xs i).f2.length ≤ c2 ∧ (Kd.int .i64).C w A2 (rd_T55 xs i).f2.length (rd_T55 xs i).f2 := by
  obtain ⟨ad, c, e, _, hK, hc0⟩ := Kd.C_get h z55 i h0 h1
  have hc : ∀ j u, c[j]? = some u → w.cell? (ad.add (i.toNat * 4 + j)) = some u := hc0
  obtain ⟨A2, c2, rfl, l2, g2⟩ := k55_open hK
  exact ⟨ad, A2, c2, e, hc 0 _ rfl, by rw [← add_field _ _ 1 (by omega)]; exact hc 1 _ rfl, by rw [← add_field _ _ 2 (by omega)]; exact hc 2 _ rfl, by rw [← add_field _ _ 3 (by omega)]; exact hc 3 _ rfl, l2, g2⟩
structure S59 where
  f0 : ByteArray
  f1 : (List ByteArray)
  f2 : ByteArray
  f3 : (List S90)
def z59 : S59 := ⟨(⟨#[]⟩ : ByteArray), ([] : List ByteArray), (⟨#[]⟩ : ByteArray), ([] : List S90)⟩
def k59 : Kd S59 := Kd.iso (Kd.pair Kd.string (Kd.pair (Kd.slice 9 Kd.string) (Kd.pair Kd.string (Kd.slice 90 k90)))) (fun x : S59 => (x.f0, x.f1, x.f2, x.f3))
theorem k59_open {w : World} {x : S59} {cs : List Value} (h : k59.K w x cs) : ∃ A1 c1 A3 c3, cs = [.string x.f0, .slice A1 x.f1.length c1, .string x.f2, .slice A3 x.f3.length c3] ∧ x.f1.length ≤ c1 ∧ Kd.string.C w A1 x.f1.length x.f1 ∧ x.f3.length ≤ c3 ∧ k90.C w A3 x.f3.length x.f3 := by
  obtain ⟨_, _, rfl, rfl, ⟨_, _, rfl, ⟨A1, c1, rfl, l1, g1⟩, ⟨_, _, rfl, rfl, ⟨A3, c3, rfl, l3, g3⟩⟩⟩⟩ := h
  exact ⟨A1, c1, A3, c3, rfl, l1, g1, l3, g3⟩
theorem k59_mk (w : World) (x : S59) {A1 : Option Addr} {c1 : Nat} (l1 : x.f1.length ≤ c1) (g1 : Kd.string.C w A1 x.f1.length x.f1) {A3 : Option Addr} {c3 : Nat} (l3 : x.f3.length ≤ c3) (g3 : k90.C w A3 x.f3.length x.f3) : k59.K w x [.string x.f0, .slice A1 x.f1.length c1, .string x.f2, .slice A3 x.f3.length c3] := ⟨[.string x.f0], [.slice A1 x.f1.length c1, .string x.f2, .slice A3 x.f3.length c3], rfl, rfl, ⟨[.slice A1 x.f1.length c1], [.string x.f2, .slice A3 x.f3.length c3], rfl, ⟨A1, c1, rfl, l1, g1⟩, ⟨[.string x.f2], [.slice A3 x.f3.length c3], rfl, rfl, ⟨A3, c3, rfl, l3, g3⟩⟩⟩⟩
theorem k59_mkF (W : World) (ok : Nat → Prop) (x : S59) {A1 : Option Addr} {c1 : Nat} (l1 : x.f1.length ≤ c1) (g1 : Kd.F Kd.string W ok A1 x.f1.length x.f1) {A3 : Option Addr} {c3 : Nat} (l3 : x.f3.length ≤ c3) (g3 : Kd.F k90 W ok A3 x.f3.length x.f3) : Kd.FK k59 W ok x [.string x.f0, .slice A1 x.f1.length c1, .string x.f2, .slice A3 x.f3.length c3] := fun W2 hW => k59_mk W2 x l1 (g1 W2 hW) l3 (g3 W2 hW)
def rd_T59 (xs : List S59) (i : Int) : S59 := xs.getD i.toNat z59
theorem at_T59 {w : World} {A : Option Addr} {n : Nat} {xs : List S59} (h : Kd.C k59 w A n xs) (i : Int) (h0 : 0 ≤ i) (h1 : i < n) : ∃ ad A1 c1 A3 c3, A = some ad ∧ w.cell? (ad.add (i.toNat * 4)) = some (.string (rd_T59 xs i).f0) ∧ w.cell? ⟨(ad.add (i.toNat * 4)).block, (ad.add (i.toNat * 4)).off + 1, none⟩ = some (.slice A1 (rd_T59 xs i).f1.length c1) ∧ w.cell? ⟨(ad.add (i.toNat * 4)).block, (ad.add (i.toNat * 4)).off + 2, none⟩ = some (.string (rd_T59 xs i).f2) ∧ w.cell? ⟨(ad.add (i.toNat * 4)).block, (ad.add (i.toNat * 4)).off + 3, none⟩ = some (.slice A3 (rd_T59 xs i).f3.length c3) ∧ (rd_T59 xs i).f1.length ≤ c1 ∧ Kd.string.C w A1 (rd_T59 xs i).f1.length (rd_T59 xs i).f1 ∧ (rd_T59 xs i).f3.length ≤ c3 ∧ k90.C w A3 (rd_T59 xs i).f3.length (rd_T59 xs i).f3 := by
  obtain ⟨ad, c, e, _, hK, hc0⟩ := Kd.C_get h z59 i h0 h1
  have hc : ∀ j u, c[j]? = some u → w.cell? (ad.add (i.toNat * 4 + j)) = some u := hc0
  obtain ⟨A1, c1, A3, c3, rfl, l1, g1, l3, g3⟩ := k59_open hK
  exact ⟨ad, A1, c1, A3, c3, e, hc 0 _ rfl, by rw [← add_field _ _ 1 (by omega)]; exact hc 1 _ rfl, by rw [← add_field _ _ 2 (by omega)]; exact hc 2 _ rfl, by rw [← add_field _ _ 3 (by omega)]; exact hc 3 _ rfl, l1, g1, l3, g3⟩
structure S7 where
  f0 : Int
  f1 : Int
  f2 : Bool
  f3 : Int
structure S8 where
  f0 : Int
  f1 : Int
  f2 : Bool
  f3 : Int
structure S13 where
  f0 : ByteArray
  f1 : Int
structure S14 where
  f0 : ByteArray
  f1 : Int
structure S25 where
  f0 : Int
  f1 : (List S40)
  f2 : (List S40)
  f3 : (List S42)
  f4 : (List S46)
structure S26 where
  f0 : Int
  f1 : (List S40)
  f2 : (List S40)
  f3 : (List S42)
  f4 : (List S46)
def k26 : Kd S26 := Kd.iso (Kd.pair (Kd.int .i64) (Kd.pair (Kd.slice 40 k40) (Kd.pair (Kd.slice 40 k40) (Kd.pair (Kd.slice 42 k42) (Kd.slice 46 k46))))) (fun x : S26 => (x.f0, x.f1, x.f2, x.f3, x.f4))
theorem k26_open {w : World} {x : S26} {cs : List Value} (h : k26.K w x cs) : ∃ A1 c1 A2 c2 A3 c3 A4 c4, cs = [.int .i64 x.f0, .slice A1 x.f1.length c1, .slice A2 x.f2.length c2, .slice A3 x.f3.length c3, .slice A4 x.f4.length c4] ∧ x.f1.length ≤ c1 ∧ k40.C w A1 x.f1.length x.f1 ∧ x.f2.length ≤ c2 ∧ k40.C w A2 x.f2.length x.f2 ∧ x.f3.length ≤ c3 ∧ k42.C w A3 x.f3.length x.f3 ∧ x.f4.length ≤ c4 ∧ k46.C w A4 x.f4.length x.f4 := by
  obtain ⟨_, _, rfl, rfl, ⟨_, _, rfl, ⟨A1, c1, rfl, l1, g1⟩, ⟨_, _, rfl, ⟨A2, c2, rfl, l2, g2⟩, ⟨_, _, rfl, ⟨A3, c3, rfl, l3, g3⟩, ⟨A4, c4, rfl, l4, g4⟩⟩⟩⟩⟩ := h
  exact ⟨A1, c1, A2, c2, A3, c3, A4, c4, rfl, l1, g1, l2, g2, l3, g3, l4, g4⟩
structure S32 where
  f0 : Int
  f1 : (List S89)
  f2 : (List S89)
  f3 : (List S55)
  f4 : (List S59)
structure S33 where
  f0 : Int
  f1 : (List S89)
  f2 : (List S89)
  f3 : (List S55)
  f4 : (List S59)
structure S39 where
  f0 : ByteArray
  f1 : Int
  f2 : (List Int)
structure S41 where
  f0 : ByteArray
  f1 : Int
  f2 : (List Int)
  f3 : ByteArray
structure S45 where
  f0 : ByteArray
  f1 : (List ByteArray)
  f2 : ByteArray
  f3 : (List S48)
structure S47 where
  f0 : ByteArray
  f1 : Bool
  f2 : Int
  f3 : (List Int)
structure S54 where
  f0 : ByteArray
  f1 : Int
  f2 : (List Int)
  f3 : ByteArray
structure S58 where
  f0 : ByteArray
  f1 : (List ByteArray)
  f2 : ByteArray
  f3 : (List S90)
structure S88 where
  f0 : ByteArray
  f1 : Int
  f2 : (List Int)
structure S122 where
  f0 : Int
  f1 : ByteArray
structure S123 where
  f0 : Int
  f1 : ByteArray
def kEntry (k sz : Int) (s : ByteArray) (n : Nat) : MapEntry := { key := .int .i64 k, val := .agg #[.int .i64 sz, .string s], born := n }
def known5 : Array MapEntry := #[kEntry 1 4 ⟨#[102, 108, 111, 97, 116]⟩ 0, kEntry 2 1 ⟨#[98, 121, 116, 101]⟩ 1, kEntry 7 8 ⟨#[105, 110, 116]⟩ 2, kEntry 9 1 ⟨#[102, 108, 97, 103]⟩ 3, kEntry 14 8 ⟨#[103, 97, 117, 115, 115]⟩ 4]
theorem below_setObj {w W : World} {r : Nat} {o : Obj} (h : Below w.heap.size w W) (hr : w.heap.size ≤ r) : Below w.heap.size w { W with heap := W.heap.setIfInBounds r o } :=
  ⟨h.os, h.tape, h.output, by show _ ≤ (W.heap.setIfInBounds r o).size; rw [Array.size_setIfInBounds]; exact h.size, fun i hi => by
    show (W.heap.setIfInBounds r o)[i]? = _
    rw [Array.getElem?_setIfInBounds_ne (by omega)]; exact h.block i hi⟩
theorem insert_run {w W : World} {r : Nat} {es : Array MapEntry} {clock : Nat} (k : Int) (v : Value) (hb : W.heap[r]? = some (.map es clock)) (hf : Instr.findNow (.int .i64) (.int .i64 k) es.toList 0 = some none) (hr : w.heap.size ≤ r) (hB : Below w.heap.size w W) :
    ∃ W2, (Instr.mapUpdate 124 (.map (some r)) (.int .i64 k) v).run Try.prog W = .ok () W2 ∧ W2.heap[r]? = some (.map (es.push { key := .int .i64 k, val := v, born := clock }) (clock + 1)) ∧ Below w.heap.size w W2 := by
  have hk : MapKept.IsKey (.int .i64) (.int .i64 k) := by simp [MapKept.IsKey]
  have hd : Try.prog.underlying 37 = some (.int .i64) := Try.underlying37
  refine ⟨_, ?_, (MapKept.heap_set hb).1, below_setObj hB hr⟩
  simp [Instr.mapUpdate, run_underlying Try.underlying124, MapKept.run_getObj_map hb, MapKept.run_checkKey hd hk, MapKept.run_findKey hd hf, MapKept.run_setObj_map _ hb, Result.andThen]
set_option maxHeartbeats 4000000 in
theorem kind_known.calls (w : World) :
    Calls Try.prog 63 #[] w fun e w' => ∃ r, e = .returned (.map (some r)) ∧ w'.heap[r]? = some (.map known5 5) ∧ Below w.heap.size w w' := by
  obtain ⟨r, hr0⟩ : ∃ r, r = w.heap.size := ⟨_, rfl⟩
  have hr : w.heap.size ≤ r := by omega
  have b0 : Below w.heap.size w (w.alloc (.map #[] 0)) := below_alloc (Below.refl _ _) _
  have h0 : (w.alloc (.map #[] 0)).heap[r]? = some (.map #[] 0) := by rw [hr0]; exact blk_new w _
  have f0 : (Instr.makeMap 124 none).run Try.prog w = .ok (.map (some r)) (w.alloc (.map #[] 0)) := by rw [hr0]; rfl
  generalize w.alloc (.map #[] 0) = W0 at b0 h0 f0
  obtain ⟨W1, f1, h1, b1⟩ := insert_run (w := w) 1 (.agg #[.int .i64 4, .string ⟨#[102, 108, 111, 97, 116]⟩]) h0 rfl hr b0
  obtain ⟨W2, f2, h2, b2⟩ := insert_run (w := w) 2 (.agg #[.int .i64 1, .string ⟨#[98, 121, 116, 101]⟩]) h1 rfl hr b1
  obtain ⟨W3, f3, h3, b3⟩ := insert_run (w := w) 7 (.agg #[.int .i64 8, .string ⟨#[105, 110, 116]⟩]) h2 rfl hr b2
  obtain ⟨W4, f4, h4, b4⟩ := insert_run (w := w) 9 (.agg #[.int .i64 1, .string ⟨#[102, 108, 97, 103]⟩]) h3 rfl hr b3
  obtain ⟨W5, f5, h5, b5⟩ := insert_run (w := w) 14 (.agg #[.int .i64 8, .string ⟨#[103, 97, 117, 115, 115]⟩]) h4 rfl hr b4
  have H5 := Aside0.mk (show W5.heap[r]? = some (.map known5 5) from h5)
  have B5 := Aside0.mk b5
  clear h0 h1 h2 h3 h4 h5 b0 b1 b2 b3 b4 b5 hr hr0
  go_enter Try.func63, Try.ntmps63
  go_wp2
  go_ret
  exact ⟨r, rfl, H5.out, B5.out⟩
def sizeK (k : Int) : Int := if k = 1 then 4 else if k = 2 then 1 else if k = 7 then 8 else if k = 9 then 1 else if k = 14 then 8 else 0
def wordK (k : Int) : ByteArray := if k = 1 then ⟨#[102, 108, 111, 97, 116]⟩ else if k = 2 then ⟨#[98, 121, 116, 101]⟩ else if k = 7 then ⟨#[105, 110, 116]⟩ else if k = 9 then ⟨#[102, 108, 97, 103]⟩ else if k = 14 then ⟨#[103, 97, 117, 115, 115]⟩ else ⟨#[]⟩
def isK (k : Int) : Bool := decide (k = 1) || (decide (k = 2) || (decide (k = 7) || (decide (k = 9) || decide (k = 14))))
theorem find_known (k : Int) : ∃ o, Instr.findNow (.int .i64) (.int .i64 k) known5.toList 0 = some o ∧ o.map (·.2) = (if isK k = true then some (.agg #[.int .i64 (sizeK k), .string (wordK k)]) else none) := by
  have hs : ∀ a : Int, Instr.sameNow (.int .i64) (.int .i64 k) (.int .i64 a) = some (k == a) := fun a => by simp [Instr.sameNow]
  have hl : known5.toList = [kEntry 1 4 ⟨#[102, 108, 111, 97, 116]⟩ 0, kEntry 2 1 ⟨#[98, 121, 116, 101]⟩ 1, kEntry 7 8 ⟨#[105, 110, 116]⟩ 2, kEntry 9 1 ⟨#[102, 108, 97, 103]⟩ 3, kEntry 14 8 ⟨#[103, 97, 117, 115, 115]⟩ 4] := rfl
  rw [hl]
  simp only [Instr.findNow, kEntry, hs]
  by_cases h1 : k = 1
  · subst h1; exact ⟨_, rfl, rfl⟩
  by_cases h2 : k = 2
  · subst h2; exact ⟨_, rfl, rfl⟩
  by_cases h3 : k = 7
  · subst h3; exact ⟨_, rfl, rfl⟩
  by_cases h4 : k = 9
  · subst h4; exact ⟨_, rfl, rfl⟩
  by_cases h5 : k = 14
  · subst h5; exact ⟨_, rfl, rfl⟩
  rw [beq_eq_false_iff_ne.2 h1, beq_eq_false_iff_ne.2 h2, beq_eq_false_iff_ne.2 h3, beq_eq_false_iff_ne.2 h4, beq_eq_false_iff_ne.2 h5]
  refine ⟨none, rfl, ?_⟩
  unfold isK
  rw [decide_eq_false h1, decide_eq_false h2, decide_eq_false h3, decide_eq_false h4, decide_eq_false h5]
  rfl
theorem sizeK_no (k : Int) (h : isK k = false) : sizeK k = 0 ∧ wordK k = ⟨#[]⟩ := by
  unfold isK at h
  simp only [Bool.or_eq_false_iff, decide_eq_false_iff_not] at h
  unfold sizeK wordK
  rw [if_neg h.1, if_neg h.2.1, if_neg h.2.2.1, if_neg h.2.2.2.1, if_neg h.2.2.2.2, if_neg h.1, if_neg h.2.1, if_neg h.2.2.1, if_neg h.2.2.2.1, if_neg h.2.2.2.2]
  exact ⟨rfl, rfl⟩
theorem lookup_run {W : World} {r : Nat} (hb : W.heap[r]? = some (.map known5 5)) (k : Int) (c : Bool) : (Instr.lookup 124 (.map (some r)) (.int .i64 k) c).run Try.prog W = .ok (if c then .tuple #[.agg #[.int .i64 (sizeK k), .string (wordK k)], .bool (isK k)] else .agg #[.int .i64 (sizeK k), .string (wordK k)]) W := by
  have hk : MapKept.IsKey (.int .i64) (.int .i64 k) := by simp [MapKept.IsKey]
  have hd : Try.prog.underlying 37 = some (.int .i64) := Try.underlying37
  obtain ⟨o, ho, hm⟩ := find_known k
  cases hi : isK k with
  | true =>
    rw [if_pos hi] at hm
    obtain ⟨⟨i, v⟩, rfl, hv⟩ := Option.map_eq_some_iff.1 hm
    dsimp only at hv
    subst hv
    simp [Instr.lookup, run_underlying Try.underlying124, MapKept.run_getObj_map hb, MapKept.run_checkKey hd hk, MapKept.run_findKey hd ho, Result.andThen]
  | false =>
    rw [if_neg (by rw [hi]; simp)] at hm
    obtain rfl : o = none := by cases o with | none => rfl | some x => cases hm
    obtain ⟨s1, s2⟩ := sizeK_no k hi
    rw [s1, s2]
    simp [Instr.lookup, run_underlying Try.underlying124, MapKept.run_getObj_map hb, MapKept.run_checkKey hd hk, MapKept.run_findKey hd ho, Result.andThen, Try.zeroValue123]
set_option maxRecDepth 100000 in
theorem kind_Size.calls (k : Int) (w : World) :
    Calls Try.prog 49 #[.int .i64 k] w fun e w' => e = .returned (.int .i64 (sizeK k)) ∧ Below w.heap.size w w' := by
  have hf : ∀ w, (Instr.field 123 (.agg #[.int .i64 (sizeK k), .string (wordK k)]) 0).run Try.prog w = .ok (.int .i64 (sizeK k)) w := fun w => by
    simp [Instr.field, run_underlying Try.underlying123, asAgg, part, Try.isAgg3, Result.andThen]
  go_enter Try.func49, Try.ntmps49
  go_wp2_with (first | (fail))
  refine (kind_known.calls _).mono ?_
  rintro e w1 ⟨r, rfl, h, hb⟩
  have HB := Aside0.mk hb
  have hl : (Instr.lookup 124 (.map (some r)) (.int .i64 k) false).run Try.prog w1 = .ok (.agg #[.int .i64 (sizeK k), .string (wordK k)]) w1 := lookup_run h k false
  clear hb h
  go_wp2_with (first | (fail))
  go_ret
  exact ⟨rfl, HB.out⟩
set_option maxRecDepth 100000 in
theorem kind_String.calls (k : Int) (hk : isK k = true) (w : World) :
    Calls Try.prog 50 #[.int .i64 k] w fun e w' => e = .returned (.string (wordK k)) ∧ Below w.heap.size w w' := by
  go_enter Try.func50, Try.ntmps50
  go_wp2_with (first | (fail))
  refine (kind_known.calls _).mono ?_
  rintro e w1 ⟨r, rfl, h, hb⟩
  have HB := Aside0.mk hb
  have hl : (Instr.lookup 124 (.map (some r)) (.int .i64 k) true).run Try.prog w1 = .ok (.tuple #[.agg #[.int .i64 (sizeK k), .string (wordK k)], .bool (isK k)]) w1 := lookup_run h k true
  rw [hk] at hl
  clear hb h
  go_wp2_with (first | (fail))
  go_ret
  exact ⟨rfl, below_alloc HB.out _⟩
end Go.Proofs.Ytfejdnkmmjffcaa.X
