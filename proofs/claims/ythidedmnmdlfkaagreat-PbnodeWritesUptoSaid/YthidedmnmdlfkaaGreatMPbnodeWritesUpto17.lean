import Derived.Test.YthidedmnmdlfkaaGreatMPbnodeWritesUpto2
import Derived.Test.YthidedmnmdlfkaaGreatMPbnodeWritesUpto16
import Derived.Test.YthidedmnmdlfkaaGreatMPbnodeWritesUpto13
import Derived.Test.YthidedmnmdlfkaaGreatMPbnodeWritesUpto3
import Derived.Test.YthidedmnmdlfkaaGreatMPbnodeWritesUpto14
import Derived.Test.YthidedmnmdlfkaaGreatMPbnodeWritesUpto5
import Derived.Test.YthidedmnmdlfkaaGreatMPbnodeWritesUpto4
import Derived.Test.YthidedmnmdlfkaaGreatMPbnodeWritesUpto9
import Derived.Test.YthidedmnmdlfkaaGreatMPbnodeWritesUpto10
import Derived.Test.YthidedmnmdlfkaaGreatMPbnodeWritesUpto7
namespace Go.Proofs.YthidedmnmdlfkaaGreat.X
open Go.RowKit Go.Proofs.YthidedmnmdlfkaaGreatW.PrintWords Go.Proofs.YthidedmnmdlfkaaGreatW.PrintLast Go.Proofs.YthidedmnmdlfkaaGreatW.PrintMore
attribute [local go_sem] max2_int min2_int max_two min_two max_three min_three max_four min_four
set_option linter.unusedVariables false
set_option linter.unusedSimpArgs false
def lastTup (x : Option (S75)) : Int × Int × Int × ByteArray × Bool := match x with
  | none => (0, 0, 0, ⟨#[]⟩, false)
  | some x => (x.f0, x.f1, x.f2, x.f3, true)
def wire_Last_s.f (l0 : List (S75)) (a1 : Int) : Option (Int × Int × Int × ByteArray × Bool) := if l0.length ≤ 3518437208883 then some (lastTup (l0.filter fun x => x.f0 == a1).getLast?) else none
theorem wire_Last_s.ev (l0 : List (S75)) (a1 : Int) (r) (h : wire_Last_s.f l0 a1 = some r) : ∃ k : Nat, wire_Last.f l0 a1 = some r := by
  unfold wire_Last_s.f at h
  split at h
  · rename_i hb
    rw [← h]
    refine ⟨0, ?_⟩
    have e : wire_All_s.f l0 a1 = some (l0.filter fun x => x.f0 == a1) := if_pos hb
    have hle : (l0.filter fun x => x.f0 == a1).length ≤ l0.length := List.length_filter_le _ _
    unfold wire_Last.f
    rw [e, Option.bind_some]
    generalize (l0.filter fun x => x.f0 == a1) = m at *
    by_cases hm : m.length = 0
    · rw [if_pos (by omega), List.eq_nil_of_length_eq_zero hm]; rfl
    · have ew : wrap64 ((m.length : Int) - 1) = ((m.length - 1 : Nat) : Int) := by rw [wrap64_id (by omega) (by omega)]; omega
      have e0 := rdP m (m.length - 1) (by omega)
      rw [if_neg (by omega), ew, if_pos (by omega), if_pos (by omega), e0, List.getLast?_eq_getElem?, List.getElem?_eq_getElem (by omega)]
      rfl
  · cases h
set_option maxHeartbeats 1000000 in
theorem wire_Last_s.calls (A0 : Option Addr) (c0 : Nat) (l0 : List (S75)) (a1 : Int) (r1 : Int) (r2 : Int) (r3 : Int) (r4 : ByteArray) (r5 : Bool) (w : World) (hr0 : Kd.C k75 w A0 l0.length l0) (hc0 : l0.length ≤ c0) (h : wire_Last_s.f l0 a1 = some (r1, r2, r3, r4, r5)) :
    Calls Tryz.prog 50 #[.slice A0 l0.length c0, .int .i64 a1] w fun e w' => e = .returned (.tuple #[.agg #[.int .i64 r1, .int .i64 r2, .int .u64 r3, .string r4], .bool r5]) ∧ Below w.heap.size w w' := by
  obtain ⟨k, hk⟩ := wire_Last_s.ev l0 a1 _ h
  exact wire_Last.calls A0 c0 l0 a1 r1 r2 r3 r4 r5 w hr0 hc0 hk
def model_Row.f (a0 : ByteArray) (l1 : List Int) : Option (ByteArray × Bool × Int × List Int) := (slices_Clone_int64.f l1).bind fun t102 => (some (a0, false, 0, t102))
set_option maxHeartbeats 8000000 in
set_option maxRecDepth 100000 in
theorem model_Row.calls (a0 : ByteArray) (A1 : Option Addr) (c1 : Nat) (l1 : List Int) (r1 : ByteArray) (r2 : Bool) (r3 : Int) (r4 : List Int) (w : World) (hr1 : Kd.C (Kd.int .i64) w A1 l1.length l1) (hc1 : l1.length ≤ c1) (h : model_Row.f a0 l1 = some (r1, r2, r3, r4)) :
    Calls Tryz.prog 52 #[.string a0, .slice A1 l1.length c1] w fun e w' => ∃ v3_ : Value, e = .returned (.agg #[.string r1, .bool r2, .int .i64 r3, v3_]) ∧ Kd.R (Kd.int .i64) 2 w' w.heap.size (fun _ => True) v3_ r4 ∧ Below w.heap.size w w' := by
  have hu65 := Tryz.underlying65; have HR1 := mk0 hr1; have HC1 := mk0 hc1; clear hr1 hc1; have HB := mk0 (Below.refl w.heap.size w); have H : ((slices_Clone_int64.f l1).bind fun t102 => (some (a0, false, 0, t102))) = some (r1, r2, r3, r4) := h; clear h; replace H := bnd H; obtain ⟨t102, A3, H⟩ := H
  simp only [Option.some.injEq, Prod.mk.injEq] at H
  obtain ⟨rfl, rfl, rfl, rfl⟩ := H
  go_enter Tryz.func52, Tryz.ntmps52
  go_wp2_with (first | ((with_reducible refine gate_dst (N := 4) rfl ?_); refine boxE (N := 4) (cs := #[.string (⟨#[]⟩ : ByteArray), .bool false, .int .i64 0, .slice none 0 0]) (t := 65) ?_; intro gb101 hg w4 hbox hb; have BK101 := mk0 hbox; have GW101 := mk0 ((by rw [hg]; exact (below_size (hbA HB)) : w.heap.size ≤ gb101)); have GE101 := mk0 ((by rw [hg]; exact (below_size (hbA HB)) : w.heap.size ≤ gb101)); replace HB := mk0 (below_step (hbA HB) hb); clear hb hbox hg) | ((with_reducible refine gate_callee (f := 70) rfl ?_); refine glE (some 7) rfl rfl Tryz.func70 (by kernel_rfl) rfl #[.slice A1 l1.length c1] rfl ?_; (with_reducible refine (slices_Clone_int64.calls _ _ l1 t102 _ ?side1 ?side2 A3.out).mono ?_); (case side1 => repeat (first | exact (Kd.C_below HR1.out HB.out) | (with_reducible refine Kd.C_alloc ?_ _) | (with_reducible refine Kd.C_drewN ?_ _) | (with_reducible refine Kd.C_drew ?_))); (case side2 => exact HC1.out); rintro e w5 ⟨v103, rfl, ho0, hb⟩; refine ⟨_, rfl, ?_⟩; have HO104 := mk0 (Kd.R_lower ho0 (below_size (hbA HB))); replace BK101 := mk0 (blk_below (g := gb101) (o := .cells #[.string (⟨#[]⟩ : ByteArray), .bool false, .int .i64 0, .slice none 0 0] 65 (0, 0)) (by (with_reducible repeat (first | refine blk_drewN ?_ _ | refine blk_drew ?_ | refine blk_alloc ?_ _)); exact BK101.out) hb); replace HB := mk0 (below_step (hbA HB) hb); (try clear hb); (try clear ho0); obtain ⟨Ao6, co6, eo6⟩ := Kd.R_slice HO104.out; subst eo6; have hcz7_0 : w5.cell? ⟨gb101, 0, none⟩ = some (.string (⟨#[]⟩ : ByteArray)) := (blk_cell BK101.out 0).trans rfl; have hcz7_1 : w5.cell? ⟨gb101, 1, none⟩ = some (.bool false) := (blk_cell BK101.out 1).trans rfl; have hcz7_2 : w5.cell? ⟨gb101, 2, none⟩ = some (.int .i64 0) := (blk_cell BK101.out 2).trans rfl; have hcz7_3 : w5.cell? ⟨gb101, 3, none⟩ = some (.slice none 0 0) := (blk_cell BK101.out 3).trans rfl; have hfz7_0 := fz BK101 0; have hfz7_1 := fz BK101 1; have hfz7_2 := fz BK101 2; have hfz7_3 := blk_frozen BK101.out 3))
  refine bodyPost_ret (results_cell_row rfl _ _ gb101 65 #[.string a0, .bool false, .int .i64 0, .slice Ao6 t102.length co6] (0, 0) _ rfl (bkW BK101) Tryz.underlying65 rfl (by kernel_rfl)) rfl ?_
  exact ⟨_, cl3, by (with_reducible repeat (first | apply Kd.R_alloc | apply Kd.R_drewN | apply Kd.R_drew)); exact Kd.R_mono (Kd.R_far (p := ⟨gb101, 3, none⟩) (Kd.R_far (p := ⟨gb101, 2, none⟩) (Kd.R_far (p := ⟨gb101, 1, none⟩) (Kd.R_far (p := ⟨gb101, 0, none⟩) (Kd.R_types HO104.out BK101.out (by decide)) (fun _ hk => hk.2) (.string a0)) (fun _ hk => hk.2) (.bool false)) (fun _ hk => hk.2) (.int .i64 0)) (fun _ hk => hk.2) (.slice Ao6 t102.length co6)) (fun _ hk => trivial), hbA HB⟩
structure But (g : Nat) (w W : World) : Prop where
  os : W.os = w.os
  tape : W.tape = w.tape
  output : W.output = w.output
  size : w.heap.size ≤ W.heap.size
  block : ∀ i, i < w.heap.size → i ≠ g → W.heap[i]? = w.heap[i]?
theorem But.refl (g : Nat) (w : World) : But g w w := ⟨rfl, rfl, rfl, Nat.le_refl _, fun _ _ _ => rfl⟩
theorem But.trans {g : Nat} {a b c : World} (h : But g a b) (k : But g b c) : But g a c := ⟨k.os.trans h.os, k.tape.trans h.tape, k.output.trans h.output, Nat.le_trans h.size k.size, fun i hi hn => (k.block i (Nat.lt_of_lt_of_le hi h.size) hn).trans (h.block i hi hn)⟩
theorem But.of_below {g : Nat} {w W : World} (h : Below w.heap.size w W) : But g w W := ⟨h.os, h.tape, h.output, h.size, fun i hi _ => h.block i hi⟩
theorem But.step {g : Nat} {a b c : World} (h : But g a b) (k : Below b.heap.size b c) : But g a c := h.trans (But.of_below k)
theorem But.set {g : Nat} {w W : World} (h : But g w W) (i : Nat) (v : Value) : But g w (W.setCell ⟨g, i, none⟩ v) :=
  ⟨h.os, h.tape, h.output, by show _ ≤ (W.heap.modify g _).size; rw [Array.size_modify]; exact h.size, fun j hj hn => (Below.heap_setCell W _ _ j hn).trans (h.block j hj hn)⟩
theorem But.alloc {g : Nat} {w W : World} (h : But g w W) (o : Obj) : But g w (W.alloc o) := h.step (below_alloc (Below.refl W.heap.size W) o)
theorem But.drewN {g : Nat} {w W : World} (h : But g w W) (n : Nat) : But g w (W.drewN n) := ⟨h.os, h.tape, h.output, h.size, h.block⟩
theorem But.below {B g : Nat} {w W : World} (h : But g w W) (hg : B ≤ g) (hs : B ≤ w.heap.size) : Below B w W := ⟨h.os, h.tape, h.output, h.size, fun i hi => h.block i (Nat.lt_of_lt_of_le hi hs) (fun e => Nat.not_le.2 hi (e ▸ hg))⟩
theorem But.keep {g j : Nat} {w W : World} {o : Obj} (h : But g w W) (hj : w.heap[j]? = some o) (hn : j ≠ g) : W.heap[j]? = some o := (h.block j (blk_lt hj) hn).trans hj
theorem F_but {α : Type} {d : Kd α} {g n : Nat} {ok : Nat → Prop} {w W : World} {A : Option Addr} {xs : List α} (h : Kd.F d w ok A n xs) (hb : But g w W) (hok : ∀ k, ok k → k ≠ g) : Kd.F d W ok A n xs := Kd.F_step h (fun k hk hlt => hb.block k hlt (hok k hk))
theorem F_below {α : Type} {d : Kd α} {n : Nat} {ok : Nat → Prop} {w W : World} {A : Option Addr} {xs : List α} (h : Kd.F d w ok A n xs) (hb : Below w.heap.size w W) : Kd.F d W ok A n xs := Kd.F_step h (fun k _ hlt => hb.block k hlt)
theorem R_new {α : Type} {d : Kd α} {e B : Nat} {ok : Nat → Prop} {w : World} {v : Value} {xs : List α} (h : d.R e w B ok v xs) : ∃ A c, v = .slice A xs.length c ∧ xs.length ≤ c ∧ Kd.F d w (fun k => B ≤ k) A xs.length xs := by
  obtain ⟨A, c, rfl⟩ := Kd.R_slice h
  exact ⟨A, c, rfl, (Kd.R_reads' h).2.1, Kd.R_F (Kd.R_mono (Kd.R_bound h) (fun k hk => hk.2.1))⟩
def pack_Texts.l0 : Nat → List ByteArray → List (S75) → Int → Int → Option (List ByteArray × Int)
 | 0, _, _, _, _ => none
 | k + 1, x6, x11, x12, x13 => if x13 < x12 then (if 0 ≤ x13 then (if x13 < (x11.length : Int) then (if ((rd_T75 x11 x13).f1) = 2 then (if x6.length < 8796093022208 then (pack_Texts.l0 k (x6 ++ [(rd_T75 x11 x13).f3]) x11 x12 (wrap64 (x13 + 1))) else (none)) else (some (([] : List ByteArray), 3))) else (none)) else (none)) else (some (x6, 0))
def pack_Texts.f (k : Nat) (l0 : List (S75)) (a1 : Int) : Option (List ByteArray × Int) := (wire_All_s.f l0 a1).bind fun t101 => (pack_Texts.l0 k ([] : List ByteArray) t101 (t101.length : Int) 0)
set_option maxHeartbeats 8000000 in
set_option maxRecDepth 100000 in
theorem pack_Texts.calls (k : Nat) (A0 : Option Addr) (c0 : Nat) (l0 : List (S75)) (a1 : Int) (r1 : List ByteArray) (r2 : Int) (w : World) (hr0 : Kd.C k75 w A0 l0.length l0) (hc0 : l0.length ≤ c0) (h : pack_Texts.f k l0 a1 = some (r1, r2)) :
  Calls Tryz.prog 49 #[.slice A0 l0.length c0, .int .i64 a1] w fun e w' => ∃ v0_ : Value, e = .returned (.tuple #[v0_, .int .i64 r2]) ∧ Kd.R Kd.string 9 w' w.heap.size (fun _ => True) v0_ r1 ∧ Below w.heap.size w w' := by
 have hu75 := Tryz.underlying75; have HR0 := mk0 hr0; have HC0 := mk0 hc0; clear hr0 hc0; have HB := mk0 (Below.refl w.heap.size w); have H : ((wire_All_s.f l0 a1).bind fun t101 => (pack_Texts.l0 k ([] : List ByteArray) t101 (t101.length : Int) 0)) = some (r1, r2) := h; clear h; replace H := bnd H; obtain ⟨t101, A3, H⟩ := H; have H' := mk0 H; clear H
 go_enter Tryz.func49, Tryz.ntmps49
 go_wp2_with (first | ((with_reducible refine gate_callee (f := 54) rfl ?_); refine glE (some 11) rfl rfl Tryz.func54 (by kernel_rfl) rfl #[.slice A0 l0.length c0, .int .i64 a1] rfl ?_; (with_reducible refine (wire_All_s.calls _ _ l0 a1 t101 _ ?side1 ?side2 A3.out).mono ?_); (case side1 => repeat (first | exact HR0.out | (with_reducible refine Kd.C_alloc ?_ _) | (with_reducible refine Kd.C_drewN ?_ _) | (with_reducible refine Kd.C_drew ?_))); (case side2 => exact HC0.out); rintro e w4 ⟨v102, rfl, ho0, hb⟩; refine ⟨_, rfl, ?_⟩; have HO103 := mk0 (Kd.R_lower ho0 (below_size (hbA HB))); replace HB := hbS HB hb; (try clear hb); (try clear ho0); obtain ⟨Ao5, co5, eo5⟩ := Kd.R_slice HO103.out; subst eo5))
 go_loopg [6, 13] k (fun kq v6 v13 w' => ∃ (x6_1 : List ByteArray) (x13_1 : Int), v13 = .int .i64 x13_1 ∧ Aside0 (pack_Texts.l0 kq x6_1 t101 (t101.length : Int) x13_1 = some (r1, r2)) ∧ Aside0 (kq ≤ k) ∧ Aside0 (Kd.R Kd.string 9 w' w.heap.size (fun _ => True) v6 x6_1) ∧ Aside0 (Kd.R k75 75 w' w.heap.size (fun _ => True) (.slice Ao5 t101.length co5) t101) ∧ Aside0 (Below w.heap.size w w'))
 case atStart => exact ⟨(([] : List ByteArray)), (0), cl0, H', ⟨Nat.le_refl _⟩, ⟨by first | exact Kd.R_nil _ _ _ _ _ | exact Kd.N_nil _ _ _ _ _ | exact Kd.V_nil _ _ _ _ _ | exact Kd.Q_nil _ _ _ _ _ | exact Kd.S_nil _ _ _ _ _⟩, ⟨krA HO103⟩, ⟨hbA HB⟩⟩
 case round =>
  clear H'; obtain ⟨x6_1, x13_1, rfl, HA, HK1, HO_6, HO_11, HB⟩ := hrel
  cases gk with
  | zero => exact absurd HA.out (by simp [pack_Texts.l0])
  | succ k1 =>
   have H := HA.out; clear HA
   simp only [pack_Texts.l0] at H
   by_cases c6 : x13_1 < (t101.length : Int)
   ·
    rw [if_pos c6] at H; have c6b0 := decide_eq_true c6; clear c6; replace H := ifS H; obtain ⟨c7, H⟩ := H; have c7b0 := decide_eq_true c7; clear c7
    by_cases c8 : x13_1 < (t101.length : Int)
    ·
     rw [if_pos c8] at H; have c8b0 := decide_eq_true c8; clear c8
     by_cases c9 : ((rd_T75 t101 x13_1).f1) = 2
     ·
      rw [if_pos c9] at H; have c9b0 := beq_iff_eq.mpr c9; have c9b1 := bne_eq_false_iff_eq.mpr c9; clear c9; replace H := ifS H; obtain ⟨c10, H⟩ := H; have LMc10 := mk0 c10; clear c10; obtain ⟨y106, hy106⟩ : ∃ y_ : List ByteArray, y_ = (x6_1 ++ [(rd_T75 t101 x13_1).f3]) := ⟨_, rfl⟩; replace H : (pack_Texts.l0 k1 y106 t101 (t101.length : Int) (wrap64 (x13_1 + 1))) = some (r1, r2) := by first | (rw [hy106]; with_reducible exact H) | (have H2_ := (Option.bind_some _ _).symm.trans H; rw [hy106]; with_reducible exact H2_) | (have H2_ := (Option.bind_some _ _).symm.trans H; with_reducible exact H2_) | with_reducible exact H | (rw [hy106]; exact H) | exact H
      have Ny106 := mk0 hy106; clear hy106; have H' := mk0 H; clear H; have p104 : 0 ≤ (x13_1 : Int) := ofd; have q104 : x13_1 < (t101.length : Int) := ofd; obtain ⟨ad104, e104, hx104_0, hx104_1, hx104_2, hx104_3⟩ := at_T75 (Kd.R_reads' HO_11.out).2.2 x13_1 p104 q104; cases e104; replace p104 := eq_true p104; replace q104 := eq_true q104
      go_wp2_with (first | ((with_reducible refine gate_dst (N := 8) rfl ?_); refine boxE (N := 8) (cs := #[.int .i64 0, .int .i64 0, .int .u64 0, .string (⟨#[]⟩ : ByteArray)]) (t := 75) ?_; intro gb105 hg w11 hbox hb; replace HO_6 := mk0 (Kd.R_below (krA HO_6) hb); replace HO_11 := mk0 (Kd.R_below (Kd.R_elderB (krA HO_11) gb105 (Nat.le_of_eq hg.symm)) hb); have BK105 := mk0 hbox; have GW105 := gwS HB hg; have GE105 := gwS HB hg; replace HB := hbS HB hb; clear hb hbox hg; obtain ⟨hcz12_0, hcz12_1, hcz12_2, hcz12_3⟩ := cz4 BK105; have hfz12_0 := fz BK105 0; have hfz12_1 := fz BK105 1; have hfz12_2 := fz BK105 2; have hfz12_3 := fz BK105 3) | ((with_reducible refine gate_builtin (b := .append) (xs := #[.tmp 20, .tmp 23]) rfl ?_); at_builtin; refine Kd.R_append Kd.string (w0 := w) w.heap.size rfl (.tmp 20) (.tmp 23) 22 9 (.string ⟨#[]⟩) 16 rfl Tryz.underlying22 info9 rfl (by decide) (by omega) u6 x6_1 ((rd_T75 t101 x13_1).f3) [.string ((rd_T75 t101 x13_1).f3)] (fun _ => True) (fun _ => False) rfl (by first | (go_simp; done) | (go_simp; rfl)) ?aP (fun _ hk => hk.elim) ?aF ?aO ?aB ?aS ?aL ?_; (case aP => exact rfl); (case aB => exact (hbA HB)); (case aF => exact (fun _ _ => trivial)); (case aO => exact (by (with_reducible repeat (first | apply Kd.R_alloc | apply Kd.R_drewN | apply Kd.R_drew)); exact Kd.R_mono (Kd.R_far (p := ⟨gb105, 3, none⟩) (Kd.R_far (p := ⟨gb105, 2, none⟩) (Kd.R_far (p := ⟨gb105, 1, none⟩) (Kd.R_far (p := ⟨gb105, 0, none⟩) (Kd.R_types HO_6.out BK105.out (by decide)) (fun _ hk => hk.2) (.int .i64 ((rd_T75 t101 x13_1).f0))) (fun _ hk => hk.2) (.int .i64 ((rd_T75 t101 x13_1).f1))) (fun _ hk => hk.2) (.int .u64 ((rd_T75 t101 x13_1).f2))) (fun _ hk => hk.2) (.string ((rd_T75 t101 x13_1).f3))) (fun _ hk => trivial))); (case aS => exact (below_size (hbA HB))); (case aL => have := LMc10.out; omega); intro v107 w13 ho hb hg hat; rw [← Ny106.out] at ho; replace HO_11 := mk0 (Kd.R_over' (by (with_reducible repeat (first | apply Kd.R_alloc | apply Kd.R_drewN | apply Kd.R_drew)); exact (Kd.R_mono (Kd.R_far (p := ⟨gb105, 3, none⟩) (Kd.R_far (p := ⟨gb105, 2, none⟩) (Kd.R_far (p := ⟨gb105, 1, none⟩) (Kd.R_far (p := ⟨gb105, 0, none⟩) (Kd.R_mono HO_11.out (fun k_ hk => (⟨hk, hk.2⟩ : _ ∧ k_ ≠ gb105))) (fun _ hk => hk.2) (.int .i64 ((rd_T75 t101 x13_1).f0))) (fun _ hk => hk.2) (.int .i64 ((rd_T75 t101 x13_1).f1))) (fun _ hk => hk.2) (.int .u64 ((rd_T75 t101 x13_1).f2))) (fun _ hk => hk.2) (.string ((rd_T75 t101 x13_1).f3))) (fun _ h_ => h_.1))) (Kd.R_typed (by (with_reducible repeat (first | apply Kd.R_alloc | apply Kd.R_drewN | apply Kd.R_drew)); exact (Kd.R_mono (Kd.R_far (p := ⟨gb105, 3, none⟩) (Kd.R_far (p := ⟨gb105, 2, none⟩) (Kd.R_far (p := ⟨gb105, 1, none⟩) (Kd.R_far (p := ⟨gb105, 0, none⟩) (Kd.R_types HO_6.out BK105.out (by decide)) (fun _ hk => hk.2) (.int .i64 ((rd_T75 t101 x13_1).f0))) (fun _ hk => hk.2) (.int .i64 ((rd_T75 t101 x13_1).f1))) (fun _ hk => hk.2) (.int .u64 ((rd_T75 t101 x13_1).f2))) (fun _ hk => hk.2) (.string ((rd_T75 t101 x13_1).f3))) (fun _ h_ => h_.1)))) (by decide) hg); replace BK105 := mk0 (blk_grown (g := gb105) (o := .cells #[.int .i64 ((rd_T75 t101 x13_1).f0), .int .i64 ((rd_T75 t101 x13_1).f1), .int .u64 ((rd_T75 t101 x13_1).f2), .string ((rd_T75 t101 x13_1).f3)] 75 (0, 0)) (bkW BK105) hg (Kd.R_ne HO_6.out BK105.out (by decide))); replace HB := mk0 hb; have HO108 := mk0 ho; clear HO_6; clear ho hb hg hat))
      go_roundg k1
      case measure => have := HK1.out; omega
      case rel => exact ⟨(y106), (wrap64 (x13_1 + 1)), cl0, H', cl2 HK1, ⟨krA HO108⟩, ⟨by (with_reducible repeat (first | apply Kd.R_alloc | apply Kd.R_drewN | apply Kd.R_drew)); exact Kd.R_mono HO_11.out (fun _ hk => trivial)⟩, ⟨hbA HB⟩⟩
     ·
      rw [if_neg c9] at H; have c9b0 := beq_eq_false_iff_ne.mpr c9; have c9b1 := bne_iff_ne.mpr c9
      simp only [Option.some.injEq, Prod.mk.injEq] at H
      obtain ⟨rfl, rfl⟩ := H; have p104 : 0 ≤ (x13_1 : Int) := ofd; have q104 : x13_1 < (t101.length : Int) := ofd; obtain ⟨ad104, e104, hx104_0, hx104_1, hx104_2, hx104_3⟩ := at_T75 (Kd.R_reads' HO_11.out).2.2 x13_1 p104 q104; cases e104; replace p104 := eq_true p104; replace q104 := eq_true q104
      go_wp2_with (first | ((with_reducible refine gate_dst (N := 8) rfl ?_); refine boxE (N := 8) (cs := #[.int .i64 0, .int .i64 0, .int .u64 0, .string (⟨#[]⟩ : ByteArray)]) (t := 75) ?_; intro gb105 hg w14 hbox hb; replace HO_6 := mk0 (Kd.R_below (krA HO_6) hb); replace HO_11 := mk0 (Kd.R_below (Kd.R_elderB (krA HO_11) gb105 (Nat.le_of_eq hg.symm)) hb); have BK105 := mk0 hbox; have GW105 := gwS HB hg; have GE105 := gwS HB hg; replace HB := hbS HB hb; clear hb hbox hg; obtain ⟨hcz15_0, hcz15_1, hcz15_2, hcz15_3⟩ := cz4 BK105; have hfz15_0 := fz BK105 0; have hfz15_1 := fz BK105 1; have hfz15_2 := fz BK105 2; have hfz15_3 := blk_frozen BK105.out 3))
      go_ret2
      exact ⟨_, cl3, by first | exact Kd.R_nil _ _ _ _ _ | exact Kd.N_nil _ _ _ _ _ | exact Kd.V_nil _ _ _ _ _ | exact Kd.Q_nil _ _ _ _ _ | exact Kd.S_nil _ _ _ _ _, hbA HB⟩
    ·
     exact absurd (of_decide_eq_true c6b0) c8
   ·
    rw [if_neg c6] at H; have c6b0 := decide_eq_false c6; clear c6
    simp only [Option.some.injEq, Prod.mk.injEq] at H
    obtain ⟨rfl, rfl⟩ := H
    go_wp2
    go_ret2
    exact ⟨_, cl3, krA HO_6, hbA HB⟩
def pack_Texts_s.f (l0 : List (S75)) (a1 : Int) : Option (List ByteArray × Int) := if l0.length ≤ 3518437208883 then some ((textsL ((l0.filter fun x => x.f0 == a1).map flP) []).1, ((textsL ((l0.filter fun x => x.f0 == a1).map flP) []).2 : Int)) else none
theorem pack_Texts_eval (l : List (S75)) (hl : l.length ≤ 3518437208883) (d : Nat) : ∀ (k i : Nat) (out : List ByteArray), l.length - i = d → i ≤ l.length → out.length ≤ i → d < k →
    pack_Texts.l0 k out l l.length i = some ((textsL ((l.drop i).map flP) out).1, ((textsL ((l.drop i).map flP) out).2 : Int)) := by
  induction d with
  | zero =>
    intro k i out hd hi ho hk
    obtain ⟨k, rfl⟩ : ∃ m, k = m + 1 := ⟨k - 1, by omega⟩
    simp only [pack_Texts.l0]
    rw [if_neg (by omega), List.drop_of_length_le (by omega)]
    rfl
  | succ d ih =>
    intro k i out hd hi ho hk
    obtain ⟨k, rfl⟩ : ∃ m, k = m + 1 := ⟨k - 1, by omega⟩
    have h0 : i < l.length := by omega
    simp only [pack_Texts.l0, rdP l i h0]
    have ew : wrap64 ((i : Int) + 1) = ((i + 1 : Nat) : Int) := by rw [wrap64_id (by omega) (by omega)]; omega
    rw [if_pos (by omega), if_pos (by omega), if_pos (by omega), List.drop_eq_getElem_cons h0, List.map_cons, ew]
    clear ew
    generalize l[i] = x at *
    rw [textsL]
    by_cases t2 : x.f1 = 2
    · rw [if_pos t2, if_pos (show (flP x).2.1 = 2 from t2), if_pos (by omega)]
      exact ih k (i + 1) _ (by omega) (by omega) (by simp; omega) (by omega)
    · rw [if_neg t2, if_neg (show ¬ (flP x).2.1 = 2 from t2)]
      rfl
theorem pack_Texts_s.ev (l0 : List (S75)) (a1 : Int) (r) (h : pack_Texts_s.f l0 a1 = some r) : ∃ k, pack_Texts.f k l0 a1 = some r := by
  unfold pack_Texts_s.f at h
  split at h
  · rename_i hs
    rw [← h]
    have e : wire_All_s.f l0 a1 = some (l0.filter fun x => x.f0 == a1) := if_pos hs
    have hle : (l0.filter fun x => x.f0 == a1).length ≤ l0.length := List.length_filter_le _ _
    refine ⟨(l0.filter fun x => x.f0 == a1).length + 1, ?_⟩
    unfold pack_Texts.f
    rw [e, Option.bind_some]
    have := pack_Texts_eval (l0.filter fun x => x.f0 == a1) (by omega) _ ((l0.filter fun x => x.f0 == a1).length + 1) 0 [] rfl (by omega) (by simp) (by omega)
    simpa using this
  · cases h
set_option maxHeartbeats 1000000 in
theorem pack_Texts_s.calls (A0 : Option Addr) (c0 : Nat) (l0 : List (S75)) (a1 : Int) (r1 : List ByteArray) (r2 : Int) (w : World) (hr0 : Kd.C k75 w A0 l0.length l0) (hc0 : l0.length ≤ c0) (h : pack_Texts_s.f l0 a1 = some (r1, r2)) :
    Calls Tryz.prog 49 #[.slice A0 l0.length c0, .int .i64 a1] w fun e w' => ∃ v0_ : Value, e = .returned (.tuple #[v0_, .int .i64 r2]) ∧ Kd.R Kd.string 9 w' w.heap.size (fun _ => True) v0_ r1 ∧ Below w.heap.size w w' := by
  obtain ⟨k, hk⟩ := pack_Texts_s.ev l0 a1 _ h
  exact pack_Texts.calls k A0 c0 l0 a1 r1 r2 w hr0 hc0 hk
def Msg (w : World) (g : Nat) (l : List S75) : Prop := ∃ A c, l.length ≤ c ∧ w.heap[g]? = some (.cells #[.slice A l.length c, .int .i64 0] 81 (0, 0)) ∧ Kd.F k75 w (fun k => k < g) A l.length l
theorem Msg.below {w W : World} {g : Nat} {l : List S75} (h : Msg w g l) (hb : Below w.heap.size w W) : Msg W g l := by
  obtain ⟨A, c, h1, h2, h3⟩ := h
  exact ⟨A, c, h1, blk_below h2 hb, F_below h3 hb⟩
theorem Msg.code {w : World} {g : Nat} {l : List S75} (h : Msg w g l) : w.cell? ⟨g, 1, none⟩ = some (.int .i64 0) := by
  obtain ⟨A, c, h1, h2, h3⟩ := h
  exact blk_cell h2 1
set_option maxHeartbeats 1000000 in
theorem msgWrong.calls (g : Nat) (e2 : Int) (w : World) :
    Calls Tryz.prog 30 #[.pointer (some ⟨g, 0, none⟩), .bool false, .int .i64 e2] w fun en w' => en = .returned (.tuple #[]) ∧ w' = w := by
  have hu := Tryz.underlying81
  go_enter Tryz.func30, Tryz.ntmps30
  go_wp2_with (first | (fail))
  go_end0
  exact ⟨rfl, rfl⟩
set_option maxHeartbeats 1000000 in
set_option maxRecDepth 100000 in
theorem msgOpen.calls (b : ByteArray) (hb : b.size ≤ 140737488351232) (h0 : (fieldsS b).2 = 0) (w : World) :
    Calls Tryz.prog 27 #[.string b] w fun en w' => ∃ g, en = .returned (.pointer (some ⟨g, 0, none⟩)) ∧ Msg w' g ((fieldsS b).1.map toP) ∧ Below w.heap.size w w' := by
  have hu := Tryz.underlying81
  have HQ := Aside0.mk (show wire_Fields_s.f b = some ((fieldsS b).1.map toP, 0) from (if_pos hb).trans (by rw [h0]; rfl))
  clear h0 hb
  generalize (fieldsS b).1.map toP = L at HQ ⊢
  go_enter Tryz.func27, Tryz.ntmps27
  go_wp2_with (first | (fail))
  refine (wire_Fields_s.calls b _ _ _ HQ.out).mono ?_
  rintro en w1 ⟨v, rfl, hR, hB⟩
  obtain ⟨A, c, rfl⟩ := Kd.R_slice hR
  have HF := Aside0.mk (Kd.R_F (Kd.R_mono (Kd.R_bound hR) (fun k hk => hk.2.2.1)))
  have HL := Aside0.mk (Kd.R_reads' hR).2.1
  have HB := Aside0.mk hB
  clear hR hB
  go_wp2_with (first | (fail))
  go_ret
  exact ⟨w1.heap.size, rfl, ⟨A, c, HL.out, blk_new _ _, F_below HF.out (below_alloc (Below.refl _ _) _)⟩, below_alloc HB.out _⟩
set_option maxHeartbeats 1000000 in
set_option maxRecDepth 100000 in
theorem msgTexts.calls (g : Nat) (l : List S75) (num : Int) (q : List ByteArray) (w : World) (h : Msg w g l) (hl : l.length ≤ 3518437208883) (hq : textsL ((l.filter fun x => x.f0 == num).map flP) [] = (q, 0)) :
    Calls Tryz.prog 28 #[.pointer (some ⟨g, 0, none⟩), .int .i64 num] w fun en w' => ∃ A c, en = .returned (.slice A q.length c) ∧ Kd.R Kd.string 9 w' w.heap.size (fun _ => True) (.slice A q.length c) q ∧ Below w.heap.size w w' := by
  have hu := Tryz.underlying81
  obtain ⟨A, c, h1, h2, h3⟩ := h
  have hc : w.cell? ⟨g, 0, none⟩ = some (.slice A l.length c) := blk_cell h2 0
  have HF := Aside0.mk (Kd.F_now h3)
  have HL := Aside0.mk h1
  have HQ := Aside0.mk (show pack_Texts_s.f l num = some (q, 0) from (if_pos hl).trans (by rw [hq]; rfl))
  clear h1 h2 h3 hl hq
  go_enter Tryz.func28, Tryz.ntmps28
  go_wp2_with (first | (fail))
  refine (pack_Texts_s.calls A c l num q 0 w HF.out HL.out HQ.out).mono ?_
  rintro en w1 ⟨v, rfl, hR, hB⟩
  obtain ⟨A2, c2, rfl⟩ := Kd.R_slice hR
  have HR := Aside0.mk hR
  have HB := Aside0.mk hB
  clear hR hB hc
  go_wp2_with (first | (fail))
  refine (msgWrong.calls g 0 _).mono ?_
  rintro en w2 ⟨rfl, rfl⟩
  go_wp2_with (first | (fail))
  go_ret
  exact ⟨A2, c2, rfl, HR.out, HB.out⟩
set_option maxHeartbeats 1000000 in
set_option maxRecDepth 100000 in
theorem msgInts.calls (g : Nat) (l : List S75) (num : Int) (q : List Int) (w : World) (h : Msg w g l) (hl : l.length ≤ 3518437208883 ∧ ∀ x ∈ l, x.f3.size ≤ 140737488351232) (hq : intsL ((l.filter fun x => x.f0 == num).map flP) [] = (q, 0)) :
    Calls Tryz.prog 51 #[.pointer (some ⟨g, 0, none⟩), .int .i64 num] w fun en w' => ∃ A c, en = .returned (.slice A q.length c) ∧ Kd.R (Kd.int .i64) 2 w' w.heap.size (fun _ => True) (.slice A q.length c) q ∧ Below w.heap.size w w' := by
  have hu := Tryz.underlying81
  obtain ⟨A, c, h1, h2, h3⟩ := h
  have hc : w.cell? ⟨g, 0, none⟩ = some (.slice A l.length c) := blk_cell h2 0
  have HF := Aside0.mk (Kd.F_now h3)
  have HL := Aside0.mk h1
  have HQ := Aside0.mk (show pack_Ints_s.f l num = some (q, 0) from (if_pos hl).trans (by rw [hq]; rfl))
  clear h1 h2 h3 hl hq
  go_enter Tryz.func51, Tryz.ntmps51
  go_wp2_with (first | (fail))
  refine (pack_Ints_s.calls A c l num q 0 w HF.out HL.out HQ.out).mono ?_
  rintro en w1 ⟨v, rfl, hR, hB⟩
  obtain ⟨A2, c2, rfl⟩ := Kd.R_slice hR
  have HR := Aside0.mk hR
  have HB := Aside0.mk hB
  clear hR hB hc
  go_wp2_with (first | (fail))
  refine (msgWrong.calls g 0 _).mono ?_
  rintro en w2 ⟨rfl, rfl⟩
  go_wp2_with (first | (fail))
  go_ret
  exact ⟨A2, c2, rfl, HR.out, HB.out⟩
set_option maxHeartbeats 1000000 in
set_option maxRecDepth 100000 in
theorem msgLast.calls (g : Nat) (l : List S75) (num kind : Int) (x : Option S75) (w : World) (h : Msg w g l) (hl : l.length ≤ 3518437208883) (hx : (l.filter fun x => x.f0 == num).getLast? = x) (hk : ∀ y, x = some y → y.f1 = kind) :
    Calls Tryz.prog 29 #[.pointer (some ⟨g, 0, none⟩), .int .i64 num, .int .i64 kind] w fun en w' => en = .returned (.tuple #[.agg #[.int .i64 (lastTup x).1, .int .i64 (lastTup x).2.1, .int .u64 (lastTup x).2.2.1, .string (lastTup x).2.2.2.1], .bool (lastTup x).2.2.2.2]) ∧ Below w.heap.size w w' := by
  have hu := Tryz.underlying81
  have hu2 := Tryz.underlying75
  obtain ⟨A, c, h1, h2, h3⟩ := h
  have HQ := Aside0.mk (show wire_Last_s.f l num = some (lastTup x) from (if_pos hl).trans (by rw [hx]))
  have hb : ((lastTup x).2.2.2.2 = true → (lastTup x).2.1 = kind) := by
    cases x with
    | none => intro h; cases h
    | some y => intro _; exact hk y rfl
  generalize lastTup x = t at HQ hb ⊢
  obtain ⟨t0, t1, t2, t3, t4⟩ := t
  dsimp only at hb ⊢
  clear hk hx hl
  have hc : (w.alloc (Obj.cells #[.int .i64 0, .int .i64 0, .int .u64 0, .string ⟨#[]⟩] 75)).cell? ⟨g, 0, none⟩ = some (.slice A l.length c) := blk_cell (blk_alloc h2 _) 0
  have HF := Aside0.mk (Kd.C_below (Kd.F_now h3) (below_alloc (Below.refl _ _) (Obj.cells #[.int .i64 0, .int .i64 0, .int .u64 0, .string ⟨#[]⟩] 75)))
  have HL := Aside0.mk h1
  have HX := Aside0.mk hb
  have HB0 := Aside0.mk (below_alloc (Below.refl w.heap.size w) (Obj.cells #[.int .i64 0, .int .i64 0, .int .u64 0, .string ⟨#[]⟩] 75))
  have BK0 := Aside0.mk (blk_new w (Obj.cells #[.int .i64 0, .int .i64 0, .int .u64 0, .string ⟨#[]⟩] 75))
  clear h1 h2 h3 hb
  go_enter Tryz.func29, Tryz.ntmps29
  go_wp2_with (first | (fail))
  refine (wire_Last_s.calls A c l num t0 t1 t2 t3 t4 _ HF.out HL.out HQ.out).mono ?_
  rintro en w1 ⟨rfl, hB⟩
  have n0_ := Aside0.mk (below_step HB0.out hB)
  have n1_ := Aside0.mk (blk_below BK0.out hB)
  have HX1 := HX.out
  clear HB0 BK0 hB hc HF HL HQ
  have HB := n0_; have BK := n1_
  clear n0_ n1_ HX
  have BK2 := Aside0.mk (blk_alloc BK.out (Obj.cells #[.int .i64 t0, .int .i64 t1, .int .u64 t2, .string t3] 75))
  have HB2 := Aside0.mk (below_alloc HB.out (Obj.cells #[.int .i64 t0, .int .i64 t1, .int .u64 t2, .string t3] 75))
  clear BK HB
  have g0 : (w1.alloc (Obj.cells #[.int .i64 t0, .int .i64 t1, .int .u64 t2, .string t3] 75)).cell? ⟨w.heap.size, 0, none⟩ = some (.int .i64 0) := blk_cell BK2.out 0
  have g1 : (w1.alloc (Obj.cells #[.int .i64 t0, .int .i64 t1, .int .u64 t2, .string t3] 75)).cell? ⟨w.heap.size, 1, none⟩ = some (.int .i64 0) := blk_cell BK2.out 1
  have g2 : (w1.alloc (Obj.cells #[.int .i64 t0, .int .i64 t1, .int .u64 t2, .string t3] 75)).cell? ⟨w.heap.size, 2, none⟩ = some (.int .u64 0) := blk_cell BK2.out 2
  have g3 : (w1.alloc (Obj.cells #[.int .i64 t0, .int .i64 t1, .int .u64 t2, .string t3] 75)).cell? ⟨w.heap.size, 3, none⟩ = some (.string ⟨#[]⟩) := blk_cell BK2.out 3
  have f0 := blk_frozen BK2.out 0
  have f1 := blk_frozen BK2.out 1
  have f2 := blk_frozen BK2.out 2
  have f3 := blk_frozen BK2.out 3
  cases t4
  · clear HX1
    go_wp2_with (first | (fail))
    refine (msgWrong.calls g 3 _).mono ?_
    rintro en w2 ⟨rfl, rfl⟩
    go_wp2_with (first | (fail))
    refine bodyPost_ret (results_cell_tmp_row rfl _ _ w.heap.size 75 #[.int .i64 t0, .int .i64 t1, .int .u64 t2, .string t3] (0, 0) _ rfl (by refine blk_put (cs := #[.int .i64 t0, .int .i64 t1, .int .u64 t2, .string ⟨#[]⟩]) ?_ 3 _ rfl; refine blk_put (cs := #[.int .i64 t0, .int .i64 t1, .int .u64 0, .string ⟨#[]⟩]) ?_ 2 _ rfl; refine blk_put (cs := #[.int .i64 t0, .int .i64 0, .int .u64 0, .string ⟨#[]⟩]) ?_ 1 _ rfl; refine blk_put (cs := #[.int .i64 0, .int .i64 0, .int .u64 0, .string ⟨#[]⟩]) ?_ 0 _ rfl; exact BK2.out) Tryz.underlying75 rfl (by kernel_rfl)) rfl ?_
    exact ⟨rfl, below_set (below_set (below_set (below_set HB2.out (Nat.le_refl _)) (Nat.le_refl _)) (Nat.le_refl _)) (Nat.le_refl _)⟩
  · obtain rfl := HX1 rfl
    clear HX1
    have hq : (t1 == t1) = true := beq_self_eq_true t1
    go_wp2_with (first | (fail))
    refine (msgWrong.calls g 3 _).mono ?_
    rintro en w2 ⟨rfl, rfl⟩
    go_wp2_with (first | (fail))
    refine bodyPost_ret (results_cell_tmp_row rfl _ _ w.heap.size 75 #[.int .i64 t0, .int .i64 t1, .int .u64 t2, .string t3] (0, 0) _ rfl (by refine blk_put (cs := #[.int .i64 t0, .int .i64 t1, .int .u64 t2, .string ⟨#[]⟩]) ?_ 3 _ rfl; refine blk_put (cs := #[.int .i64 t0, .int .i64 t1, .int .u64 0, .string ⟨#[]⟩]) ?_ 2 _ rfl; refine blk_put (cs := #[.int .i64 t0, .int .i64 0, .int .u64 0, .string ⟨#[]⟩]) ?_ 1 _ rfl; refine blk_put (cs := #[.int .i64 0, .int .i64 0, .int .u64 0, .string ⟨#[]⟩]) ?_ 0 _ rfl; exact BK2.out) Tryz.underlying75 rfl (by kernel_rfl)) rfl ?_
    exact ⟨rfl, below_set (below_set (below_set (below_set HB2.out (Nat.le_refl _)) (Nat.le_refl _)) (Nat.le_refl _)) (Nat.le_refl _)⟩
theorem HM_drew {w : World} {g : Nat} {l : List S75} (h : Msg w g l) (n : Nat) : Msg (w.drewN n) g l := by
  obtain ⟨A, c, h1, h2, h3⟩ := h
  exact ⟨A, c, h1, blk_drewN h2 n, Kd.F_step h3 (fun _ _ _ => rfl)⟩
structure AttrMsg (b : ByteArray) (n i k : Option S75) (row : List Int) : Prop where
  size : b.size ≤ 140737488351232
  code : (fieldsS b).2 = 0
  len : (fieldsS b).1.length ≤ 3518437208883
  data : ∀ x ∈ (fieldsS b).1.map toP, x.f3.size ≤ 140737488351232
  hn : (((fieldsS b).1.map toP).filter fun x => x.f0 == 1).getLast? = n
  hn2 : ∀ y, n = some y → y.f1 = 2
  hi : (((fieldsS b).1.map toP).filter fun x => x.f0 == 3).getLast? = i
  hi2 : ∀ y, i = some y → y.f1 = 0
  hk : (((fieldsS b).1.map toP).filter fun x => x.f0 == 20).getLast? = k
  hk2 : ∀ y, k = some y → y.f1 = 0
  row8 : intsL ((((fieldsS b).1.map toP).filter fun x => x.f0 == 8).map flP) [] = (row, 0)
  name : ∃ K, tensor_Name.f K (lastTup n).2.2.2.1 = some true
  kind : (lastTup k).2.2.1 = 2 ∨ (lastTup k).2.2.1 = 7
  short : row.length ≤ 65536
def attrOf (n i k : Option S75) (row : List Int) : S65 := if (lastTup k).2.2.1 = 2 then ⟨(lastTup n).2.2.2.1, true, wrap64 (lastTup i).2.2.1, []⟩ else ⟨(lastTup n).2.2.2.1, false, 0, row⟩
set_option maxHeartbeats 4000000 in
set_option maxRecDepth 100000 in
theorem pbAttr.calls (b : ByteArray) (n i k : Option S75) (row : List Int) (h : AttrMsg b n i k row) (w : World) :
    Calls Tryz.prog 31 #[.string b] w fun en w' => ∃ A c, en = .returned (.tuple #[.agg #[.string (attrOf n i k row).f0, .bool (attrOf n i k row).f1, .int .i64 (attrOf n i k row).f2, .slice A (attrOf n i k row).f3.length c], .int .i64 0]) ∧ (attrOf n i k row).f3.length ≤ c ∧ Kd.F (Kd.int .i64) w' (fun k_ => w.heap.size ≤ k_) A (attrOf n i k row).f3.length (attrOf n i k row).f3 ∧ Below w.heap.size w w' := by
  have hu := Tryz.underlying81
  have hu2 := Tryz.underlying75
  have hu3 := Tryz.underlying65
  obtain ⟨h1, h2, h3, h4, h5, h6, h7, h8, h9, ha, hb, ⟨K, hc⟩, hd, he⟩ := h
  have HO := Aside0.mk (msgOpen.calls b h1 h2)
  have HL := Aside0.mk (show ((fieldsS b).1.map toP).length ≤ 3518437208883 by rw [List.length_map]; exact h3)
  generalize (fieldsS b).1.map toP = L at HO HL h4 h5 h7 h9 hb
  have HD := Aside0.mk h4
  have H1 := Aside0.mk h5
  have H1t := Aside0.mk h6
  have H3 := Aside0.mk h7
  have H3t := Aside0.mk h8
  have H20 := Aside0.mk h9
  have H20t := Aside0.mk ha
  have H8 := Aside0.mk hb
  have HN := Aside0.mk hc
  have HK := Aside0.mk hd
  have HC := Aside0.mk he
  clear h1 h2 h3 h4 h5 h6 h7 h8 h9 ha hb hc hd he
  have HB := Aside0.mk (below_alloc (Below.refl w.heap.size w) (Obj.cells #[.string ⟨#[]⟩, .bool false, .int .i64 0, .slice none 0 0] 65))
  have BK0 := Aside0.mk (blk_new w (Obj.cells #[.string ⟨#[]⟩, .bool false, .int .i64 0, .slice none 0 0] 65))
  go_enter Tryz.func31, Tryz.ntmps31
  go_wp2_with (first | (fail))
  generalize w.alloc (Obj.cells #[.string ⟨#[]⟩, .bool false, .int .i64 0, .slice none 0 0] 65) = w0 at HB BK0 ⊢
  refine (HO.out w0).mono ?_
  rintro en u ⟨g, rfl, hM, hB⟩
  have n0_ := Aside0.mk (below_step HB.out hB)
  have n1_ := Aside0.mk (blk_below BK0.out hB)
  clear HB BK0
  have HB := n0_
  have BK0 := n1_
  clear n0_ n1_
  have HM := Aside0.mk hM
  clear hM hB HO
  go_wp2_with (first | (fail))
  refine (msgLast.calls g L 1 2 n _ HM.out HL.out H1.out H1t.out).mono ?_
  rintro en u ⟨rfl, hB⟩
  have n0_ := Aside0.mk (below_step HB.out hB)
  have n1_ := Aside0.mk (blk_below BK0.out hB)
  have n2_ := Aside0.mk (HM.out.below hB)
  clear HB BK0 HM
  have HB := n0_
  have BK0 := n1_
  have HM := n2_
  clear n0_ n1_ n2_
  clear hB
  have n0_ := Aside0.mk (below_step HB.out (below_alloc (Below.refl u.heap.size u) (Obj.cells #[.int .i64 (lastTup n).1, .int .i64 (lastTup n).2.1, .int .u64 (lastTup n).2.2.1, .string (lastTup n).2.2.2.1] 75)))
  have n1_ := Aside0.mk (blk_below BK0.out (below_alloc (Below.refl u.heap.size u) (Obj.cells #[.int .i64 (lastTup n).1, .int .i64 (lastTup n).2.1, .int .u64 (lastTup n).2.2.1, .string (lastTup n).2.2.2.1] 75)))
  have n2_ := Aside0.mk (HM.out.below (below_alloc (Below.refl u.heap.size u) (Obj.cells #[.int .i64 (lastTup n).1, .int .i64 (lastTup n).2.1, .int .u64 (lastTup n).2.2.1, .string (lastTup n).2.2.2.1] 75)))
  clear HB BK0 HM
  have HB := n0_
  have BK0 := n1_
  have HM := n2_
  clear n0_ n1_ n2_
  have BK1 := Aside0.mk (blk_new u (Obj.cells #[.int .i64 (lastTup n).1, .int .i64 (lastTup n).2.1, .int .u64 (lastTup n).2.2.1, .string (lastTup n).2.2.2.1] 75))
  go_wp2_with (first | (fail))
  generalize u.alloc (Obj.cells #[.int .i64 (lastTup n).1, .int .i64 (lastTup n).2.1, .int .u64 (lastTup n).2.2.1, .string (lastTup n).2.2.2.1] 75) = u2 at HB BK0 HM BK1 ⊢
  generalize u.heap.size = g1 at BK1 ⊢
  clear u
  refine (msgLast.calls g L 3 0 i _ HM.out HL.out H3.out H3t.out).mono ?_
  rintro en u ⟨rfl, hB⟩
  have n0_ := Aside0.mk (below_step HB.out hB)
  have n1_ := Aside0.mk (blk_below BK0.out hB)
  have n2_ := Aside0.mk (HM.out.below hB)
  have n3_ := Aside0.mk (blk_below BK1.out hB)
  clear HB BK0 HM BK1
  have HB := n0_
  have BK0 := n1_
  have HM := n2_
  have BK1 := n3_
  clear n0_ n1_ n2_ n3_
  clear hB
  have n0_ := Aside0.mk (below_step HB.out (below_alloc (Below.refl u.heap.size u) (Obj.cells #[.int .i64 (lastTup i).1, .int .i64 (lastTup i).2.1, .int .u64 (lastTup i).2.2.1, .string (lastTup i).2.2.2.1] 75)))
  have n1_ := Aside0.mk (blk_below BK0.out (below_alloc (Below.refl u.heap.size u) (Obj.cells #[.int .i64 (lastTup i).1, .int .i64 (lastTup i).2.1, .int .u64 (lastTup i).2.2.1, .string (lastTup i).2.2.2.1] 75)))
  have n2_ := Aside0.mk (HM.out.below (below_alloc (Below.refl u.heap.size u) (Obj.cells #[.int .i64 (lastTup i).1, .int .i64 (lastTup i).2.1, .int .u64 (lastTup i).2.2.1, .string (lastTup i).2.2.2.1] 75)))
  have n3_ := Aside0.mk (blk_below BK1.out (below_alloc (Below.refl u.heap.size u) (Obj.cells #[.int .i64 (lastTup i).1, .int .i64 (lastTup i).2.1, .int .u64 (lastTup i).2.2.1, .string (lastTup i).2.2.2.1] 75)))
  clear HB BK0 HM BK1
  have HB := n0_
  have BK0 := n1_
  have HM := n2_
  have BK1 := n3_
  clear n0_ n1_ n2_ n3_
  have BK3 := Aside0.mk (blk_new u (Obj.cells #[.int .i64 (lastTup i).1, .int .i64 (lastTup i).2.1, .int .u64 (lastTup i).2.2.1, .string (lastTup i).2.2.2.1] 75))
  go_wp2_with (first | (fail))
  generalize u.alloc (Obj.cells #[.int .i64 (lastTup i).1, .int .i64 (lastTup i).2.1, .int .u64 (lastTup i).2.2.1, .string (lastTup i).2.2.2.1] 75) = u2 at HB BK0 HM BK1 BK3 ⊢
  generalize u.heap.size = g3 at BK3 ⊢
  clear u
  refine (msgLast.calls g L 20 0 k _ HM.out HL.out H20.out H20t.out).mono ?_
  rintro en u ⟨rfl, hB⟩
  have n0_ := Aside0.mk (below_step HB.out hB)
  have n1_ := Aside0.mk (blk_below BK0.out hB)
  have n2_ := Aside0.mk (HM.out.below hB)
  have n3_ := Aside0.mk (blk_below BK1.out hB)
  have n4_ := Aside0.mk (blk_below BK3.out hB)
  clear HB BK0 HM BK1 BK3
  have HB := n0_
  have BK0 := n1_
  have HM := n2_
  have BK1 := n3_
  have BK3 := n4_
  clear n0_ n1_ n2_ n3_ n4_
  clear hB
  have n0_ := Aside0.mk (below_step HB.out (below_alloc (Below.refl u.heap.size u) (Obj.cells #[.int .i64 (lastTup k).1, .int .i64 (lastTup k).2.1, .int .u64 (lastTup k).2.2.1, .string (lastTup k).2.2.2.1] 75)))
  have n1_ := Aside0.mk (blk_below BK0.out (below_alloc (Below.refl u.heap.size u) (Obj.cells #[.int .i64 (lastTup k).1, .int .i64 (lastTup k).2.1, .int .u64 (lastTup k).2.2.1, .string (lastTup k).2.2.2.1] 75)))
  have n2_ := Aside0.mk (HM.out.below (below_alloc (Below.refl u.heap.size u) (Obj.cells #[.int .i64 (lastTup k).1, .int .i64 (lastTup k).2.1, .int .u64 (lastTup k).2.2.1, .string (lastTup k).2.2.2.1] 75)))
  have n3_ := Aside0.mk (blk_below BK1.out (below_alloc (Below.refl u.heap.size u) (Obj.cells #[.int .i64 (lastTup k).1, .int .i64 (lastTup k).2.1, .int .u64 (lastTup k).2.2.1, .string (lastTup k).2.2.2.1] 75)))
  have n4_ := Aside0.mk (blk_below BK3.out (below_alloc (Below.refl u.heap.size u) (Obj.cells #[.int .i64 (lastTup k).1, .int .i64 (lastTup k).2.1, .int .u64 (lastTup k).2.2.1, .string (lastTup k).2.2.2.1] 75)))
  clear HB BK0 HM BK1 BK3
  have HB := n0_
  have BK0 := n1_
  have HM := n2_
  have BK1 := n3_
  have BK3 := n4_
  clear n0_ n1_ n2_ n3_ n4_
  have BK20 := Aside0.mk (blk_new u (Obj.cells #[.int .i64 (lastTup k).1, .int .i64 (lastTup k).2.1, .int .u64 (lastTup k).2.2.1, .string (lastTup k).2.2.2.1] 75))
  go_wp2_with (first | (fail))
  generalize u.alloc (Obj.cells #[.int .i64 (lastTup k).1, .int .i64 (lastTup k).2.1, .int .u64 (lastTup k).2.2.1, .string (lastTup k).2.2.2.1] 75) = u2 at HB BK0 HM BK1 BK3 BK20 ⊢
  generalize u.heap.size = g20 at BK20 ⊢
  clear u
  refine (msgInts.calls g L 8 row _ HM.out ⟨HL.out, HD.out⟩ H8.out).mono ?_
  rintro en u ⟨Ar, cr, rfl, hR, hB⟩
  have n0_ := Aside0.mk (below_step HB.out hB)
  have n1_ := Aside0.mk (blk_below BK0.out hB)
  have n2_ := Aside0.mk (HM.out.below hB)
  have n3_ := Aside0.mk (blk_below BK1.out hB)
  have n4_ := Aside0.mk (blk_below BK3.out hB)
  have n5_ := Aside0.mk (blk_below BK20.out hB)
  clear HB BK0 HM BK1 BK3 BK20
  have HB := n0_
  have BK0 := n1_
  have HM := n2_
  have BK1 := n3_
  have BK3 := n4_
  have BK20 := n5_
  clear n0_ n1_ n2_ n3_ n4_ n5_
  have HR := Aside0.mk (Kd.R_reads' hR).2.2
  have HRl := Aside0.mk (Kd.R_reads' hR).2.1
  clear hR hB
  have c13 : u.cell? ⟨g1, 3, none⟩ = some (.string (lastTup n).2.2.2.1) := blk_cell BK1.out 3
  go_wp2_with (first | (fail))
  refine (tensor_Name.calls K _ true _ HN.out).mono ?_
  rintro en u2 ⟨rfl, ⟨nd, rfl⟩⟩
  clear c13
  have n0_ := Aside0.mk (pw_below_drewN HB.out nd)
  have n1_ := Aside0.mk (blk_drewN BK0.out nd)
  have n2_ := Aside0.mk (HM_drew HM.out nd)
  have n3_ := Aside0.mk (blk_drewN BK1.out nd)
  have n4_ := Aside0.mk (blk_drewN BK3.out nd)
  have n5_ := Aside0.mk (blk_drewN BK20.out nd)
  have n6_ := Aside0.mk (Kd.C_drewN HR.out nd)
  clear HB BK0 HM BK1 BK3 BK20 HR
  have HB := n0_
  have BK0 := n1_
  have HM := n2_
  have BK1 := n3_
  have BK3 := n4_
  have BK20 := n5_
  have HR := n6_
  clear n0_ n1_ n2_ n3_ n4_ n5_ n6_
  generalize u.drewN nd = u3 at HB BK0 HM BK1 BK3 BK20 HR ⊢
  go_wp2_with (first | (fail))
  refine (msgWrong.calls g 8 _).mono ?_
  rintro en u3 ⟨rfl, rfl⟩
  have c202 : u3.cell? ⟨g20, 2, none⟩ = some (.int .u64 (lastTup k).2.2.1) := blk_cell BK20.out 2
  have cm := HM.out.code
  rcases HK.out with hk | hk
  · rw [hk] at c202
    have HA := Aside0.mk (show attrOf n i k row = ⟨(lastTup n).2.2.2.1, true, wrap64 (lastTup i).2.2.1, []⟩ from if_pos hk)
    clear hk
    go_wp2_with (first | (fail))
    refine (msgWrong.calls g 12 _).mono ?_
    rintro en u3 ⟨rfl, rfl⟩
    have c13 : u3.cell? ⟨g1, 3, none⟩ = some (.string (lastTup n).2.2.2.1) := blk_cell BK1.out 3
    have c32 : u3.cell? ⟨g3, 2, none⟩ = some (.int .u64 (lastTup i).2.2.1) := blk_cell BK3.out 2
    go_wp2_with (first | (fail))
    refine (model_Number.calls _ (wrap64 (lastTup i).2.2.1) _ _ _ _ _ rfl).mono ?_
    rintro en u4 ⟨v, rfl, hR, hB⟩
    obtain ⟨A, c, rfl, hl, hF⟩ := R_new hR
    have n0_ := Aside0.mk (below_step HB.out hB)
    have n1_ := Aside0.mk (blk_below BK0.out hB)
    have HF := Aside0.mk hF
    have HFl := Aside0.mk hl
    have HS := Aside0.mk (show w.heap.size < u3.heap.size from blk_lt BK0.out)
    clear HB BK0 hB hR hF hl c13 c202 cm c32
    have HB := n0_; have BK0 := n1_
    clear n0_ n1_
    have z0 : u4.cell? ⟨w.heap.size, 0, none⟩ = some (.string ⟨#[]⟩) := blk_cell BK0.out 0
    have y0 := blk_frozen BK0.out 0
    have z1 : u4.cell? ⟨w.heap.size, 1, none⟩ = some (.bool false) := blk_cell BK0.out 1
    have y1 := blk_frozen BK0.out 1
    have z2 : u4.cell? ⟨w.heap.size, 2, none⟩ = some (.int .i64 0) := blk_cell BK0.out 2
    have y2 := blk_frozen BK0.out 2
    have z3 : u4.cell? ⟨w.heap.size, 3, none⟩ = some (.slice none 0 0) := blk_cell BK0.out 3
    have y3 := blk_frozen BK0.out 3
    go_wp2_with (first | (fail))
    refine bodyPost_ret (results_cell_tmp_row rfl _ _ w.heap.size 65 #[.string (lastTup n).2.2.2.1, .bool true, .int .i64 (wrap64 (lastTup i).2.2.1), .slice A ([] : List Int).length c] (0, 0) _ rfl (by refine blk_put (cs := #[.string (lastTup n).2.2.2.1, .bool true, .int .i64 (wrap64 (lastTup i).2.2.1), .slice none 0 0]) ?_ 3 _ rfl; refine blk_put (cs := #[.string (lastTup n).2.2.2.1, .bool true, .int .i64 0, .slice none 0 0]) ?_ 2 _ rfl; refine blk_put (cs := #[.string (lastTup n).2.2.2.1, .bool false, .int .i64 0, .slice none 0 0]) ?_ 1 _ rfl; refine blk_put (cs := #[.string ⟨#[]⟩, .bool false, .int .i64 0, .slice none 0 0]) ?_ 0 _ rfl; exact BK0.out) Tryz.underlying65 rfl (by kernel_rfl)) rfl ?_
    rw [HA.out]
    refine ⟨A, c, rfl, HFl.out, ?_, below_set (below_set (below_set (below_set HB.out (Nat.le_refl _)) (Nat.le_refl _)) (Nat.le_refl _)) (Nat.le_refl _)⟩
    refine Kd.F_mono (Kd.F_step HF.out (fun k_ hk hlt => ?_)) (fun k_ hk => by have := HS.out; omega)
    have hne : k_ ≠ w.heap.size := by have := HS.out; omega
    rw [Below.heap_setCell _ _ _ k_ hne, Below.heap_setCell _ _ _ k_ hne, Below.heap_setCell _ _ _ k_ hne, Below.heap_setCell _ _ _ k_ hne]
  · rw [hk] at c202
    have HA := Aside0.mk (show attrOf n i k row = ⟨(lastTup n).2.2.2.1, false, 0, row⟩ from if_neg (by rw [hk]; decide))
    clear hk
    go_wp2_with (first | (fail))
    refine (msgWrong.calls g 12 _).mono ?_
    rintro en u3 ⟨rfl, rfl⟩
    have c13 : u3.cell? ⟨g1, 3, none⟩ = some (.string (lastTup n).2.2.2.1) := blk_cell BK1.out 3
    go_wp2_with (first | (fail))
    refine (model_Row.calls (lastTup n).2.2.2.1 Ar cr row (lastTup n).2.2.2.1 false 0 row _ HR.out HRl.out (by unfold model_Row.f; rw [show slices_Clone_int64.f row = some row from if_pos (by have := HC.out; omega)]; rfl)).mono ?_
    rintro en u4 ⟨v, rfl, hR, hB⟩
    obtain ⟨A, c, rfl, hl, hF⟩ := R_new hR
    have n0_ := Aside0.mk (below_step HB.out hB)
    have n1_ := Aside0.mk (blk_below BK0.out hB)
    have HF := Aside0.mk hF
    have HFl := Aside0.mk hl
    have HS := Aside0.mk (show w.heap.size < u3.heap.size from blk_lt BK0.out)
    clear HB BK0 hB hR hF hl c13 c202 cm
    have HB := n0_; have BK0 := n1_
    clear n0_ n1_
    have z0 : u4.cell? ⟨w.heap.size, 0, none⟩ = some (.string ⟨#[]⟩) := blk_cell BK0.out 0
    have y0 := blk_frozen BK0.out 0
    have z1 : u4.cell? ⟨w.heap.size, 1, none⟩ = some (.bool false) := blk_cell BK0.out 1
    have y1 := blk_frozen BK0.out 1
    have z2 : u4.cell? ⟨w.heap.size, 2, none⟩ = some (.int .i64 0) := blk_cell BK0.out 2
    have y2 := blk_frozen BK0.out 2
    have z3 : u4.cell? ⟨w.heap.size, 3, none⟩ = some (.slice none 0 0) := blk_cell BK0.out 3
    have y3 := blk_frozen BK0.out 3
    go_wp2_with (first | (fail))
    refine bodyPost_ret (results_cell_tmp_row rfl _ _ w.heap.size 65 #[.string (lastTup n).2.2.2.1, .bool false, .int .i64 0, .slice A row.length c] (0, 0) _ rfl (by refine blk_put (cs := #[.string (lastTup n).2.2.2.1, .bool false, .int .i64 0, .slice none 0 0]) ?_ 3 _ rfl; refine blk_put (cs := #[.string (lastTup n).2.2.2.1, .bool false, .int .i64 0, .slice none 0 0]) ?_ 2 _ rfl; refine blk_put (cs := #[.string (lastTup n).2.2.2.1, .bool false, .int .i64 0, .slice none 0 0]) ?_ 1 _ rfl; refine blk_put (cs := #[.string ⟨#[]⟩, .bool false, .int .i64 0, .slice none 0 0]) ?_ 0 _ rfl; exact BK0.out) Tryz.underlying65 rfl (by kernel_rfl)) rfl ?_
    rw [HA.out]
    refine ⟨A, c, rfl, HFl.out, ?_, below_set (below_set (below_set (below_set HB.out (Nat.le_refl _)) (Nat.le_refl _)) (Nat.le_refl _)) (Nat.le_refl _)⟩
    refine Kd.F_mono (Kd.F_step HF.out (fun k_ hk hlt => ?_)) (fun k_ hk => by have := HS.out; omega)
    have hne : k_ ≠ w.heap.size := by have := HS.out; omega
    rw [Below.heap_setCell _ _ _ k_ hne, Below.heap_setCell _ _ _ k_ hne, Below.heap_setCell _ _ _ k_ hne, Below.heap_setCell _ _ _ k_ hne]
end Go.Proofs.YthidedmnmdlfkaaGreat.X
