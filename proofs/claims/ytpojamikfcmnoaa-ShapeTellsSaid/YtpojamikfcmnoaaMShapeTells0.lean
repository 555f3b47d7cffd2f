import Derived.Test.YtpojamikfcmnoaaProg
import Derived.Below
import Derived.Deep.Draws
import Derived.Deep.AppendLies
import Derived.Maps.AppendAt
import Derived.OwnWalk
import Derived.Laws.BytesArg
import Derived.Laws.MakeOwn
import Derived.Laws.OwnMore
import Derived.Deep.OwnRows
import Derived.Tactics
import Derived.Lib.ConvBytes
import Derived.Laws.Slices
import Derived.WalkKit
import Derived.KernelRfl
import Derived.RowKit3
import Derived.Deep.LoopGhost
import Derived.Deep.QuietTactic
import Derived.BigQuiet
import Derived.WideLaws
import Derived.Deep.DeepCutAuto
import Derived.Deep.CutBlock
import Derived.Deep.RegionHeld3
import Derived.Laws.Rows
import Derived.Lib.AppendStr
import Derived.ArgAppend
import Derived.Laws.IdiomCopy
import Derived.OrdersHeld
import Derived.Laws.BitsLemmas
import Derived.RowKit
import Derived.Test.YtpojamikfcmnoaaWWords
import Derived.Test.YtpojamikfcmnoaaWLast
import Derived.Test.YtpojamikfcmnoaaWTab
import Derived.Test.YtpojamikfcmnoaaWFour
import Derived.Test.YtpojamikfcmnoaaWQPut
import Derived.Test.YtpojamikfcmnoaaWApart
import Derived.Test.YtpojamikfcmnoaaWArr
import Derived.Test.YtpojamikfcmnoaaWZeros
import Derived.Test.YtpojamikfcmnoaaWFoot
import Derived.Test.YtpojamikfcmnoaaWKept
import Derived.Test.YtpojamikfcmnoaaWShare
import Derived.Test.YtpojamikfcmnoaaWN
import Derived.Test.YtpojamikfcmnoaaWFootNe
import Derived.Test.YtpojamikfcmnoaaWAt
import Derived.Test.YtpojamikfcmnoaaWEqStruct
import Derived.Test.YtpojamikfcmnoaaWRepsOne
import Derived.Test.YtpojamikfcmnoaaWInv
import Derived.Test.YtpojamikfcmnoaaWInvWords
import Derived.Test.YtpojamikfcmnoaaWGuard
import Derived.Test.YtpojamikfcmnoaaWNEv
import Derived.Test.YtpojamikfcmnoaaWMore
-- by xprint.py, a program of this session, over the kit's print.py
namespace Go.Proofs.Ytpojamikfcmnoaa.X
open Go.RowKit Go.Proofs.YtpojamikfcmnoaaW.PrintWords Go.Proofs.YtpojamikfcmnoaaW.PrintLast Go.Proofs.YtpojamikfcmnoaaW.PrintMore
attribute [local go_sem] max2_int min2_int max_two min_two max_three min_three max_four min_four   -- for this text's walks alone
set_option linter.unusedVariables false
set_option linter.unusedSimpArgs false



def errW : Option Int → Value
  | none => .nilIface
  | some c => .iface 0 (.int .i64 c)
theorem errW_none : errW none = .nilIface := rfl
theorem errW_some (c : Int) : errW (some c) = .iface 0 (.int .i64 c) := rfl

theorem info2 : (Try.prog.info? 2).map (fun i => (i.zero, i.size, i.bytes)) = some (some (.int .i64 0), 1, 8) := by kernel_rfl
theorem info5 : (Try.prog.info? 5).map (fun i => (i.zero, i.size, i.bytes)) = some (some (.int .u8 0), 1, 1) := by kernel_rfl
theorem info39 : (Try.prog.info? 39).map (fun i => (i.zero, i.size, i.bytes)) = some (some (.slice none 0 0), 1, 24) := by kernel_rfl
-- the values' own types
def rd_L2 (xs : List (List Int)) (i : Int) : (List Int) := xs.getD i.toNat ([] : List Int)
theorem at_L2 {w : World} {A : Option Addr} {n : Nat} {xs : List (List Int)} (h : Kd.C (Kd.slice 2 (Kd.int .i64)) w A n xs) (i : Int) (h0 : 0 ≤ i) (h1 : i < n) : ∃ ad A0 c0, A = some ad ∧ w.cell? (ad.add i.toNat) = some (.slice A0 (rd_L2 xs i).length c0) ∧ (rd_L2 xs i).length ≤ c0 ∧ (Kd.int .i64).C w A0 (rd_L2 xs i).length (rd_L2 xs i) := by
  obtain ⟨ad, c, e, _, hK, hc0⟩ := Kd.C_get h ([] : List Int) i h0 h1
  have hc : ∀ j u, c[j]? = some u → w.cell? (ad.add (i.toNat * 1 + j)) = some u := hc0
  obtain ⟨A0, c0, rfl, l0, g0⟩ := hK
  exact ⟨ad, A0, c0, e, by have hq := hc 0 _ rfl; rwa [Nat.mul_one, Nat.add_zero] at hq, l0, g0⟩

end Go.Proofs.Ytpojamikfcmnoaa.X
-- by xprint.py, a program of this session, over the kit's print.py
namespace Go.Proofs.Ytpojamikfcmnoaa.X
open Go.RowKit Go.Proofs.YtpojamikfcmnoaaW.PrintWords Go.Proofs.YtpojamikfcmnoaaW.PrintLast Go.Proofs.YtpojamikfcmnoaaW.PrintMore
attribute [local go_sem] max2_int min2_int max_two min_two max_three min_three max_four min_four   -- for this text's walks alone
set_option linter.unusedVariables false
set_option linter.unusedSimpArgs false

/-! ### slices_Equal_int64_int64: function 65 -/
def slices_Equal_int64_int64.l0 : Nat → List Int → List Int → Int → Int → Option (Bool)
  | 0, _, _, _, _ => none
  | k + 1, x0, x1, x12, x13 => if x13 < x12 then (if 0 ≤ x13 then (if x13 < (x0.length : Int) then (if x13 < (x1.length : Int) then (if (rd x0 x13) = (rd x1 x13) then (slices_Equal_int64_int64.l0 k x0 x1 x12 (wrap64 (x13 + 1))) else (some false)) else (none)) else (none)) else (none)) else (some true)
def slices_Equal_int64_int64.f (k : Nat) (l0 : List Int) (l1 : List Int) : Option (Bool) := if (l0.length : Int) = (l1.length : Int) then (slices_Equal_int64_int64.l0 k l0 l1 (l0.length : Int) 0) else (some false)
theorem slices_Equal_int64_int64.mono_l : ∀ k, (∀ y0 y1 y2 y3, LeO (slices_Equal_int64_int64.l0 k y0 y1 y2 y3) (slices_Equal_int64_int64.l0 (k + 1) y0 y1 y2 y3))
  | 0 => fun _ _ _ _ r h => by simp [slices_Equal_int64_int64.l0] at h
  | k + 1 => by
    have ih0 := slices_Equal_int64_int64.mono_l k
    · intro y0 y1 y2 y3
      unfold slices_Equal_int64_int64.l0
      repeat' first
      | (with_reducible exact ih0 _ _ _ _)
      | (with_reducible exact LeO.refl _)
      | (with_reducible exact LeO.none _)
      | (with_reducible refine LeO.ite ?_ ?_)
      | (with_reducible refine LeO.bind ?_ (fun _ => ?_))
      | exact ih0 _ _ _ _
      | exact LeO.none _
      | refine LeO.ite ?_ ?_
      | refine LeO.bind ?_ (fun _ => ?_)
theorem slices_Equal_int64_int64.mono : ∀ a0 a1 k, LeO (slices_Equal_int64_int64.f k a0 a1) (slices_Equal_int64_int64.f (k + 1) a0 a1) := by
  intro a0 a1 k
  have ih0 := slices_Equal_int64_int64.mono_l k
  unfold slices_Equal_int64_int64.f
  repeat' first
      | (with_reducible exact ih0 _ _ _ _)
      | (with_reducible exact LeO.refl _)
      | (with_reducible exact LeO.none _)
      | (with_reducible refine LeO.ite ?_ ?_)
      | (with_reducible refine LeO.bind ?_ (fun _ => ?_))
      | exact ih0 _ _ _ _
      | exact LeO.none _
      | refine LeO.ite ?_ ?_
      | refine LeO.bind ?_ (fun _ => ?_)
set_option maxHeartbeats 8000000 in
set_option maxRecDepth 100000 in
theorem slices_Equal_int64_int64.calls (k : Nat) (A0 : Option Addr) (c0 : Nat) (l0 : List Int) (A1 : Option Addr) (c1 : Nat) (l1 : List Int) (r : Bool) (w : World) (hr0 : Kd.C (Kd.int .i64) w A0 l0.length l0) (hc0 : l0.length ≤ c0) (hr1 : Kd.C (Kd.int .i64) w A1 l1.length l1) (hc1 : l1.length ≤ c1) (h : slices_Equal_int64_int64.f k l0 l1 = some r) :
    Calls Try.prog 65 #[.slice A0 l0.length c0, .slice A1 l1.length c1] w fun e w' => e = .returned (.bool r) ∧ Drawn0 w w' := by
  have HR0 := Aside0.mk hr0
  have HC0 := Aside0.mk hc0
  clear hr0 hc0
  have HR1 := Aside0.mk hr1
  have HC1 := Aside0.mk hc1
  clear hr1 hc1
  have H : (if (l0.length : Int) = (l1.length : Int) then (slices_Equal_int64_int64.l0 k l0 l1 (l0.length : Int) 0) else (some false)) = some r := h
  clear h
  by_cases c3 : (l0.length : Int) = (l1.length : Int)
  · rw [if_pos c3] at H
    have c3b0 : ((l0.length : Int) == (l1.length : Int)) = true := beq_iff_eq.mpr c3
    have c3b1 : ((l0.length : Int) != (l1.length : Int)) = false := bne_eq_false_iff_eq.mpr c3
    have c3b2 : (l0.length == l1.length) = true := by first | simpa using c3 | (simp at c3 ⊢; omega)
    clear c3
    have H' := Aside0.mk H
    clear H
    go_enter Try.func65, Try.ntmps65
    go_wp2
    repeat (go_quiet (fail); try go_wp2)
    go_loopg [13] k (fun kq v13 w' => ∃ (x13_1 : Int), v13 = .int .i64 x13_1 ∧ Aside0 (slices_Equal_int64_int64.l0 kq l0 l1 (l0.length : Int) x13_1 = some r) ∧ Aside0 (kq ≤ k) ∧ Drawn0 w w')
    case atStart => exact ⟨(0), (by first | rfl | (simp; done) | (simp [*]; done)), H', ⟨Nat.le_refl _⟩, by repeat (first | exact Drawn0.refl _ | apply Drawn0.step)⟩
    case round =>
      clear H'
      try clear c1
      try clear p2
      try clear c3
      try clear c3b0
      try clear c3b1
      try clear c3b2
      obtain ⟨x13_1, rfl, HA, HK1, ⟨m1, rfl⟩⟩ := hrel
      cases gk with
      | zero => exact absurd HA.out (by simp [slices_Equal_int64_int64.l0])
      | succ k1 =>
        have H := HA.out
        clear HA
        simp only [slices_Equal_int64_int64.l0] at H
        by_cases c4 : x13_1 < (l0.length : Int)
        · rw [if_pos c4] at H
          have c4b0 : decide (x13_1 < (l0.length : Int)) = true := decide_eq_true c4
          clear c4
          by_cases c5 : 0 ≤ x13_1
          · rw [if_pos c5] at H
            have c5b0 : decide (0 ≤ x13_1) = true := decide_eq_true c5
            clear c5
            by_cases c6 : x13_1 < (l0.length : Int)
            · rw [if_pos c6] at H
              have c6b0 : decide (x13_1 < (l0.length : Int)) = true := decide_eq_true c6
              clear c6
              by_cases c7 : x13_1 < (l1.length : Int)
              · rw [if_pos c7] at H
                have c7b0 : decide (x13_1 < (l1.length : Int)) = true := decide_eq_true c7
                clear c7
                by_cases c8 : (rd l0 x13_1) = (rd l1 x13_1)
                · rw [if_pos c8] at H
                  have c8b0 : ((rd l0 x13_1) == (rd l1 x13_1)) = true := beq_iff_eq.mpr c8
                  have c8b1 : ((rd l0 x13_1) != (rd l1 x13_1)) = false := bne_eq_false_iff_eq.mpr c8
                  clear c8
                  have H' := Aside0.mk H
                  clear H
                  have p101 : 0 ≤ (x13_1 : Int) := of_decide_eq_true (by first | (with_reducible assumption) | assumption)
                  have q101 : x13_1 < (l0.length : Int) := of_decide_eq_true (by first | (with_reducible assumption) | assumption)
                  obtain ⟨ad101, e101, hx101_0⟩ := Kd.at_int HR0.out x13_1 p101 q101
                  cases e101
                  replace p101 := eq_true p101
                  replace q101 := eq_true q101
                  have p102 : 0 ≤ (x13_1 : Int) := of_decide_eq_true (by first | (with_reducible assumption) | assumption)
                  have q102 : x13_1 < (l1.length : Int) := of_decide_eq_true (by first | (with_reducible assumption) | assumption)
                  obtain ⟨ad102, e102, hx102_0⟩ := Kd.at_int HR1.out x13_1 p102 q102
                  cases e102
                  replace p102 := eq_true p102
                  replace q102 := eq_true q102
                  go_wp2
                  repeat (go_quiet (fail); try go_wp2)
                  go_roundg k1
                  case measure => have := HK1.out; omega
                  case rel => exact ⟨(wrap64 (x13_1 + 1)), (by first | rfl | (simp; done) | (simp [*]; done)), H', ⟨by have := HK1.out; omega⟩, by repeat (first | exact Drawn0.refl _ | apply Drawn0.step)⟩
                · rw [if_neg c8] at H
                  have c8b0 : ((rd l0 x13_1) == (rd l1 x13_1)) = false := beq_eq_false_iff_ne.mpr c8
                  have c8b1 : ((rd l0 x13_1) != (rd l1 x13_1)) = true := bne_iff_ne.mpr c8
                  obtain rfl := Option.some.inj H
                  have p101 : 0 ≤ (x13_1 : Int) := of_decide_eq_true (by first | (with_reducible assumption) | assumption)
                  have q101 : x13_1 < (l0.length : Int) := of_decide_eq_true (by first | (with_reducible assumption) | assumption)
                  obtain ⟨ad101, e101, hx101_0⟩ := Kd.at_int HR0.out x13_1 p101 q101
                  cases e101
                  replace p101 := eq_true p101
                  replace q101 := eq_true q101
                  have p102 : 0 ≤ (x13_1 : Int) := of_decide_eq_true (by first | (with_reducible assumption) | assumption)
                  have q102 : x13_1 < (l1.length : Int) := of_decide_eq_true (by first | (with_reducible assumption) | assumption)
                  obtain ⟨ad102, e102, hx102_0⟩ := Kd.at_int HR1.out x13_1 p102 q102
                  cases e102
                  replace p102 := eq_true p102
                  replace q102 := eq_true q102
                  go_wp2
                  repeat (go_quiet (fail); try go_wp2)
                  go_ret
                  exact ⟨by first | rfl | (simp; done) | (simp [*]; done), by repeat (first | exact Drawn0.refl _ | apply Drawn0.step)⟩
              · rw [if_neg c7] at H
                exact absurd H (by simp)
            · rw [if_neg c6] at H
              exact absurd H (by simp)
          · rw [if_neg c5] at H
            exact absurd H (by simp)
        · rw [if_neg c4] at H
          have c4b0 : decide (x13_1 < (l0.length : Int)) = false := decide_eq_false c4
          clear c4
          obtain rfl := Option.some.inj H
          go_wp2
          repeat (go_quiet (fail); try go_wp2)
          go_ret
          exact ⟨by first | rfl | (simp; done) | (simp [*]; done), by repeat (first | exact Drawn0.refl _ | apply Drawn0.step)⟩
  · rw [if_neg c3] at H
    have c3b0 : ((l0.length : Int) == (l1.length : Int)) = false := beq_eq_false_iff_ne.mpr c3
    have c3b1 : ((l0.length : Int) != (l1.length : Int)) = true := bne_iff_ne.mpr c3
    have c3b2 : (l0.length == l1.length) = false := by first | simpa using c3 | (simp at c3 ⊢; omega)
    obtain rfl := Option.some.inj H
    go_enter Try.func65, Try.ntmps65
    go_wp2
    repeat (go_quiet (fail); try go_wp2)
    go_ret
    exact ⟨by first | rfl | (simp; done) | (simp [*]; done), by repeat (first | exact Drawn0.refl _ | apply Drawn0.step)⟩

end Go.Proofs.Ytpojamikfcmnoaa.X
-- by xprint.py, a program of this session, over the kit's print.py
namespace Go.Proofs.Ytpojamikfcmnoaa.X
open Go.RowKit Go.Proofs.YtpojamikfcmnoaaW.PrintWords Go.Proofs.YtpojamikfcmnoaaW.PrintLast Go.Proofs.YtpojamikfcmnoaaW.PrintMore
attribute [local go_sem] max2_int min2_int max_two min_two max_three min_three max_four min_four   -- for this text's walks alone
set_option linter.unusedVariables false
set_option linter.unusedSimpArgs false

/-! Shapes: plain Lean -/
def sizeL : List Int → Int → Bool → Int × Int
  | [], n, z => if z = true then (0, 0) else if n > 65536 then (0, 7) else (n, 0)
  | d :: l, n, z => if d > 65536 then (0, 7) else if d = 0 then sizeL l n true else sizeL l (if 65537 < n * d then 65537 else n * d) z
def sizeS (l : List Int) : Int × Int := if l.length > 8 then (0, 6) else if l.any (fun x => decide (x < 0)) then (0, 6) else sizeL l 1 false
theorem mul_cap {n d : Int} (h0 : 0 ≤ n) (h1 : n ≤ 65537) (h2 : 0 ≤ d) (h3 : d ≤ 65536) : 0 ≤ n * d ∧ n * d ≤ 4295032832 := by
  refine ⟨Int.mul_nonneg h0 h2, ?_⟩
  have := Int.mul_le_mul h1 h3 h2 (by omega : (0 : Int) ≤ 65537)
  omega
theorem sizeL_zero (l : List Int) : ∀ (n : Int) (z : Bool), (∀ x ∈ l, x ≤ 65536) → (z = true ∨ ∃ x ∈ l, x = 0) → sizeL l n z = (0, 0) := by
  induction l with
  | nil =>
    intro n z _ h
    rcases h with h | ⟨x, hx, _⟩
    · rw [sizeL, if_pos h]
    · cases hx
  | cons d l ih =>
    intro n z hg h
    have hd := hg d (List.mem_cons_self ..)
    have hl : ∀ x ∈ l, x ≤ 65536 := fun x hx => hg x (List.mem_cons_of_mem _ hx)
    rw [sizeL, if_neg (by omega)]
    by_cases h0 : d = 0
    · rw [if_pos h0]; exact ih n true hl (Or.inl rfl)
    · rw [if_neg h0]
      refine ih _ z hl ?_
      rcases h with h | ⟨x, hx, e⟩
      · exact Or.inl h
      · rcases List.mem_cons.1 hx with rfl | hx
        · exact absurd e h0
        · exact Or.inr ⟨x, hx, e⟩
theorem sizeL_great (l : List Int) : ∀ (n : Int) (z : Bool), (∃ x ∈ l, x > 65536) → sizeL l n z = (0, 7) := by
  induction l with
  | nil => intro n z h; obtain ⟨x, hx, _⟩ := h; cases hx
  | cons d l ih =>
    intro n z h
    rw [sizeL]
    by_cases hd : d > 65536
    · rw [if_pos hd]
    · rw [if_neg hd]
      have : ∃ x ∈ l, x > 65536 := by
        obtain ⟨x, hx, e⟩ := h
        rcases List.mem_cons.1 hx with rfl | hx
        · exact absurd e hd
        · exact ⟨x, hx, e⟩
      split
      · exact ih _ _ this
      · exact ih _ _ this
theorem sizeL_full (l : List Int) : (∀ x ∈ l, 0 < x ∧ x ≤ 65536) → sizeL l 65537 false = (0, 7) := by
  induction l with
  | nil => intro _; rfl
  | cons d l ih =>
    intro h
    have hd := h d (List.mem_cons_self ..)
    rw [sizeL, if_neg (by omega), if_neg (by omega)]
    have : (if 65537 < 65537 * d then 65537 else 65537 * d) = 65537 := by split <;> omega
    rw [this]
    exact ih (fun x hx => h x (List.mem_cons_of_mem _ hx))
theorem any_take (p : Int → Bool) (l : List Int) (i : Nat) (h : i < l.length) : (l.take (i + 1)).any p = ((l.take i).any p || p l[i]) := by
  rw [List.take_succ_eq_append_getElem h, List.any_append]; simp
def zipB : List Int → List Int → Option (List Int)
  | x :: xs, y :: ys => if x = y ∨ y = 1 then (zipB xs ys).map (fun l => x :: l) else if x = 1 then (zipB xs ys).map (fun l => y :: l) else none
  | _, _ => some []
def endB (o : Option (List Int)) : List Int × Int := o.elim ([], 6) fun out => if (sizeS out).2 = 0 then (out, 0) else ([], (sizeS out).2)
def wideL (l : List Int) (n : Nat) : List Int := List.replicate (n - l.length) 1 ++ l
def broadS (a b : List Int) : List Int × Int := if (sizeS a).2 = 0 then (if (sizeS b).2 = 0 then endB (zipB (wideL a (max a.length b.length)) (wideL b (max a.length b.length))) else ([], (sizeS b).2)) else ([], (sizeS a).2)
theorem sizeS_len {l : List Int} (h : (sizeS l).2 = 0) : l.length ≤ 8 := by
  unfold sizeS at h
  split at h
  · cases h
  · omega
theorem zipB_none (xs ys : List Int) {p q : List Int} (hl : p.length = q.length) (h : zipB xs ys = none) : zipB (p ++ xs) (q ++ ys) = none := by
  induction p generalizing q with
  | nil =>
    rw [List.eq_nil_of_length_eq_zero hl.symm]; exact h
  | cons a p ih =>
    cases q with
    | nil => cases hl
    | cons b q =>
      have := ih (q := q) (Nat.succ.inj hl)
      rw [List.cons_append, List.cons_append, zipB, this]
      split
      · rfl
      · split <;> rfl
theorem zipB_comm (xs : List Int) : ∀ ys, zipB xs ys = zipB ys xs := by
  induction xs with
  | nil => intro ys; cases ys <;> rfl
  | cons x xs ih =>
    intro ys
    cases ys with
    | nil => rfl
    | cons y ys =>
      rw [zipB, zipB, ih ys]
      by_cases h : x = y
      · subst h; rfl
      · by_cases h1 : y = 1
        · rw [if_pos (Or.inr h1), if_pos h1]
          by_cases h2 : x = 1
          · exact absurd (h2.trans h1.symm) h
          · rw [if_neg (by omega)]
        · rw [if_neg (by omega), if_neg h1]
          by_cases h2 : x = 1
          · rw [if_pos h2, if_pos (Or.inr h2)]
          · rw [if_neg h2, if_neg (by omega)]
theorem zipB_self (xs : List Int) : zipB xs xs = some xs := by
  induction xs with
  | nil => rfl
  | cons x xs ih => rw [zipB, if_pos (Or.inl rfl), ih]; rfl
theorem zipB_cons {x y : Int} {xs ys zs : List Int} (h : zipB (x :: xs) (y :: ys) = some zs) : ∃ z l, zs = z :: l ∧ zipB xs ys = some l ∧ ((x = y ∨ y = 1) ∧ z = x ∨ x = 1 ∧ z = y) := by
  rw [zipB] at h
  split at h
  · rename_i hc
    obtain ⟨l, hl, rfl⟩ := Option.map_eq_some_iff.1 h
    exact ⟨x, l, rfl, hl, Or.inl ⟨hc, rfl⟩⟩
  · split at h
    · rename_i hc
      obtain ⟨l, hl, rfl⟩ := Option.map_eq_some_iff.1 h
      exact ⟨y, l, rfl, hl, Or.inr ⟨hc, rfl⟩⟩
    · cases h
theorem zipB_len (xs : List Int) : ∀ ys zs, xs.length = ys.length → zipB xs ys = some zs → zs.length = xs.length := by
  induction xs with
  | nil => intro ys zs _ h; cases h; rfl
  | cons x xs ih =>
    intro ys zs hl h
    cases ys with
    | nil => cases hl
    | cons y ys =>
      obtain ⟨z, l, rfl, h, _⟩ := zipB_cons h
      rw [List.length_cons, List.length_cons, ih ys l (Nat.succ.inj hl) h]
theorem zipB_assoc (aa : List Int) : ∀ bs cs xs us ls : List Int, aa.length = bs.length → bs.length = cs.length → zipB aa bs = some xs → zipB bs cs = some us → zipB xs cs = some ls → zipB aa us = some ls := by
  induction aa with
  | nil =>
    intro bs cs xs us ls h1 h2 hx hu hl
    cases bs with
    | nil => cases hx; cases hu; cases hl; rfl
    | cons b bs => cases h1
  | cons a aa ih =>
    intro bs cs xs us ls h1 h2 hx hu hl
    cases bs with
    | nil => cases h1
    | cons b bs =>
      cases cs with
      | nil => cases h2
      | cons c cs =>
        obtain ⟨x, xt, rfl, hx, ex⟩ := zipB_cons hx
        obtain ⟨u, ut, rfl, hu, eu⟩ := zipB_cons hu
        obtain ⟨l, lt, rfl, hl, el⟩ := zipB_cons hl
        rw [zipB, ih bs cs xt ut lt (Nat.succ.inj h1) (Nat.succ.inj h2) hx hu hl]
        by_cases hc : a = u ∨ u = 1
        · rw [if_pos hc]
          show some (a :: lt) = some (l :: lt)
          congr 2; omega
        · rw [if_neg hc, if_pos (by omega)]
          show some (u :: lt) = some (l :: lt)
          congr 2; omega
theorem zipB_ones (n : Nat) (xs ys : List Int) : zipB (List.replicate n 1 ++ xs) (List.replicate n 1 ++ ys) = (zipB xs ys).map (fun l => List.replicate n 1 ++ l) := by
  induction n with
  | zero => cases h : zipB xs ys <;> simp [h]
  | succ n ih =>
    rw [List.replicate_succ, List.cons_append, List.cons_append, zipB, if_pos (Or.inl rfl), ih]
    cases zipB xs ys <;> rfl
theorem wideL_len (l : List Int) (n : Nat) (h : l.length ≤ n) : (wideL l n).length = n := by
  unfold wideL; rw [List.length_append, List.length_replicate]; omega
theorem wideL_more (l : List Int) (n m : Nat) (h : l.length ≤ n) (hm : n ≤ m) : wideL l m = List.replicate (m - n) 1 ++ wideL l n := by
  unfold wideL
  rw [← List.append_assoc, List.replicate_append_replicate, show m - n + (n - l.length) = m - l.length by omega]
theorem wideL_id (l : List Int) : wideL l l.length = l := by
  unfold wideL; rw [Nat.sub_self]; rfl
/-- the outcome at any width -/
theorem zipB_wide {a b x : List Int} {n m : Nat} (ha : a.length ≤ n) (hb : b.length ≤ n) (hm : n ≤ m) (h : zipB (wideL a n) (wideL b n) = some x) : zipB (wideL a m) (wideL b m) = some (wideL x m) := by
  have hx : x.length = n := by rw [zipB_len _ _ _ (by rw [wideL_len _ _ ha, wideL_len _ _ hb]) h, wideL_len _ _ ha]
  rw [wideL_more a n m ha hm, wideL_more b n m hb hm, zipB_ones, h]
  show some (List.replicate (m - n) 1 ++ x) = some (wideL x m)
  unfold wideL; rw [hx]
theorem broadS_ok {a b x : List Int} (h : broadS a b = (x, 0)) : (sizeS a).2 = 0 ∧ (sizeS b).2 = 0 ∧ (sizeS x).2 = 0 ∧ zipB (wideL a (max a.length b.length)) (wideL b (max a.length b.length)) = some x := by
  unfold broadS at h
  by_cases ha : (sizeS a).2 = 0
  · rw [if_pos ha] at h
    by_cases hb : (sizeS b).2 = 0
    · rw [if_pos hb] at h
      refine ⟨ha, hb, ?_⟩
      cases hz : zipB (wideL a (max a.length b.length)) (wideL b (max a.length b.length)) with
      | none => rw [hz] at h; cases h
      | some y =>
        rw [hz] at h
        have h' : (if (sizeS y).2 = 0 then (y, (0 : Int)) else ([], (sizeS y).2)) = (x, 0) := h
        by_cases hy : (sizeS y).2 = 0
        · rw [if_pos hy] at h'; cases h'; exact ⟨hy, rfl⟩
        · rw [if_neg hy] at h'; exact absurd (congrArg Prod.snd h') hy
    · rw [if_neg hb] at h; exact absurd (congrArg Prod.snd h) hb
  · rw [if_neg ha] at h; exact absurd (congrArg Prod.snd h) ha
theorem broadS_of {a b x : List Int} (ha : (sizeS a).2 = 0) (hb : (sizeS b).2 = 0) (hx : (sizeS x).2 = 0) (h : zipB (wideL a (max a.length b.length)) (wideL b (max a.length b.length)) = some x) : broadS a b = (x, 0) := by
  unfold broadS; rw [if_pos ha, if_pos hb, h]
  show (if (sizeS x).2 = 0 then (x, (0 : Int)) else ([], (sizeS x).2)) = (x, 0)
  rw [if_pos hx]
theorem endB_cases (o : Option (List Int)) : (endB o).2 = 0 ∨ (endB o).1 = [] := by
  cases o with
  | none => exact Or.inr rfl
  | some y =>
    show (if (sizeS y).2 = 0 then (y, (0 : Int)) else ([], (sizeS y).2)).2 = 0 ∨ (if (sizeS y).2 = 0 then (y, (0 : Int)) else ([], (sizeS y).2)).1 = []
    split
    · exact Or.inl rfl
    · exact Or.inr rfl
theorem broadS_bad {a b : List Int} (h : (broadS a b).2 ≠ 0) : (broadS a b).1 = [] := by
  unfold broadS at h ⊢
  split
  · split
    · rename_i h1 h2
      rw [if_pos h1, if_pos h2] at h
      exact (endB_cases _).resolve_left h
    · rfl
  · rfl
theorem broadS_turn (a b : List Int) : ((broadS a b).2 = 0 ↔ (broadS b a).2 = 0) ∧ (broadS a b).1 = (broadS b a).1 := by
  have key : ∀ a b : List Int, (broadS a b).2 = 0 → broadS b a = broadS a b := by
    intro a b h
    have h0 : broadS a b = ((broadS a b).1, 0) := Prod.ext rfl h
    obtain ⟨h1, h2, h3, h4⟩ := broadS_ok h0
    rw [h0]
    exact broadS_of h2 h1 h3 (by rw [zipB_comm, Nat.max_comm]; exact h4)
  refine ⟨⟨fun h => by rw [key a b h]; exact h, fun h => by rw [key b a h]; exact h⟩, ?_⟩
  by_cases h : (broadS a b).2 = 0
  · rw [key a b h]
  · by_cases g : (broadS b a).2 = 0
    · rw [key b a g]
    · rw [broadS_bad h, broadS_bad g]
theorem broadS_self (a x : List Int) (h : broadS a a = (x, 0)) : x = a := by
  obtain ⟨_, _, _, h4⟩ := broadS_ok h
  rw [Nat.max_self, wideL_id, zipB_self] at h4
  exact (Option.some.inj h4).symm
theorem broadS_three {a b c x u l : List Int} (hx : broadS a b = (x, 0)) (hl : broadS x c = (l, 0)) (hu : broadS b c = (u, 0)) : broadS a u = (l, 0) := by
  obtain ⟨a1, b1, x1, z1⟩ := broadS_ok hx
  obtain ⟨_, c1, l1, z2⟩ := broadS_ok hl
  obtain ⟨_, _, u1, z3⟩ := broadS_ok hu
  refine broadS_of a1 u1 l1 ?_
  have lx : x.length = max a.length b.length := by
    rw [zipB_len _ _ _ (by rw [wideL_len _ _ (by omega), wideL_len _ _ (by omega)]) z1, wideL_len _ _ (by omega)]
  have lu : u.length = max b.length c.length := by
    rw [zipB_len _ _ _ (by rw [wideL_len _ _ (by omega), wideL_len _ _ (by omega)]) z3, wideL_len _ _ (by omega)]
  have em : max a.length u.length = max x.length c.length := by omega
  rw [em]
  have y1 := zipB_wide (m := max x.length c.length) (by omega) (by omega) (by omega) z1
  have y3 := zipB_wide (m := max x.length c.length) (by omega) (by omega) (by omega) z3
  exact zipB_assoc _ _ _ _ _ _ (by rw [wideL_len _ _ (by omega), wideL_len _ _ (by omega)]) (by rw [wideL_len _ _ (by omega), wideL_len _ _ (by omega)]) y1 y3 z2

end Go.Proofs.Ytpojamikfcmnoaa.X
