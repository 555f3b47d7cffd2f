import Derived.Test.YtpojamikfcmnoaaProg
import Derived.Below
import Derived.Deep.Draws
import Derived.Deep.AppendLies
import Derived.Maps.AppendAt
import Derived.OwnWalk
import Derived.Laws.BytesArg
import Derived.Laws.MakeOwn
import Derived.Laws.OwnMore
import Derived.Deep.OwnRows
import Derived.Tactics
import Derived.Lib.ConvBytes
import Derived.Laws.Slices
import Derived.WalkKit
import Derived.KernelRfl
import Derived.RowKit3
import Derived.Deep.LoopGhost
import Derived.Deep.QuietTactic
import Derived.BigQuiet
import Derived.WideLaws
import Derived.Deep.DeepCutAuto
import Derived.Deep.CutBlock
import Derived.Deep.RegionHeld3
import Derived.Laws.Rows
import Derived.Lib.AppendStr
import Derived.ArgAppend
import Derived.Laws.IdiomCopy
import Derived.OrdersHeld
import Derived.Laws.BitsLemmas
import Derived.RowKit
import Derived.Test.YtpojamikfcmnoaaWWords
import Derived.Test.YtpojamikfcmnoaaWLast
import Derived.Test.YtpojamikfcmnoaaWTab
import Derived.Test.YtpojamikfcmnoaaWFour
import Derived.Test.YtpojamikfcmnoaaWQPut
import Derived.Test.YtpojamikfcmnoaaWApart
import Derived.Test.YtpojamikfcmnoaaWArr
import Derived.Test.YtpojamikfcmnoaaWZeros
import Derived.Test.YtpojamikfcmnoaaWFoot
import Derived.Test.YtpojamikfcmnoaaWKept
import Derived.Test.YtpojamikfcmnoaaWShare
import Derived.Test.YtpojamikfcmnoaaWN
import Derived.Test.YtpojamikfcmnoaaWFootNe
import Derived.Test.YtpojamikfcmnoaaWAt
import Derived.Test.YtpojamikfcmnoaaWEqStruct
import Derived.Test.YtpojamikfcmnoaaWRepsOne
import Derived.Test.YtpojamikfcmnoaaWInv
import Derived.Test.YtpojamikfcmnoaaWInvWords
import Derived.Test.YtpojamikfcmnoaaWGuard
import Derived.Test.YtpojamikfcmnoaaWNEv
import Derived.Test.YtpojamikfcmnoaaWMore
import Derived.Laws.BitsAllLaws
-- by xprint.py, a program of this session, over the kit's print.py
namespace Go.Proofs.Ytpojamikfcmnoaa.X
open Go.RowKit Go.Proofs.YtpojamikfcmnoaaW.PrintWords Go.Proofs.YtpojamikfcmnoaaW.PrintLast Go.Proofs.YtpojamikfcmnoaaW.PrintMore
attribute [local go_sem] max2_int min2_int max_two min_two max_three min_three max_four min_four   -- for this text's walks alone
set_option linter.unusedVariables false
set_option linter.unusedSimpArgs false



def errW : Option Int → Value
  | none => .nilIface
  | some c => .iface 0 (.int .i64 c)
theorem errW_none : errW none = .nilIface := rfl
theorem errW_some (c : Int) : errW (some c) = .iface 0 (.int .i64 c) := rfl

theorem info2 : (Try.prog.info? 2).map (fun i => (i.zero, i.size, i.bytes)) = some (some (.int .i64 0), 1, 8) := by kernel_rfl
theorem info5 : (Try.prog.info? 5).map (fun i => (i.zero, i.size, i.bytes)) = some (some (.int .u8 0), 1, 1) := by kernel_rfl
theorem info39 : (Try.prog.info? 39).map (fun i => (i.zero, i.size, i.bytes)) = some (some (.slice none 0 0), 1, 24) := by kernel_rfl
-- the values' own types
def rd_L2 (xs : List (List Int)) (i : Int) : (List Int) := xs.getD i.toNat ([] : List Int)
theorem at_L2 {w : World} {A : Option Addr} {n : Nat} {xs : List (List Int)} (h : Kd.C (Kd.slice 2 (Kd.int .i64)) w A n xs) (i : Int) (h0 : 0 ≤ i) (h1 : i < n) : ∃ ad A0 c0, A = some ad ∧ w.cell? (ad.add i.toNat) = some (.slice A0 (rd_L2 xs i).length c0) ∧ (rd_L2 xs i).length ≤ c0 ∧ (Kd.int .i64).C w A0 (rd_L2 xs i).length (rd_L2 xs i) := by
  obtain ⟨ad, c, e, _, hK, hc0⟩ := Kd.C_get h ([] : List Int) i h0 h1
  have hc : ∀ j u, c[j]? = some u → w.cell? (ad.add (i.toNat * 1 + j)) = some u := hc0
  obtain ⟨A0, c0, rfl, l0, g0⟩ := hK
  exact ⟨ad, A0, c0, e, by have hq := hc 0 _ rfl; rwa [Nat.mul_one, Nat.add_zero] at hq, l0, g0⟩

end Go.Proofs.Ytpojamikfcmnoaa.X
-- by xprint.py, a program of this session, over the kit's print.py
namespace Go.Proofs.Ytpojamikfcmnoaa.X
open Go.RowKit Go.Proofs.YtpojamikfcmnoaaW.PrintWords Go.Proofs.YtpojamikfcmnoaaW.PrintLast Go.Proofs.YtpojamikfcmnoaaW.PrintMore
attribute [local go_sem] max2_int min2_int max_two min_two max_three min_three max_four min_four   -- for this text's walks alone
set_option linter.unusedVariables false
set_option linter.unusedSimpArgs false

/-! ### agatelaw03_Ints: function 23 -/
def agatelaw03_Ints.l0 : Nat → List Int → List Int → Int → Int → Option (Bool)
  | 0, _, _, _, _ => none
  | k + 1, x0, x1, x12, x13 => if x13 < x12 then (if 0 ≤ x13 then (if x13 < (x0.length : Int) then (if x13 < (x1.length : Int) then (if (rd x0 x13) = (rd x1 x13) then (agatelaw03_Ints.l0 k x0 x1 x12 (wrap64 (x13 + 1))) else (some false)) else (none)) else (none)) else (none)) else (some true)
def agatelaw03_Ints.f (k : Nat) (l0 : List Int) (l1 : List Int) : Option (Bool) := if (l0.length : Int) = (l1.length : Int) then (agatelaw03_Ints.l0 k l0 l1 (l0.length : Int) 0) else (some false)
theorem agatelaw03_Ints.mono_l : ∀ k, (∀ y0 y1 y2 y3, LeO (agatelaw03_Ints.l0 k y0 y1 y2 y3) (agatelaw03_Ints.l0 (k + 1) y0 y1 y2 y3))
  | 0 => fun _ _ _ _ r h => by simp [agatelaw03_Ints.l0] at h
  | k + 1 => by
    have ih0 := agatelaw03_Ints.mono_l k
    · intro y0 y1 y2 y3
      unfold agatelaw03_Ints.l0
      repeat' first
      | (with_reducible exact ih0 _ _ _ _)
      | (with_reducible exact LeO.refl _)
      | (with_reducible exact LeO.none _)
      | (with_reducible refine LeO.ite ?_ ?_)
      | (with_reducible refine LeO.bind ?_ (fun _ => ?_))
      | exact ih0 _ _ _ _
      | exact LeO.none _
      | refine LeO.ite ?_ ?_
      | refine LeO.bind ?_ (fun _ => ?_)
theorem agatelaw03_Ints.mono : ∀ a0 a1 k, LeO (agatelaw03_Ints.f k a0 a1) (agatelaw03_Ints.f (k + 1) a0 a1) := by
  intro a0 a1 k
  have ih0 := agatelaw03_Ints.mono_l k
  unfold agatelaw03_Ints.f
  repeat' first
      | (with_reducible exact ih0 _ _ _ _)
      | (with_reducible exact LeO.refl _)
      | (with_reducible exact LeO.none _)
      | (with_reducible refine LeO.ite ?_ ?_)
      | (with_reducible refine LeO.bind ?_ (fun _ => ?_))
      | exact ih0 _ _ _ _
      | exact LeO.none _
      | refine LeO.ite ?_ ?_
      | refine LeO.bind ?_ (fun _ => ?_)
set_option maxHeartbeats 8000000 in
set_option maxRecDepth 100000 in
theorem agatelaw03_Ints.calls (k : Nat) (A0 : Option Addr) (c0 : Nat) (l0 : List Int) (A1 : Option Addr) (c1 : Nat) (l1 : List Int) (r : Bool) (w : World) (hr0 : Kd.C (Kd.int .i64) w A0 l0.length l0) (hc0 : l0.length ≤ c0) (hr1 : Kd.C (Kd.int .i64) w A1 l1.length l1) (hc1 : l1.length ≤ c1) (h : agatelaw03_Ints.f k l0 l1 = some r) :
    Calls Try.prog 23 #[.slice A0 l0.length c0, .slice A1 l1.length c1] w fun e w' => e = .returned (.bool r) ∧ Drawn0 w w' := by
  have HR0 := Aside0.mk hr0
  have HC0 := Aside0.mk hc0
  clear hr0 hc0
  have HR1 := Aside0.mk hr1
  have HC1 := Aside0.mk hc1
  clear hr1 hc1
  have H : (if (l0.length : Int) = (l1.length : Int) then (agatelaw03_Ints.l0 k l0 l1 (l0.length : Int) 0) else (some false)) = some r := h
  clear h
  by_cases c3 : (l0.length : Int) = (l1.length : Int)
  · rw [if_pos c3] at H
    have c3b0 : ((l0.length : Int) == (l1.length : Int)) = true := beq_iff_eq.mpr c3
    have c3b1 : ((l0.length : Int) != (l1.length : Int)) = false := bne_eq_false_iff_eq.mpr c3
    have c3b2 : (l0.length == l1.length) = true := by first | simpa using c3 | (simp at c3 ⊢; omega)
    clear c3
    have H' := Aside0.mk H
    clear H
    go_enter Try.func23, Try.ntmps23
    go_wp2
    repeat (go_quiet (fail); try go_wp2)
    go_loopg [13] k (fun kq v13 w' => ∃ (x13_1 : Int), v13 = .int .i64 x13_1 ∧ Aside0 (agatelaw03_Ints.l0 kq l0 l1 (l0.length : Int) x13_1 = some r) ∧ Aside0 (kq ≤ k) ∧ Drawn0 w w')
    case atStart => exact ⟨(0), (by first | rfl | (simp; done) | (simp [*]; done)), H', ⟨Nat.le_refl _⟩, by repeat (first | exact Drawn0.refl _ | apply Drawn0.step)⟩
    case round =>
      clear H'
      try clear c1
      try clear c2
      try clear p2
      try clear c3
      try clear c3b0
      try clear c3b1
      try clear c3b2
      obtain ⟨x13_1, rfl, HA, HK1, ⟨m1, rfl⟩⟩ := hrel
      cases gk with
      | zero => exact absurd HA.out (by simp [agatelaw03_Ints.l0])
      | succ k1 =>
        have H := HA.out
        clear HA
        simp only [agatelaw03_Ints.l0] at H
        by_cases c4 : x13_1 < (l0.length : Int)
        · rw [if_pos c4] at H
          have c4b0 : decide (x13_1 < (l0.length : Int)) = true := decide_eq_true c4
          clear c4
          by_cases c5 : 0 ≤ x13_1
          · rw [if_pos c5] at H
            have c5b0 : decide (0 ≤ x13_1) = true := decide_eq_true c5
            clear c5
            by_cases c6 : x13_1 < (l0.length : Int)
            · rw [if_pos c6] at H
              have c6b0 : decide (x13_1 < (l0.length : Int)) = true := decide_eq_true c6
              clear c6
              by_cases c7 : x13_1 < (l1.length : Int)
              · rw [if_pos c7] at H
                have c7b0 : decide (x13_1 < (l1.length : Int)) = true := decide_eq_true c7
                clear c7
                by_cases c8 : (rd l0 x13_1) = (rd l1 x13_1)
                · rw [if_pos c8] at H
                  have c8b0 : ((rd l0 x13_1) == (rd l1 x13_1)) = true := beq_iff_eq.mpr c8
                  have c8b1 : ((rd l0 x13_1) != (rd l1 x13_1)) = false := bne_eq_false_iff_eq.mpr c8
                  clear c8
                  have H' := Aside0.mk H
                  clear H
                  have p101 : 0 ≤ (x13_1 : Int) := of_decide_eq_true (by first | (with_reducible assumption) | assumption)
                  have q101 : x13_1 < (l0.length : Int) := of_decide_eq_true (by first | (with_reducible assumption) | assumption)
                  obtain ⟨ad101, e101, hx101_0⟩ := Kd.at_int HR0.out x13_1 p101 q101
                  cases e101
                  replace p101 := eq_true p101
                  replace q101 := eq_true q101
                  have p102 : 0 ≤ (x13_1 : Int) := of_decide_eq_true (by first | (with_reducible assumption) | assumption)
                  have q102 : x13_1 < (l1.length : Int) := of_decide_eq_true (by first | (with_reducible assumption) | assumption)
                  obtain ⟨ad102, e102, hx102_0⟩ := Kd.at_int HR1.out x13_1 p102 q102
                  cases e102
                  replace p102 := eq_true p102
                  replace q102 := eq_true q102
                  go_wp2
                  repeat (go_quiet (fail); try go_wp2)
                  go_roundg k1
                  case measure => have := HK1.out; omega
                  case rel => exact ⟨(wrap64 (x13_1 + 1)), (by first | rfl | (simp; done) | (simp [*]; done)), H', ⟨by have := HK1.out; omega⟩, by repeat (first | exact Drawn0.refl _ | apply Drawn0.step)⟩
                · rw [if_neg c8] at H
                  have c8b0 : ((rd l0 x13_1) == (rd l1 x13_1)) = false := beq_eq_false_iff_ne.mpr c8
                  have c8b1 : ((rd l0 x13_1) != (rd l1 x13_1)) = true := bne_iff_ne.mpr c8
                  obtain rfl := Option.some.inj H
                  have p101 : 0 ≤ (x13_1 : Int) := of_decide_eq_true (by first | (with_reducible assumption) | assumption)
                  have q101 : x13_1 < (l0.length : Int) := of_decide_eq_true (by first | (with_reducible assumption) | assumption)
                  obtain ⟨ad101, e101, hx101_0⟩ := Kd.at_int HR0.out x13_1 p101 q101
                  cases e101
                  replace p101 := eq_true p101
                  replace q101 := eq_true q101
                  have p102 : 0 ≤ (x13_1 : Int) := of_decide_eq_true (by first | (with_reducible assumption) | assumption)
                  have q102 : x13_1 < (l1.length : Int) := of_decide_eq_true (by first | (with_reducible assumption) | assumption)
                  obtain ⟨ad102, e102, hx102_0⟩ := Kd.at_int HR1.out x13_1 p102 q102
                  cases e102
                  replace p102 := eq_true p102
                  replace q102 := eq_true q102
                  go_wp2
                  repeat (go_quiet (fail); try go_wp2)
                  go_ret
                  exact ⟨by first | rfl | (simp; done) | (simp [*]; done), by repeat (first | exact Drawn0.refl _ | apply Drawn0.step)⟩
              · rw [if_neg c7] at H
                exact absurd H (by simp)
            · rw [if_neg c6] at H
              exact absurd H (by simp)
          · rw [if_neg c5] at H
            exact absurd H (by simp)
        · rw [if_neg c4] at H
          have c4b0 : decide (x13_1 < (l0.length : Int)) = false := decide_eq_false c4
          clear c4
          obtain rfl := Option.some.inj H
          go_wp2
          repeat (go_quiet (fail); try go_wp2)
          go_ret
          exact ⟨by first | rfl | (simp; done) | (simp [*]; done), by repeat (first | exact Drawn0.refl _ | apply Drawn0.step)⟩
  · rw [if_neg c3] at H
    have c3b0 : ((l0.length : Int) == (l1.length : Int)) = false := beq_eq_false_iff_ne.mpr c3
    have c3b1 : ((l0.length : Int) != (l1.length : Int)) = true := bne_iff_ne.mpr c3
    have c3b2 : (l0.length == l1.length) = false := by first | simpa using c3 | (simp at c3 ⊢; omega)
    obtain rfl := Option.some.inj H
    go_enter Try.func23, Try.ntmps23
    go_wp2
    repeat (go_quiet (fail); try go_wp2)
    go_ret
    exact ⟨by first | rfl | (simp; done) | (simp [*]; done), by repeat (first | exact Drawn0.refl _ | apply Drawn0.step)⟩

end Go.Proofs.Ytpojamikfcmnoaa.X
-- by xprint.py, a program of this session, over the kit's print.py
namespace Go.Proofs.Ytpojamikfcmnoaa.X
open Go.RowKit Go.Proofs.YtpojamikfcmnoaaW.PrintWords Go.Proofs.YtpojamikfcmnoaaW.PrintLast Go.Proofs.YtpojamikfcmnoaaW.PrintMore
attribute [local go_sem] max2_int min2_int max_two min_two max_three min_three max_four min_four   -- for this text's walks alone
set_option linter.unusedVariables false
set_option linter.unusedSimpArgs false

/-! The least writing of a number, and how a number is read: plain Lean, no program in sight. -/
/-- how many bytes the least writing of a number has -/
def vSize (v : Nat) : Nat := if v < 128 then 1 else vSize (v / 128) + 1
  decreasing_by omega
theorem vSize_lt {v : Nat} (h : v < 128) : vSize v = 1 := by rw [vSize, if_pos h]
theorem vSize_ge {v : Nat} (h : ¬ v < 128) : vSize v = vSize (v / 128) + 1 := by rw [vSize, if_neg h]
/-- a string's bytes as numbers -/
def ns (s : ByteArray) : List Nat := s.data.toList.map UInt8.toNat
theorem ns_length (s : ByteArray) : (ns s).length = s.size := by simp [ns]
theorem ns_lt (s : ByteArray) : ∀ c ∈ ns s, c < 256 := by
  intro c hc
  simp only [ns, List.mem_map] at hc
  obtain ⟨x, _, rfl⟩ := hc
  exact x.toNat_lt
theorem ns_get (s : ByteArray) (i : Nat) (h : i < s.size) : (ns s)[i]'(by rw [ns_length]; exact h) = (s[i]'h).toNat := by simp [ns]; rfl
theorem ns_drop (s : ByteArray) (i : Nat) (h : i < s.size) : (ns s).drop i = (s[i]'h).toNat :: (ns s).drop (i + 1) := by
  rw [List.drop_eq_getElem_cons (by rw [ns_length]; exact h), ns_get s i h]
theorem ns_drop_end (s : ByteArray) (i : Nat) (h : s.size ≤ i) : (ns s).drop i = [] := by
  rw [List.drop_eq_nil_iff, ns_length]; exact h
theorem bt_ns (s : ByteArray) (i : Nat) (h : i < s.size) : bt s i = ((s[i]'h).toNat : Int) := by simp [bt, h]
/-- the number with which a text begins (behind `n` bytes that told `v`): number, bytes, code -/
def readS : List Nat → Nat → Nat → Nat × Nat × Nat
  | [], _, _ => (0, 0, 1)
  | c :: l, n, v => if n = 9 ∧ 1 < c then (0, 0, 2) else if c < 128 then (v + c * 128 ^ n, n + 1, 0) else readS l (n + 1) (v + (c % 128) * 128 ^ n)
def vRead (s : ByteArray) : Nat × Nat × Nat := readS (ns s) 0 0
/-- the least writing of a number -/
def vPut (v : Nat) : List Nat := if v < 128 then [v] else (v % 128 + 128) :: vPut (v / 128)
  decreasing_by omega
theorem vPut_lt {v : Nat} (h : v < 128) : vPut v = [v] := by rw [vPut, if_pos h]
theorem vPut_ge {v : Nat} (h : ¬ v < 128) : vPut v = (v % 128 + 128) :: vPut (v / 128) := by rw [vPut, if_neg h]
theorem pow128 (n : Nat) : 128 ^ n = 2 ^ (7 * n) := by
  rw [Nat.pow_mul]
theorem u64_wrap (x : Int) : IntKind.u64.wrap x = x % 18446744073709551616 := by simp [IntKind.wrap, IntKind.bits, IntKind.signed]
theorem or_step (v c n : Nat) (hv : v < 128 ^ n) (hn : n ≤ 9) (h9 : n = 9 → c ≤ 1) :
    Go.bits .or .u64 (v : Int) (IntKind.u64.wrap ((c : Int) % 128 * 2 ^ (7 * n))) = ((v + c % 128 * 128 ^ n : Nat) : Int) := by
  have e : (c : Int) % 128 * 2 ^ (7 * n) = ((c % 128 * 2 ^ (7 * n) : Nat) : Int) := by simp
  have hp : c % 128 * 2 ^ (7 * n) < 18446744073709551616 := by
    rcases Nat.lt_or_ge n 9 with h | h
    · have h1 : 2 ^ (7 * n) ≤ 2 ^ 56 := Nat.pow_le_pow_right (by decide) (by omega)
      have h2 : c % 128 * 2 ^ (7 * n) ≤ 127 * 2 ^ 56 := Nat.mul_le_mul (by omega) h1
      omega
    · obtain rfl : n = 9 := by omega
      have := h9 rfl
      have h2 : c % 128 * 2 ^ (7 * 9) ≤ 1 * 2 ^ 63 := Nat.mul_le_mul (by omega) (by decide)
      omega
  have hw : IntKind.u64.wrap ((c : Int) % 128 * 2 ^ (7 * n)) = ((c % 128 * 2 ^ (7 * n) : Nat) : Int) := by
    rw [e, u64_wrap]; omega
  have hv2 : v < 2 ^ (7 * n) := by rw [← pow128]; exact hv
  have hv3 : v < 18446744073709551616 := by
    have : 2 ^ (7 * n) ≤ 2 ^ 63 := Nat.pow_le_pow_right (by decide) (by omega)
    omega
  rw [hw, u64_or_nat _ _ hv3 hp, Nat.or_comm, Nat.mul_comm, ← Nat.two_pow_add_eq_or_of_lt hv2, pow128, Nat.mul_comm, Nat.add_comm]
theorem readS_cons {c n v : Nat} {l : List Nat} (h9 : n = 9 → c ≤ 1) : readS (c :: l) n v = if c < 128 then (v + c * 128 ^ n, n + 1, 0) else readS l (n + 1) (v + (c % 128) * 128 ^ n) := by
  rw [readS, if_neg (by omega)]
/-- the least writing, as a string -/
def vStr (v : Nat) : ByteArray := strOfNums ((vPut v).map Int.ofNat)
theorem vPut_length (v : Nat) : (vPut v).length = vSize v := by
  induction v using Nat.strongRecOn with
  | _ v ih =>
    by_cases h : v < 128
    · rw [vPut_lt h, vSize_lt h]; rfl
    · rw [vPut_ge h, vSize_ge h, List.length_cons, ih (v / 128) (by omega)]
theorem vSize_le (m : Nat) (k : Nat) (h : m < 128 ^ (k + 1)) : vSize m ≤ k + 1 := by
  induction k generalizing m with
  | zero => rw [vSize_lt (by simpa using h)]; omega
  | succ k ih =>
    by_cases h1 : m < 128
    · rw [vSize_lt h1]; omega
    · rw [vSize_ge h1]
      have := ih (m / 128) (by rw [Nat.div_lt_iff_lt_mul (by decide)]; rw [Nat.pow_succ] at h; omega)
      omega
theorem vSize_pos (m : Nat) : 1 ≤ vSize m := by rw [vSize]; split <;> omega
theorem vSize_10 (m : Nat) (h : m < 18446744073709551616) : vSize m ≤ 10 := vSize_le m 9 (show m < 1180591620717411303424 by omega)
theorem ev_none {α : Type} {r : α} {p : Prop} (h : (none : Option α) = some r) : p := by cases h

end Go.Proofs.Ytpojamikfcmnoaa.X
-- by xprint.py, a program of this session, over the kit's print.py
namespace Go.Proofs.Ytpojamikfcmnoaa.X
open Go.RowKit Go.Proofs.YtpojamikfcmnoaaW.PrintWords Go.Proofs.YtpojamikfcmnoaaW.PrintLast Go.Proofs.YtpojamikfcmnoaaW.PrintMore
attribute [local go_sem] max2_int min2_int max_two min_two max_three min_three max_four min_four   -- for this text's walks alone
set_option linter.unusedVariables false
set_option linter.unusedSimpArgs false

theorem wf_u64 {a : Int} (h : (Lit.int .u64 a).wf = true) : 0 ≤ a ∧ a < 18446744073709551616 := by
  have e1 : IntKind.u64.min = 0 := by decide
  have e2 : IntKind.u64.max = 18446744073709551615 := by decide
  simp only [Lit.wf, Bool.and_eq_true, decide_eq_true_eq, e1, e2] at h; omega
theorem wf_i64 {a : Int} (h : (Lit.int .i64 a).wf = true) : -9223372036854775808 ≤ a ∧ a < 9223372036854775808 := by
  have e1 : IntKind.i64.min = -9223372036854775808 := by decide
  have e2 : IntKind.i64.max = 9223372036854775807 := by decide
  simp only [Lit.wf, Bool.and_eq_true, decide_eq_true_eq, e1, e2] at h; omega
theorem wf_u8 {a : Int} (h : (Lit.int .u8 a).wf = true) : 0 ≤ a ∧ a < 256 := by
  have e1 : IntKind.u8.min = 0 := by decide
  have e2 : IntKind.u8.max = 255 := by decide
  simp only [Lit.wf, Bool.and_eq_true, decide_eq_true_eq, e1, e2] at h; omega
theorem wrap64_id {x : Int} (h0 : -9223372036854775808 ≤ x) (h1 : x < 9223372036854775808) : wrap64 x = x := by unfold wrap64; omega
theorem u64_id {x : Int} (h0 : 0 ≤ x) (h1 : x < 18446744073709551616) : IntKind.u64.wrap x = x := by rw [u64_wrap]; omega

end Go.Proofs.Ytpojamikfcmnoaa.X
