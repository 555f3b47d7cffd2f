import Derived.Test.YtohddbiedabmhaaMWireReads0
import Derived.Test.YtohddbiedabmhaaMWireReads2
import Derived.Test.YtohddbiedabmhaaMWireReads8
-- by xprint.py, a program of this session, over the kit's print.py
namespace Go.Proofs.Ytohddbiedabmhaa.X
open Go.RowKit Go.Proofs.YtohddbiedabmhaaW.PrintWords Go.Proofs.YtohddbiedabmhaaW.PrintLast Go.Proofs.YtohddbiedabmhaaW.PrintMore
attribute [local go_sem] max2_int min2_int max_two min_two max_three min_three max_four min_four   -- for this text's walks alone
set_option linter.unusedVariables false
set_option linter.unusedSimpArgs false

/-! ### agateref02_low: function 43 -/
def agateref02_low.l0 : Nat → ByteArray → Int → Int → Option (Int)
  | 0, _, _, _ => none
  | k + 1, x0, x3, x4 => if x4 ≥ 0 then (if 0 ≤ x4 then (if x4 < (x0.size : Int) then (agateref02_low.l0 k x0 (IntKind.u64.wrap ((IntKind.u64.wrap (x3 * 256)) + (IntKind.u64.wrap (bt x0 x4)))) (wrap64 (x4 - 1))) else (none)) else (none)) else (some x3)
def agateref02_low.f (k : Nat) (a0 : ByteArray) : Option (Int) := agateref02_low.l0 k a0 0 (wrap64 ((a0.size : Int) - 1))
theorem agateref02_low.mono_l : ∀ k, (∀ y0 y1 y2, LeO (agateref02_low.l0 k y0 y1 y2) (agateref02_low.l0 (k + 1) y0 y1 y2))
  | 0 => fun _ _ _ r h => by simp [agateref02_low.l0] at h
  | k + 1 => by
    have ih0 := agateref02_low.mono_l k
    · intro y0 y1 y2
      unfold agateref02_low.l0
      repeat' first
      | (with_reducible exact ih0 _ _ _)
      | (with_reducible exact LeO.refl _)
      | (with_reducible exact LeO.none _)
      | (with_reducible refine LeO.ite ?_ ?_)
      | (with_reducible refine LeO.bind ?_ (fun _ => ?_))
      | exact ih0 _ _ _
      | exact LeO.none _
      | refine LeO.ite ?_ ?_
      | refine LeO.bind ?_ (fun _ => ?_)
theorem agateref02_low.mono : ∀ a0 k, LeO (agateref02_low.f k a0) (agateref02_low.f (k + 1) a0) := by
  intro a0 k
  have ih0 := agateref02_low.mono_l k
  unfold agateref02_low.f
  repeat' first
      | (with_reducible exact ih0 _ _ _)
      | (with_reducible exact LeO.refl _)
      | (with_reducible exact LeO.none _)
      | (with_reducible refine LeO.ite ?_ ?_)
      | (with_reducible refine LeO.bind ?_ (fun _ => ?_))
      | exact ih0 _ _ _
      | exact LeO.none _
      | refine LeO.ite ?_ ?_
      | refine LeO.bind ?_ (fun _ => ?_)
set_option maxHeartbeats 8000000 in
set_option maxRecDepth 100000 in
theorem agateref02_low.calls (k : Nat) (a0 : ByteArray) (r : Int) (w : World) (h : agateref02_low.f k a0 = some r) :
    Calls Try.prog 43 #[.string a0] w fun e w' => e = .returned (.int .u64 r) ∧ Drawn0 w w' := by
  have H : (agateref02_low.l0 k a0 0 (wrap64 ((a0.size : Int) - 1))) = some r := h
  clear h
  have H' := Aside0.mk H
  clear H
  go_enter Try.func43, Try.ntmps43
  go_wp2
  go_loopg [3, 4] k (fun kq v3 v4 w' => ∃ (x3_1 : Int) (x4_1 : Int), v3 = .int .u64 x3_1 ∧ v4 = .int .i64 x4_1 ∧ Aside0 (agateref02_low.l0 kq a0 x3_1 x4_1 = some r) ∧ Aside0 (kq ≤ k) ∧ Drawn0 w w')
  case atStart => exact ⟨(0), (wrap64 ((a0.size : Int) - 1)), (by first | rfl | (simp; done) | (simp [*]; done)), (by first | rfl | (simp; done) | (simp [*]; done)), H', ⟨Nat.le_refl _⟩, by repeat (first | exact Drawn0.refl _ | apply Drawn0.step)⟩
  case round =>
    clear H'
    obtain ⟨x3_1, x4_1, rfl, rfl, HA, HK1, ⟨m1, rfl⟩⟩ := hrel
    cases gk with
    | zero => exact absurd HA.out (by simp [agateref02_low.l0])
    | succ k1 =>
      have H := HA.out
      clear HA
      simp only [agateref02_low.l0] at H
      by_cases c2 : x4_1 ≥ 0
      · rw [if_pos c2] at H
        have c2b0 : decide (0 ≤ x4_1) = true := decide_eq_true c2
        clear c2
        by_cases c3 : 0 ≤ x4_1
        · rw [if_pos c3] at H
          have c3b0 : decide (0 ≤ x4_1) = true := decide_eq_true c3
          clear c3
          by_cases c4 : x4_1 < (a0.size : Int)
          · rw [if_pos c4] at H
            have c4b0 : decide (x4_1 < (a0.size : Int)) = true := decide_eq_true c4
            clear c4
            have H' := Aside0.mk H
            clear H
            have p5 : 0 ≤ (x4_1 : Int) := of_decide_eq_true (by first | (with_reducible assumption) | assumption)
            have q5 : x4_1 < (a0.size : Int) := of_decide_eq_true (by first | (with_reducible assumption) | assumption)
            have hx5 := bt_at a0 x4_1
            replace p5 := eq_true p5
            replace q5 := eq_true q5
            go_wp2
            go_roundg k1
            case measure => have := HK1.out; omega
            case rel => exact ⟨(IntKind.u64.wrap ((IntKind.u64.wrap (x3_1 * 256)) + (IntKind.u64.wrap (bt a0 x4_1)))), (wrap64 (x4_1 - 1)), (by first | rfl | (simp; done) | (simp [*]; done)), (by first | rfl | (simp; done) | (simp [*]; done)), H', ⟨by have := HK1.out; omega⟩, by repeat (first | exact Drawn0.refl _ | apply Drawn0.step)⟩
          · rw [if_neg c4] at H
            exact absurd H (by simp)
        · rw [if_neg c3] at H
          exact absurd H (by simp)
      · rw [if_neg c2] at H
        have c2b0 : decide (0 ≤ x4_1) = false := decide_eq_false c2
        clear c2
        obtain rfl := Option.some.inj H
        go_wp2
        go_ret
        exact ⟨by first | rfl | (simp; done) | (simp [*]; done), by repeat (first | exact Drawn0.refl _ | apply Drawn0.step)⟩

end Go.Proofs.Ytohddbiedabmhaa.X
-- by xprint.py, a program of this session, over the kit's print.py
namespace Go.Proofs.Ytohddbiedabmhaa.X
open Go.RowKit Go.Proofs.YtohddbiedabmhaaW.PrintWords Go.Proofs.YtohddbiedabmhaaW.PrintLast Go.Proofs.YtohddbiedabmhaaW.PrintMore
attribute [local go_sem] max2_int min2_int max_two min_two max_three min_three max_four min_four   -- for this text's walks alone
set_option linter.unusedVariables false
set_option linter.unusedSimpArgs false

def agateref02_low_s.f (a0 : ByteArray) : Option Int := if a0.size ≤ 8 then some ((lowS (ns a0) : Nat) : Int) else none
theorem agateref02_low_eval (s : ByteArray) (hs : s.size ≤ 8) (i : Nat) : ∀ (k : Nat), i ≤ s.size → i < k →
    agateref02_low.l0 k s (lowS ((ns s).drop i) : Nat) ((i : Int) - 1) = some ((lowS (ns s) : Nat) : Int) := by
  induction i with
  | zero =>
    intro k hi hk
    obtain ⟨k, rfl⟩ : ∃ m, k = m + 1 := ⟨k - 1, by omega⟩
    simp only [agateref02_low.l0]
    rw [if_neg (by omega), List.drop_zero]
  | succ i ih =>
    intro k hi hk
    obtain ⟨k, rfl⟩ : ∃ m, k = m + 1 := ⟨k - 1, by omega⟩
    have hlt : i < s.size := by omega
    have hb : bt s (i : Int) = ((s[i]'hlt).toNat : Int) := bt_ns s i hlt
    have hv := lowS_lt ((ns s).drop (i + 1)) (fun c hc => ns_lt s c (List.mem_of_mem_drop hc))
    rw [List.length_drop, ns_length] at hv
    have h1 : 256 ^ (s.size - (i + 1)) ≤ 256 ^ 7 := Nat.pow_le_pow_right (by decide) (by omega)
    have hc := (s[i]'hlt).toNat_lt
    simp only [agateref02_low.l0]
    rw [show (((i + 1 : Nat) : Int) - 1) = (i : Int) by omega, if_pos (by omega), if_pos (by omega), if_pos (by omega), hb]
    have e : IntKind.u64.wrap (IntKind.u64.wrap ((lowS ((ns s).drop (i + 1)) : Nat) * 256) + IntKind.u64.wrap ((s[i]'hlt).toNat : Int)) = (lowS ((ns s).drop i) : Nat) := by
      rw [ns_drop s i hlt, lowS]
      generalize lowS ((ns s).drop (i + 1)) = x at *
      rw [u64_id (x := (x : Int) * 256) (by omega) (by omega), u64_id (x := ((s[i]'hlt).toNat : Int)) (by omega) (by omega), u64_id (by omega) (by omega)]
      omega
    rw [e, wrap64_id (by omega) (by omega)]
    exact ih k (by omega) (by omega)
theorem agateref02_low_s.ev (a0 : ByteArray) (r) (h : agateref02_low_s.f a0 = some r) : ∃ k, agateref02_low.f k a0 = some r := by
  unfold agateref02_low_s.f at h
  split at h
  · rename_i hs
    have := agateref02_low_eval a0 hs a0.size (a0.size + 1) (by omega) (by omega)
    rw [List.drop_of_length_le (by rw [ns_length]; omega)] at this
    refine ⟨a0.size + 1, ?_⟩
    unfold agateref02_low.f
    rw [wrap64_id (by omega) (by omega)]
    exact this.trans h
  · cases h

set_option maxHeartbeats 1000000 in
theorem agateref02_low_s.calls (a0 : ByteArray) (r : Int) (w : World) (h : agateref02_low_s.f a0 = some r) :
    Calls Try.prog 43 #[.string a0] w fun e w' => e = .returned (.int .u64 r) ∧ Drawn0 w w' := by
  obtain ⟨k, hk⟩ := agateref02_low_s.ev a0 _ h
  exact agateref02_low.calls k a0 r w hk

end Go.Proofs.Ytohddbiedabmhaa.X
-- by xprint.py, a program of this session, over the kit's print.py
namespace Go.Proofs.Ytohddbiedabmhaa.X
open Go.RowKit Go.Proofs.YtohddbiedabmhaaW.PrintWords Go.Proofs.YtohddbiedabmhaaW.PrintLast Go.Proofs.YtohddbiedabmhaaW.PrintMore
attribute [local go_sem] max2_int min2_int max_two min_two max_three min_three max_four min_four   -- for this text's walks alone
set_option linter.unusedVariables false
set_option linter.unusedSimpArgs false

/-! ### agateref02_Fields: function 22 -/
mutual
def agateref02_Fields.l0 : Nat → ByteArray → List (S50) → Int → Option ((List (S50)) × Int)
  | 0, _, _, _ => none
  | k + 1, x0, x4, x5 => if x5 < (x0.size : Int) then (if 0 ≤ x5 then (if x5 ≤ (x0.size : Int) then ((agateref01_Read_s.f (x0.extract (x5 : Int).toNat x0.size)).bind fun bt101 => (if bt101.2.2 = 0 then (if (IntKind.u64.wrap (Int.tdiv bt101.1 8)) = 0 then (agateref02_Fields.j1 k x0 x4 (wrap64 (x5 + bt101.2.1)) bt101.1 true 0 (wrap64 (Int.tmod bt101.1 8)) 0 (⟨#[]⟩ : ByteArray)) else (if (IntKind.u64.wrap (Int.tdiv bt101.1 8)) > 536870911 then (agateref02_Fields.j1 k x0 x4 (wrap64 (x5 + bt101.2.1)) bt101.1 true 0 (wrap64 (Int.tmod bt101.1 8)) 0 (⟨#[]⟩ : ByteArray)) else (if (wrap64 (Int.tmod bt101.1 8)) = 3 then (agateref02_Fields.j1 k x0 x4 (wrap64 (x5 + bt101.2.1)) bt101.1 true 0 (wrap64 (Int.tmod bt101.1 8)) 0 (⟨#[]⟩ : ByteArray)) else (if (wrap64 (Int.tmod bt101.1 8)) = 4 then (agateref02_Fields.j1 k x0 x4 (wrap64 (x5 + bt101.2.1)) bt101.1 true 0 (wrap64 (Int.tmod bt101.1 8)) 0 (⟨#[]⟩ : ByteArray)) else (agateref02_Fields.j1 k x0 x4 (wrap64 (x5 + bt101.2.1)) bt101.1 (decide ((wrap64 (Int.tmod bt101.1 8)) > 5)) 0 (wrap64 (Int.tmod bt101.1 8)) 0 (⟨#[]⟩ : ByteArray)))))) else (some (([] : List (S50)), bt101.2.2)))) else (none)) else (none)) else (some (x4, 0))
def agateref02_Fields.j1 : Nat → ByteArray → List (S50) → Int → Int → Bool → Int → Int → Int → ByteArray → Option ((List (S50)) × Int)
  | 0, _, _, _, _, _, _, _, _, _ => none
  | k + 1, x0, x4, x5, x6, x62, x105000, x105001, x105002, x105003 => if x62 = true then (some (([] : List (S50)), 3)) else (if x105001 = 1 then (agateref02_Fields.j2 k x0 x4 x5 8 (wrap64 (IntKind.u64.wrap (Int.tdiv x6 8))) x105001 x105002 x105003) else (agateref02_Fields.j2 k x0 x4 x5 0 (wrap64 (IntKind.u64.wrap (Int.tdiv x6 8))) x105001 x105002 x105003))
def agateref02_Fields.j2 : Nat → ByteArray → List (S50) → Int → Int → Int → Int → Int → ByteArray → Option ((List (S50)) × Int)
  | 0, _, _, _, _, _, _, _, _ => none
  | k + 1, x0, x4, x5, x10, x105000, x105001, x105002, x105003 => if x105001 = 5 then (agateref02_Fields.j3 k x0 x4 x5 4 x105000 x105001 x105002 x105003) else (agateref02_Fields.j3 k x0 x4 x5 x10 x105000 x105001 x105002 x105003)
def agateref02_Fields.j3 : Nat → ByteArray → List (S50) → Int → Int → Int → Int → Int → ByteArray → Option ((List (S50)) × Int)
  | 0, _, _, _, _, _, _, _, _ => none
  | k + 1, x0, x4, x5, x10, x105000, x105001, x105002, x105003 => if x105001 = 0 then (agateref02_Fields.j4 k x0 x4 x5 x10 true x105000 x105001 x105002 x105003) else (agateref02_Fields.j4 k x0 x4 x5 x10 (x105001 == 2) x105000 x105001 x105002 x105003)
def agateref02_Fields.j4 : Nat → ByteArray → List (S50) → Int → Int → Bool → Int → Int → Int → ByteArray → Option ((List (S50)) × Int)
  | 0, _, _, _, _, _, _, _, _, _ => none
  | k + 1, x0, x4, x5, x10, x80, x105000, x105001, x105002, x105003 => if x80 = true then (if 0 ≤ x5 then (if x5 ≤ (x0.size : Int) then ((agateref01_Read_s.f (x0.extract (x5 : Int).toNat x0.size)).bind fun bt105 => (if bt105.2.2 = 0 then (if x105001 = 0 then (agateref02_Fields.j5 k x0 x4 (wrap64 (x5 + bt105.2.1)) x10 x105000 x105001 bt105.1 x105003) else (agateref02_Fields.j5 k x0 x4 (wrap64 (x5 + bt105.2.1)) bt105.1 x105000 x105001 x105002 x105003)) else (some (([] : List (S50)), bt105.2.2)))) else (none)) else (none)) else (agateref02_Fields.j5 k x0 x4 x5 x10 x105000 x105001 x105002 x105003)
def agateref02_Fields.j5 : Nat → ByteArray → List (S50) → Int → Int → Int → Int → Int → ByteArray → Option ((List (S50)) × Int)
  | 0, _, _, _, _, _, _, _, _ => none
  | k + 1, x0, x4, x5, x10, x105000, x105001, x105002, x105003 => if x10 > (IntKind.u64.wrap (wrap64 ((x0.size : Int) - x5))) then (some (([] : List (S50)), 1)) else (if 0 ≤ x5 then (if x5 ≤ (wrap64 (x5 + (wrap64 (x10)))) then (if (wrap64 (x5 + (wrap64 (x10)))) ≤ (x0.size : Int) then (if x105001 = 2 then (if x4.length < 3518437208883 then (agateref02_Fields.l0 k x0 (x4 ++ [(⟨x105000, x105001, x105002, x0.extract (x5 : Int).toNat ((wrap64 (x5 + (wrap64 (x10)))) : Int).toNat⟩ : S50)]) (wrap64 (x5 + (wrap64 (x10))))) else (none)) else (if x105001 = 0 then (if x4.length < 3518437208883 then (agateref02_Fields.l0 k x0 (x4 ++ [(⟨x105000, x105001, x105002, x105003⟩ : S50)]) (wrap64 (x5 + (wrap64 (x10))))) else (none)) else ((agateref02_low_s.f (x0.extract (x5 : Int).toNat ((wrap64 (x5 + (wrap64 (x10)))) : Int).toNat)).bind fun t114 => (if x4.length < 3518437208883 then (agateref02_Fields.l0 k x0 (x4 ++ [(⟨x105000, x105001, t114, x105003⟩ : S50)]) (wrap64 (x5 + (wrap64 (x10))))) else (none))))) else (none)) else (none)) else (none))
end
def agateref02_Fields.f (k : Nat) (a0 : ByteArray) : Option ((List (S50)) × Int) := if (a0.size : Int) > 1048576 then (some (([] : List (S50)), 2)) else (agateref02_Fields.l0 k a0 ([] : List (S50)) 0)
theorem agateref02_Fields.mono_l : ∀ k, (∀ y0 y1 y2, LeO (agateref02_Fields.l0 k y0 y1 y2) (agateref02_Fields.l0 (k + 1) y0 y1 y2)) ∧ (∀ y0 y1 y2 y3 y4 y5 y6 y7 y8, LeO (agateref02_Fields.j1 k y0 y1 y2 y3 y4 y5 y6 y7 y8) (agateref02_Fields.j1 (k + 1) y0 y1 y2 y3 y4 y5 y6 y7 y8)) ∧ (∀ y0 y1 y2 y3 y4 y5 y6 y7, LeO (agateref02_Fields.j2 k y0 y1 y2 y3 y4 y5 y6 y7) (agateref02_Fields.j2 (k + 1) y0 y1 y2 y3 y4 y5 y6 y7)) ∧ (∀ y0 y1 y2 y3 y4 y5 y6 y7, LeO (agateref02_Fields.j3 k y0 y1 y2 y3 y4 y5 y6 y7) (agateref02_Fields.j3 (k + 1) y0 y1 y2 y3 y4 y5 y6 y7)) ∧ (∀ y0 y1 y2 y3 y4 y5 y6 y7 y8, LeO (agateref02_Fields.j4 k y0 y1 y2 y3 y4 y5 y6 y7 y8) (agateref02_Fields.j4 (k + 1) y0 y1 y2 y3 y4 y5 y6 y7 y8)) ∧ (∀ y0 y1 y2 y3 y4 y5 y6 y7, LeO (agateref02_Fields.j5 k y0 y1 y2 y3 y4 y5 y6 y7) (agateref02_Fields.j5 (k + 1) y0 y1 y2 y3 y4 y5 y6 y7))
  | 0 => ⟨fun _ _ _ r h => by simp [agateref02_Fields.l0] at h, fun _ _ _ _ _ _ _ _ _ r h => by simp [agateref02_Fields.j1] at h, fun _ _ _ _ _ _ _ _ r h => by simp [agateref02_Fields.j2] at h, fun _ _ _ _ _ _ _ _ r h => by simp [agateref02_Fields.j3] at h, fun _ _ _ _ _ _ _ _ _ r h => by simp [agateref02_Fields.j4] at h, fun _ _ _ _ _ _ _ _ r h => by simp [agateref02_Fields.j5] at h⟩
  | k + 1 => by
    obtain ⟨ih0, ih1, ih2, ih3, ih4, ih5⟩ := agateref02_Fields.mono_l k
    refine ⟨?_, ?_, ?_, ?_, ?_, ?_⟩
    · intro y0 y1 y2
      unfold agateref02_Fields.l0
      repeat' first
      | (with_reducible exact ih0 _ _ _)
      | (with_reducible exact ih1 _ _ _ _ _ _ _ _ _)
      | (with_reducible exact ih2 _ _ _ _ _ _ _ _)
      | (with_reducible exact ih3 _ _ _ _ _ _ _ _)
      | (with_reducible exact ih4 _ _ _ _ _ _ _ _ _)
      | (with_reducible exact ih5 _ _ _ _ _ _ _ _)
      | (with_reducible exact LeO.refl _)
      | (with_reducible exact LeO.none _)
      | (with_reducible refine LeO.ite ?_ ?_)
      | (with_reducible refine LeO.bind ?_ (fun _ => ?_))
      | exact ih0 _ _ _
      | exact ih1 _ _ _ _ _ _ _ _ _
      | exact ih2 _ _ _ _ _ _ _ _
      | exact ih3 _ _ _ _ _ _ _ _
      | exact ih4 _ _ _ _ _ _ _ _ _
      | exact ih5 _ _ _ _ _ _ _ _
      | exact LeO.none _
      | refine LeO.ite ?_ ?_
      | refine LeO.bind ?_ (fun _ => ?_)
    · intro y0 y1 y2 y3 y4 y5 y6 y7 y8
      unfold agateref02_Fields.j1
      repeat' first
      | (with_reducible exact ih0 _ _ _)
      | (with_reducible exact ih1 _ _ _ _ _ _ _ _ _)
      | (with_reducible exact ih2 _ _ _ _ _ _ _ _)
      | (with_reducible exact ih3 _ _ _ _ _ _ _ _)
      | (with_reducible exact ih4 _ _ _ _ _ _ _ _ _)
      | (with_reducible exact ih5 _ _ _ _ _ _ _ _)
      | (with_reducible exact LeO.refl _)
      | (with_reducible exact LeO.none _)
      | (with_reducible refine LeO.ite ?_ ?_)
      | (with_reducible refine LeO.bind ?_ (fun _ => ?_))
      | exact ih0 _ _ _
      | exact ih1 _ _ _ _ _ _ _ _ _
      | exact ih2 _ _ _ _ _ _ _ _
      | exact ih3 _ _ _ _ _ _ _ _
      | exact ih4 _ _ _ _ _ _ _ _ _
      | exact ih5 _ _ _ _ _ _ _ _
      | exact LeO.none _
      | refine LeO.ite ?_ ?_
      | refine LeO.bind ?_ (fun _ => ?_)
    · intro y0 y1 y2 y3 y4 y5 y6 y7
      unfold agateref02_Fields.j2
      repeat' first
      | (with_reducible exact ih0 _ _ _)
      | (with_reducible exact ih1 _ _ _ _ _ _ _ _ _)
      | (with_reducible exact ih2 _ _ _ _ _ _ _ _)
      | (with_reducible exact ih3 _ _ _ _ _ _ _ _)
      | (with_reducible exact ih4 _ _ _ _ _ _ _ _ _)
      | (with_reducible exact ih5 _ _ _ _ _ _ _ _)
      | (with_reducible exact LeO.refl _)
      | (with_reducible exact LeO.none _)
      | (with_reducible refine LeO.ite ?_ ?_)
      | (with_reducible refine LeO.bind ?_ (fun _ => ?_))
      | exact ih0 _ _ _
      | exact ih1 _ _ _ _ _ _ _ _ _
      | exact ih2 _ _ _ _ _ _ _ _
      | exact ih3 _ _ _ _ _ _ _ _
      | exact ih4 _ _ _ _ _ _ _ _ _
      | exact ih5 _ _ _ _ _ _ _ _
      | exact LeO.none _
      | refine LeO.ite ?_ ?_
      | refine LeO.bind ?_ (fun _ => ?_)
    · intro y0 y1 y2 y3 y4 y5 y6 y7
      unfold agateref02_Fields.j3
      repeat' first
      | (with_reducible exact ih0 _ _ _)
      | (with_reducible exact ih1 _ _ _ _ _ _ _ _ _)
      | (with_reducible exact ih2 _ _ _ _ _ _ _ _)
      | (with_reducible exact ih3 _ _ _ _ _ _ _ _)
      | (with_reducible exact ih4 _ _ _ _ _ _ _ _ _)
      | (with_reducible exact ih5 _ _ _ _ _ _ _ _)
      | (with_reducible exact LeO.refl _)
      | (with_reducible exact LeO.none _)
      | (with_reducible refine LeO.ite ?_ ?_)
      | (with_reducible refine LeO.bind ?_ (fun _ => ?_))
      | exact ih0 _ _ _
      | exact ih1 _ _ _ _ _ _ _ _ _
      | exact ih2 _ _ _ _ _ _ _ _
      | exact ih3 _ _ _ _ _ _ _ _
      | exact ih4 _ _ _ _ _ _ _ _ _
      | exact ih5 _ _ _ _ _ _ _ _
      | exact LeO.none _
      | refine LeO.ite ?_ ?_
      | refine LeO.bind ?_ (fun _ => ?_)
    · intro y0 y1 y2 y3 y4 y5 y6 y7 y8
      unfold agateref02_Fields.j4
      repeat' first
      | (with_reducible exact ih0 _ _ _)
      | (with_reducible exact ih1 _ _ _ _ _ _ _ _ _)
      | (with_reducible exact ih2 _ _ _ _ _ _ _ _)
      | (with_reducible exact ih3 _ _ _ _ _ _ _ _)
      | (with_reducible exact ih4 _ _ _ _ _ _ _ _ _)
      | (with_reducible exact ih5 _ _ _ _ _ _ _ _)
      | (with_reducible exact LeO.refl _)
      | (with_reducible exact LeO.none _)
      | (with_reducible refine LeO.ite ?_ ?_)
      | (with_reducible refine LeO.bind ?_ (fun _ => ?_))
      | exact ih0 _ _ _
      | exact ih1 _ _ _ _ _ _ _ _ _
      | exact ih2 _ _ _ _ _ _ _ _
      | exact ih3 _ _ _ _ _ _ _ _
      | exact ih4 _ _ _ _ _ _ _ _ _
      | exact ih5 _ _ _ _ _ _ _ _
      | exact LeO.none _
      | refine LeO.ite ?_ ?_
      | refine LeO.bind ?_ (fun _ => ?_)
    · intro y0 y1 y2 y3 y4 y5 y6 y7
      unfold agateref02_Fields.j5
      repeat' first
      | (with_reducible exact ih0 _ _ _)
      | (with_reducible exact ih1 _ _ _ _ _ _ _ _ _)
      | (with_reducible exact ih2 _ _ _ _ _ _ _ _)
      | (with_reducible exact ih3 _ _ _ _ _ _ _ _)
      | (with_reducible exact ih4 _ _ _ _ _ _ _ _ _)
      | (with_reducible exact ih5 _ _ _ _ _ _ _ _)
      | (with_reducible exact LeO.refl _)
      | (with_reducible exact LeO.none _)
      | (with_reducible refine LeO.ite ?_ ?_)
      | (with_reducible refine LeO.bind ?_ (fun _ => ?_))
      | exact ih0 _ _ _
      | exact ih1 _ _ _ _ _ _ _ _ _
      | exact ih2 _ _ _ _ _ _ _ _
      | exact ih3 _ _ _ _ _ _ _ _
      | exact ih4 _ _ _ _ _ _ _ _ _
      | exact ih5 _ _ _ _ _ _ _ _
      | exact LeO.none _
      | refine LeO.ite ?_ ?_
      | refine LeO.bind ?_ (fun _ => ?_)
theorem agateref02_Fields.mono : ∀ a0 k, LeO (agateref02_Fields.f k a0) (agateref02_Fields.f (k + 1) a0) := by
  intro a0 k
  obtain ⟨ih0, ih1, ih2, ih3, ih4, ih5⟩ := agateref02_Fields.mono_l k
  unfold agateref02_Fields.f
  repeat' first
      | (with_reducible exact ih0 _ _ _)
      | (with_reducible exact ih1 _ _ _ _ _ _ _ _ _)
      | (with_reducible exact ih2 _ _ _ _ _ _ _ _)
      | (with_reducible exact ih3 _ _ _ _ _ _ _ _)
      | (with_reducible exact ih4 _ _ _ _ _ _ _ _ _)
      | (with_reducible exact ih5 _ _ _ _ _ _ _ _)
      | (with_reducible exact LeO.refl _)
      | (with_reducible exact LeO.none _)
      | (with_reducible refine LeO.ite ?_ ?_)
      | (with_reducible refine LeO.bind ?_ (fun _ => ?_))
      | exact ih0 _ _ _
      | exact ih1 _ _ _ _ _ _ _ _ _
      | exact ih2 _ _ _ _ _ _ _ _
      | exact ih3 _ _ _ _ _ _ _ _
      | exact ih4 _ _ _ _ _ _ _ _ _
      | exact ih5 _ _ _ _ _ _ _ _
      | exact LeO.none _
      | refine LeO.ite ?_ ?_
      | refine LeO.bind ?_ (fun _ => ?_)
set_option maxHeartbeats 8000000 in
set_option maxRecDepth 100000 in
theorem agateref02_Fields.calls (k : Nat) (a0 : ByteArray) (r1 : List (S50)) (r2 : Int) (w : World) (h : agateref02_Fields.f k a0 = some (r1, r2)) :
    Calls Try.prog 22 #[.string a0] w fun e w' => ∃ v0_ : Value, e = .returned (.tuple #[v0_, .int .i64 r2]) ∧ Kd.R k50 50 w' w.heap.size (fun _ => True) v0_ r1 ∧ Below w.heap.size w w' := by
  have hu50 := Try.underlying50
  have HB := Aside0.mk (Below.refl w.heap.size w)
  have H : (if (a0.size : Int) > 1048576 then (some (([] : List (S50)), 2)) else (agateref02_Fields.l0 k a0 ([] : List (S50)) 0)) = some (r1, r2) := h
  clear h
  by_cases c2 : (a0.size : Int) > 1048576
  · rw [if_pos c2] at H
    have c2b0 : decide (1048576 < (a0.size : Int)) = true := decide_eq_true c2
    have c2b1 : decide (1048576 < a0.size) = true := decide_eq_true (by omega)
    clear c2
    simp only [Option.some.injEq, Prod.mk.injEq] at H
    obtain ⟨rfl, rfl⟩ := H
    go_enter Try.func22, Try.ntmps22
    go_wp2
    go_ret2
    exact ⟨_, by first | rfl | (simp [errW_none, errW_some] <;> rfl) | (simp [*, errW_none, errW_some] <;> rfl), by first | exact Kd.R_nil _ _ _ _ _ | exact Kd.N_nil _ _ _ _ _ | exact Kd.V_nil _ _ _ _ _ | exact Kd.Q_nil _ _ _ _ _ | exact Kd.S_nil _ _ _ _ _, by repeat (first | (with_reducible first | exact HB.out | apply below_alloc | apply pw_below_drewN | apply below_drew1) | exact HB.out)⟩
  · rw [if_neg c2] at H
    have c2b0 : decide (1048576 < (a0.size : Int)) = false := decide_eq_false c2
    have c2b1 : decide (1048576 < a0.size) = false := decide_eq_false (by omega)
    clear c2
    have H' := Aside0.mk H
    clear H
    go_enter Try.func22, Try.ntmps22
    go_wp2
    go_loopg [4, 5] k (fun kq v4 v5 w' => ∃ (x4_1 : List (S50)) (x5_1 : Int), v5 = .int .i64 x5_1 ∧ Aside0 (agateref02_Fields.l0 kq a0 x4_1 x5_1 = some (r1, r2)) ∧ Aside0 (kq ≤ k) ∧ Aside0 (Kd.R k50 50 w' w.heap.size (fun _ => True) v4 x4_1) ∧ Aside0 (Below w.heap.size w w'))
    case atStart => exact ⟨(([] : List (S50))), (0), (by first | rfl | (simp; done) | (simp [*]; done)), H', ⟨Nat.le_refl _⟩, ⟨by first | exact Kd.R_nil _ _ _ _ _ | exact Kd.N_nil _ _ _ _ _ | exact Kd.V_nil _ _ _ _ _ | exact Kd.Q_nil _ _ _ _ _ | exact Kd.S_nil _ _ _ _ _⟩, ⟨by repeat (first | (with_reducible first | exact HB.out | apply below_alloc | apply pw_below_drewN | apply below_drew1) | exact HB.out)⟩⟩
    case round =>
      clear H'
      try clear c2
      try clear c2b0
      try clear c2b1
      try clear p2
      obtain ⟨x4_1, x5_1, rfl, HA, HK1, HO_4, HB⟩ := hrel
      cases gk with
      | zero => exact absurd HA.out (by simp [agateref02_Fields.l0])
      | succ k1 =>
        have H := HA.out
        clear HA
        simp only [agateref02_Fields.l0] at H
        by_cases c3 : x5_1 < (a0.size : Int)
        · rw [if_pos c3] at H
          have c3b0 : decide (x5_1 < (a0.size : Int)) = true := decide_eq_true c3
          clear c3
          by_cases c4 : 0 ≤ x5_1
          · rw [if_pos c4] at H
            have c4b0 := eq_true c4
            have c4b1 : decide (0 ≤ x5_1) = true := decide_eq_true c4
            clear c4
            by_cases c5 : x5_1 ≤ (a0.size : Int)
            · rw [if_pos c5] at H
              have c5b0 := eq_true c5
              have c5b1 : decide (x5_1 ≤ (a0.size : Int)) = true := decide_eq_true c5
              clear c5
              replace H := Option.bind_eq_some_iff.mp H
              obtain ⟨⟨t101, t102, t103⟩, A60, H⟩ := H
              replace H : (if t103 = 0 then (if (IntKind.u64.wrap (Int.tdiv t101 8)) = 0 then (agateref02_Fields.j1 k1 a0 x4_1 (wrap64 (x5_1 + t102)) t101 true 0 (wrap64 (Int.tmod t101 8)) 0 (⟨#[]⟩ : ByteArray)) else (if (IntKind.u64.wrap (Int.tdiv t101 8)) > 536870911 then (agateref02_Fields.j1 k1 a0 x4_1 (wrap64 (x5_1 + t102)) t101 true 0 (wrap64 (Int.tmod t101 8)) 0 (⟨#[]⟩ : ByteArray)) else (if (wrap64 (Int.tmod t101 8)) = 3 then (agateref02_Fields.j1 k1 a0 x4_1 (wrap64 (x5_1 + t102)) t101 true 0 (wrap64 (Int.tmod t101 8)) 0 (⟨#[]⟩ : ByteArray)) else (if (wrap64 (Int.tmod t101 8)) = 4 then (agateref02_Fields.j1 k1 a0 x4_1 (wrap64 (x5_1 + t102)) t101 true 0 (wrap64 (Int.tmod t101 8)) 0 (⟨#[]⟩ : ByteArray)) else (agateref02_Fields.j1 k1 a0 x4_1 (wrap64 (x5_1 + t102)) t101 (decide ((wrap64 (Int.tmod t101 8)) > 5)) 0 (wrap64 (Int.tmod t101 8)) 0 (⟨#[]⟩ : ByteArray)))))) else (some (([] : List (S50)), t103))) = some (r1, r2) := H
              have A6 := Aside0.mk A60
              clear A60
              by_cases c7 : t103 = 0
              · rw [if_pos c7] at H
                have c7b0 : (t103 == 0) = true := beq_iff_eq.mpr c7
                have c7b1 : (t103 != 0) = false := bne_eq_false_iff_eq.mpr c7
                clear c7
                have HC8 := Aside0.mk H
                clear H
                go_upto_region 11 with (first | ((with_reducible refine gate_callee (f := 14) rfl ?_); refine goesL_ (some 26) rfl rfl Try.func14 (by kernel_rfl) rfl #[.string (a0.extract (x5_1 : Int).toNat a0.size)] rfl (by (try simp only [List.map_toArray, List.map_cons, List.map_nil]); first | done | rfl | (simp only [List.length_drop, List.length_take]; rfl)) ?_; (with_reducible refine (agateref01_Read_s.calls (a0.extract (x5_1 : Int).toNat a0.size) t101 t102 t103 _ A6.out).mono ?_); rintro e w' ⟨rfl, ⟨nd, rfl⟩⟩; refine ⟨_, rfl, ?_⟩; (try (rw [drewN_self wr]; generalize hq_ : World.drewN wr _ = wr; have n0_ : Aside0 (Kd.R k50 50 wr w.heap.size (fun _ => True) u4 x4_1) := ⟨by rw [← hq_]; exact (by (with_reducible repeat (first | apply Kd.R_alloc | apply Kd.R_drewN | apply Kd.R_drew)); exact HO_4.out)⟩; have n1_ : Aside0 (Below w.heap.size w wr) := ⟨by rw [← hq_]; exact (by repeat (first | (with_reducible first | exact HB.out | apply below_alloc | apply pw_below_drewN | apply below_drew1) | exact HB.out))⟩; clear HO_4 HB hq_; have HO_4 := n0_; have HB := n1_; clear n0_ n1_))) | ((with_reducible refine gate_dst (N := 9) rfl ?_); refine box_event ?hg (N := 9) ?hd (cs := #[.int .i64 0, .int .i64 0, .int .u64 0, .string (⟨#[]⟩ : ByteArray)]) (t := 50) ?hr ?_; (case hd => rfl); (case hg => rfl); (case hr => first | (go_simp; done) | (go_simp; rfl)); intro gb104 hg w9 hbox hb; have n0_ := Aside0.mk (Kd.R_below (Kd.R_elderB (by (with_reducible repeat (first | apply Kd.R_alloc | apply Kd.R_drewN | apply Kd.R_drew)); exact HO_4.out) gb104 (Nat.le_of_eq hg.symm)) hb); have n1_ := Aside0.mk (below_step (by repeat (first | (with_reducible first | exact HB.out | apply below_alloc | apply pw_below_drewN | apply below_drew1) | exact HB.out)) hb); have n2_ := Aside0.mk (hbox); have n3_ := Aside0.mk ((by rw [hg]; exact (below_size (by repeat (first | (with_reducible first | exact HB.out | apply below_alloc | apply pw_below_drewN | apply below_drew1) | exact HB.out))) : w.heap.size ≤ gb104)); have n4_ := Aside0.mk ((by rw [hg]; exact (below_size (by repeat (first | (with_reducible first | exact HB.out | apply below_alloc | apply pw_below_drewN | apply below_drew1) | exact HB.out))) : w.heap.size ≤ gb104)); clear HO_4; clear HB; have HO_4 := n0_; have HB := n1_; have BK104 := n2_; have GW104 := n3_; have GE104 := n4_; clear n0_ n1_ n2_ n3_ n4_; clear hb hbox hg; have hcz10_0 : w9.cell? ⟨gb104, 0, none⟩ = some (.int .i64 0) := (blk_cell BK104.out 0).trans rfl; have hcz10_1 : w9.cell? ⟨gb104, 1, none⟩ = some (.int .i64 0) := (blk_cell BK104.out 1).trans rfl; have hcz10_2 : w9.cell? ⟨gb104, 2, none⟩ = some (.int .u64 0) := (blk_cell BK104.out 2).trans rfl; have hcz10_3 : w9.cell? ⟨gb104, 3, none⟩ = some (.string (⟨#[]⟩ : ByteArray)) := (blk_cell BK104.out 3).trans rfl; have hfz10_0 := blk_frozen BK104.out 0; have hfz10_1 := blk_frozen BK104.out 1; have hfz10_2 := blk_frozen BK104.out 2; have hfz10_3 := blk_frozen BK104.out 3))
                (try simp only [Act.put, List.setIfInBounds_toArray, List.set_cons_zero, List.set_cons_succ])
                go_cut [62] (fun v62 wc => ∃ (kq : Nat) (x62_7 : Bool), v62 = .bool x62_7 ∧ Aside0 (agateref02_Fields.j1 kq a0 x4_1 (wrap64 (x5_1 + t102)) t101 x62_7 0 (wrap64 (Int.tmod t101 8)) 0 (⟨#[]⟩ : ByteArray) = some (r1, r2)) ∧ Aside0 (kq ≤ k1) ∧ Aside0 (Kd.R k50 50 wc w.heap.size (fun k_ => k_ ≠ gb104) u4 x4_1) ∧ Aside0 (wc.heap[gb104]? = some (.cells #[.int .i64 0, .int .i64 (wrap64 (Int.tmod t101 8)), .int .u64 0, .string (⟨#[]⟩ : ByteArray)] 50 (0, 0))) ∧ Aside0 (Below w.heap.size w wc))
                case first =>
                  have H := HC8.out
                  clear HC8
                  by_cases c11 : (IntKind.u64.wrap (Int.tdiv t101 8)) = 0
                  · rw [if_pos c11] at H
                    have c11b0 : ((IntKind.u64.wrap (Int.tdiv t101 8)) == 0) = true := beq_iff_eq.mpr c11
                    have c11b1 : ((IntKind.u64.wrap (Int.tdiv t101 8)) != 0) = false := bne_eq_false_iff_eq.mpr c11
                    clear c11
                    (first | rw [c11b0] | (simp only [i64_w, i32_w]; rw [c11b0]) | skip)
                    have H' := Aside0.mk H
                    clear H
                    go_wp2
                    go_meet
                    case rel => exact ⟨_, (true), (by first | rfl | (simp; done) | (simp [*]; done)), H', ⟨by have := HK1.out; first | omega | exact Nat.le_refl _⟩, ⟨by (with_reducible repeat (first | apply Kd.R_alloc | apply Kd.R_drewN | apply Kd.R_drew)); exact Kd.R_mono (Kd.R_far (p := ⟨gb104, 3, none⟩) (Kd.R_far (p := ⟨gb104, 2, none⟩) (Kd.R_far (p := ⟨gb104, 1, none⟩) (Kd.R_far (p := ⟨gb104, 0, none⟩) (Kd.R_mono HO_4.out (fun k_ hk => (⟨hk, hk.2⟩ : _ ∧ k_ ≠ gb104))) (fun _ hk => hk.2) (.int .i64 0)) (fun _ hk => hk.2) (.int .i64 (wrap64 (Int.tmod t101 8)))) (fun _ hk => hk.2) (.int .u64 0)) (fun _ hk => hk.2) (.string (⟨#[]⟩ : ByteArray))) (fun _ hk => hk.1.2)⟩, ⟨by (with_reducible repeat (first | refine blk_drewN ?_ _ | refine blk_drew ?_ | refine blk_alloc ?_ _)); refine blk_put (cs := #[.int .i64 0, .int .i64 (wrap64 (Int.tmod t101 8)), .int .u64 0, .string (⟨#[]⟩ : ByteArray)]) ?_ 3 _ rfl; (with_reducible repeat (first | refine blk_drewN ?_ _ | refine blk_drew ?_ | refine blk_alloc ?_ _)); refine blk_put (cs := #[.int .i64 0, .int .i64 (wrap64 (Int.tmod t101 8)), .int .u64 0, .string (⟨#[]⟩ : ByteArray)]) ?_ 2 _ rfl; (with_reducible repeat (first | refine blk_drewN ?_ _ | refine blk_drew ?_ | refine blk_alloc ?_ _)); refine blk_put (cs := #[.int .i64 0, .int .i64 0, .int .u64 0, .string (⟨#[]⟩ : ByteArray)]) ?_ 1 _ rfl; (with_reducible repeat (first | refine blk_drewN ?_ _ | refine blk_drew ?_ | refine blk_alloc ?_ _)); refine blk_put (cs := #[.int .i64 0, .int .i64 0, .int .u64 0, .string (⟨#[]⟩ : ByteArray)]) ?_ 0 _ rfl; (with_reducible repeat (first | refine blk_drewN ?_ _ | refine blk_drew ?_ | refine blk_alloc ?_ _)); exact BK104.out⟩, ⟨by repeat (first | (with_reducible first | exact HB.out | apply below_alloc | apply pw_below_drewN | apply below_drew1 | refine below_set ?_ GE104.out) | exact HB.out)⟩⟩
                  · rw [if_neg c11] at H
                    have c11b0 : ((IntKind.u64.wrap (Int.tdiv t101 8)) == 0) = false := beq_eq_false_iff_ne.mpr c11
                    have c11b1 : ((IntKind.u64.wrap (Int.tdiv t101 8)) != 0) = true := bne_iff_ne.mpr c11
                    (first | rw [c11b0] | (simp only [i64_w, i32_w]; rw [c11b0]) | skip)
                    by_cases c12 : (IntKind.u64.wrap (Int.tdiv t101 8)) > 536870911
                    · rw [if_pos c12] at H
                      have c12b0 : decide (536870911 < (IntKind.u64.wrap (Int.tdiv t101 8))) = true := decide_eq_true c12
                      clear c12
                      have H' := Aside0.mk H
                      clear H
                      go_wp2
                      go_meet
                      case rel => exact ⟨_, (true), (by first | rfl | (simp; done) | (simp [*]; done)), H', ⟨by have := HK1.out; first | omega | exact Nat.le_refl _⟩, ⟨by (with_reducible repeat (first | apply Kd.R_alloc | apply Kd.R_drewN | apply Kd.R_drew)); exact Kd.R_mono (Kd.R_far (p := ⟨gb104, 3, none⟩) (Kd.R_far (p := ⟨gb104, 2, none⟩) (Kd.R_far (p := ⟨gb104, 1, none⟩) (Kd.R_far (p := ⟨gb104, 0, none⟩) (Kd.R_mono HO_4.out (fun k_ hk => (⟨hk, hk.2⟩ : _ ∧ k_ ≠ gb104))) (fun _ hk => hk.2) (.int .i64 0)) (fun _ hk => hk.2) (.int .i64 (wrap64 (Int.tmod t101 8)))) (fun _ hk => hk.2) (.int .u64 0)) (fun _ hk => hk.2) (.string (⟨#[]⟩ : ByteArray))) (fun _ hk => hk.1.2)⟩, ⟨by (with_reducible repeat (first | refine blk_drewN ?_ _ | refine blk_drew ?_ | refine blk_alloc ?_ _)); refine blk_put (cs := #[.int .i64 0, .int .i64 (wrap64 (Int.tmod t101 8)), .int .u64 0, .string (⟨#[]⟩ : ByteArray)]) ?_ 3 _ rfl; (with_reducible repeat (first | refine blk_drewN ?_ _ | refine blk_drew ?_ | refine blk_alloc ?_ _)); refine blk_put (cs := #[.int .i64 0, .int .i64 (wrap64 (Int.tmod t101 8)), .int .u64 0, .string (⟨#[]⟩ : ByteArray)]) ?_ 2 _ rfl; (with_reducible repeat (first | refine blk_drewN ?_ _ | refine blk_drew ?_ | refine blk_alloc ?_ _)); refine blk_put (cs := #[.int .i64 0, .int .i64 0, .int .u64 0, .string (⟨#[]⟩ : ByteArray)]) ?_ 1 _ rfl; (with_reducible repeat (first | refine blk_drewN ?_ _ | refine blk_drew ?_ | refine blk_alloc ?_ _)); refine blk_put (cs := #[.int .i64 0, .int .i64 0, .int .u64 0, .string (⟨#[]⟩ : ByteArray)]) ?_ 0 _ rfl; (with_reducible repeat (first | refine blk_drewN ?_ _ | refine blk_drew ?_ | refine blk_alloc ?_ _)); exact BK104.out⟩, ⟨by repeat (first | (with_reducible first | exact HB.out | apply below_alloc | apply pw_below_drewN | apply below_drew1 | refine below_set ?_ GE104.out) | exact HB.out)⟩⟩
                    · rw [if_neg c12] at H
                      have c12b0 : decide (536870911 < (IntKind.u64.wrap (Int.tdiv t101 8))) = false := decide_eq_false c12
                      clear c12
                      by_cases c13 : (wrap64 (Int.tmod t101 8)) = 3
                      · rw [if_pos c13] at H
                        have c13b0 : ((wrap64 (Int.tmod t101 8)) == 3) = true := beq_iff_eq.mpr c13
                        have c13b1 : ((wrap64 (Int.tmod t101 8)) != 3) = false := bne_eq_false_iff_eq.mpr c13
                        clear c13
                        have H' := Aside0.mk H
                        clear H
                        have hcz14_0 : w9.cell? ⟨gb104, 0, none⟩ = some (.int .i64 0) := (blk_cell BK104.out 0).trans rfl
                        have hcz14_1 : w9.cell? ⟨gb104, 1, none⟩ = some (.int .i64 0) := (blk_cell BK104.out 1).trans rfl
                        have hcz14_2 : w9.cell? ⟨gb104, 2, none⟩ = some (.int .u64 0) := (blk_cell BK104.out 2).trans rfl
                        have hcz14_3 : w9.cell? ⟨gb104, 3, none⟩ = some (.string (⟨#[]⟩ : ByteArray)) := (blk_cell BK104.out 3).trans rfl
                        have hfz14_0 := blk_frozen BK104.out 0
                        have hfz14_1 := blk_frozen BK104.out 1
                        have hfz14_2 := blk_frozen BK104.out 2
                        have hfz14_3 := blk_frozen BK104.out 3
                        go_wp2
                        go_meet
                        case rel => exact ⟨_, (true), (by first | rfl | (simp; done) | (simp [*]; done)), H', ⟨by have := HK1.out; first | omega | exact Nat.le_refl _⟩, ⟨by (with_reducible repeat (first | apply Kd.R_alloc | apply Kd.R_drewN | apply Kd.R_drew)); exact Kd.R_mono (Kd.R_far (p := ⟨gb104, 3, none⟩) (Kd.R_far (p := ⟨gb104, 2, none⟩) (Kd.R_far (p := ⟨gb104, 1, none⟩) (Kd.R_far (p := ⟨gb104, 0, none⟩) (Kd.R_mono HO_4.out (fun k_ hk => (⟨hk, hk.2⟩ : _ ∧ k_ ≠ gb104))) (fun _ hk => hk.2) (.int .i64 0)) (fun _ hk => hk.2) (.int .i64 (wrap64 (Int.tmod t101 8)))) (fun _ hk => hk.2) (.int .u64 0)) (fun _ hk => hk.2) (.string (⟨#[]⟩ : ByteArray))) (fun _ hk => hk.1.2)⟩, ⟨by (with_reducible repeat (first | refine blk_drewN ?_ _ | refine blk_drew ?_ | refine blk_alloc ?_ _)); refine blk_put (cs := #[.int .i64 0, .int .i64 (wrap64 (Int.tmod t101 8)), .int .u64 0, .string (⟨#[]⟩ : ByteArray)]) ?_ 3 _ rfl; (with_reducible repeat (first | refine blk_drewN ?_ _ | refine blk_drew ?_ | refine blk_alloc ?_ _)); refine blk_put (cs := #[.int .i64 0, .int .i64 (wrap64 (Int.tmod t101 8)), .int .u64 0, .string (⟨#[]⟩ : ByteArray)]) ?_ 2 _ rfl; (with_reducible repeat (first | refine blk_drewN ?_ _ | refine blk_drew ?_ | refine blk_alloc ?_ _)); refine blk_put (cs := #[.int .i64 0, .int .i64 0, .int .u64 0, .string (⟨#[]⟩ : ByteArray)]) ?_ 1 _ rfl; (with_reducible repeat (first | refine blk_drewN ?_ _ | refine blk_drew ?_ | refine blk_alloc ?_ _)); refine blk_put (cs := #[.int .i64 0, .int .i64 0, .int .u64 0, .string (⟨#[]⟩ : ByteArray)]) ?_ 0 _ rfl; (with_reducible repeat (first | refine blk_drewN ?_ _ | refine blk_drew ?_ | refine blk_alloc ?_ _)); exact BK104.out⟩, ⟨by repeat (first | (with_reducible first | exact HB.out | apply below_alloc | apply pw_below_drewN | apply below_drew1 | refine below_set ?_ GE104.out) | exact HB.out)⟩⟩
                      · rw [if_neg c13] at H
                        have c13b0 : ((wrap64 (Int.tmod t101 8)) == 3) = false := beq_eq_false_iff_ne.mpr c13
                        have c13b1 : ((wrap64 (Int.tmod t101 8)) != 3) = true := bne_iff_ne.mpr c13
                        by_cases c15 : (wrap64 (Int.tmod t101 8)) = 4
                        · rw [if_pos c15] at H
                          have c15b0 : ((wrap64 (Int.tmod t101 8)) == 4) = true := beq_iff_eq.mpr c15
                          have c15b1 : ((wrap64 (Int.tmod t101 8)) != 4) = false := bne_eq_false_iff_eq.mpr c15
                          clear c15
                          have H' := Aside0.mk H
                          clear H
                          have hcz16_0 : w9.cell? ⟨gb104, 0, none⟩ = some (.int .i64 0) := (blk_cell BK104.out 0).trans rfl
                          have hcz16_1 : w9.cell? ⟨gb104, 1, none⟩ = some (.int .i64 0) := (blk_cell BK104.out 1).trans rfl
                          have hcz16_2 : w9.cell? ⟨gb104, 2, none⟩ = some (.int .u64 0) := (blk_cell BK104.out 2).trans rfl
                          have hcz16_3 : w9.cell? ⟨gb104, 3, none⟩ = some (.string (⟨#[]⟩ : ByteArray)) := (blk_cell BK104.out 3).trans rfl
                          have hfz16_0 := blk_frozen BK104.out 0
                          have hfz16_1 := blk_frozen BK104.out 1
                          have hfz16_2 := blk_frozen BK104.out 2
                          have hfz16_3 := blk_frozen BK104.out 3
                          go_wp2
                          go_meet
                          case rel => exact ⟨_, (true), (by first | rfl | (simp; done) | (simp [*]; done)), H', ⟨by have := HK1.out; first | omega | exact Nat.le_refl _⟩, ⟨by (with_reducible repeat (first | apply Kd.R_alloc | apply Kd.R_drewN | apply Kd.R_drew)); exact Kd.R_mono (Kd.R_far (p := ⟨gb104, 3, none⟩) (Kd.R_far (p := ⟨gb104, 2, none⟩) (Kd.R_far (p := ⟨gb104, 1, none⟩) (Kd.R_far (p := ⟨gb104, 0, none⟩) (Kd.R_mono HO_4.out (fun k_ hk => (⟨hk, hk.2⟩ : _ ∧ k_ ≠ gb104))) (fun _ hk => hk.2) (.int .i64 0)) (fun _ hk => hk.2) (.int .i64 (wrap64 (Int.tmod t101 8)))) (fun _ hk => hk.2) (.int .u64 0)) (fun _ hk => hk.2) (.string (⟨#[]⟩ : ByteArray))) (fun _ hk => hk.1.2)⟩, ⟨by (with_reducible repeat (first | refine blk_drewN ?_ _ | refine blk_drew ?_ | refine blk_alloc ?_ _)); refine blk_put (cs := #[.int .i64 0, .int .i64 (wrap64 (Int.tmod t101 8)), .int .u64 0, .string (⟨#[]⟩ : ByteArray)]) ?_ 3 _ rfl; (with_reducible repeat (first | refine blk_drewN ?_ _ | refine blk_drew ?_ | refine blk_alloc ?_ _)); refine blk_put (cs := #[.int .i64 0, .int .i64 (wrap64 (Int.tmod t101 8)), .int .u64 0, .string (⟨#[]⟩ : ByteArray)]) ?_ 2 _ rfl; (with_reducible repeat (first | refine blk_drewN ?_ _ | refine blk_drew ?_ | refine blk_alloc ?_ _)); refine blk_put (cs := #[.int .i64 0, .int .i64 0, .int .u64 0, .string (⟨#[]⟩ : ByteArray)]) ?_ 1 _ rfl; (with_reducible repeat (first | refine blk_drewN ?_ _ | refine blk_drew ?_ | refine blk_alloc ?_ _)); refine blk_put (cs := #[.int .i64 0, .int .i64 0, .int .u64 0, .string (⟨#[]⟩ : ByteArray)]) ?_ 0 _ rfl; (with_reducible repeat (first | refine blk_drewN ?_ _ | refine blk_drew ?_ | refine blk_alloc ?_ _)); exact BK104.out⟩, ⟨by repeat (first | (with_reducible first | exact HB.out | apply below_alloc | apply pw_below_drewN | apply below_drew1 | refine below_set ?_ GE104.out) | exact HB.out)⟩⟩
                        · rw [if_neg c15] at H
                          have c15b0 : ((wrap64 (Int.tmod t101 8)) == 4) = false := beq_eq_false_iff_ne.mpr c15
                          have c15b1 : ((wrap64 (Int.tmod t101 8)) != 4) = true := bne_iff_ne.mpr c15
                          have H' := Aside0.mk H
                          clear H
                          have hcz17_0 : w9.cell? ⟨gb104, 0, none⟩ = some (.int .i64 0) := (blk_cell BK104.out 0).trans rfl
                          have hcz17_1 : w9.cell? ⟨gb104, 1, none⟩ = some (.int .i64 0) := (blk_cell BK104.out 1).trans rfl
                          have hcz17_2 : w9.cell? ⟨gb104, 2, none⟩ = some (.int .u64 0) := (blk_cell BK104.out 2).trans rfl
                          have hcz17_3 : w9.cell? ⟨gb104, 3, none⟩ = some (.string (⟨#[]⟩ : ByteArray)) := (blk_cell BK104.out 3).trans rfl
                          have hfz17_0 := blk_frozen BK104.out 0
                          have hfz17_1 := blk_frozen BK104.out 1
                          have hfz17_2 := blk_frozen BK104.out 2
                          have hfz17_3 := blk_frozen BK104.out 3
                          go_wp2
                          go_meet
                          case rel => exact ⟨_, (decide ((wrap64 (Int.tmod t101 8)) > 5)), (by first | rfl | (simp; done) | (simp [*]; done)), H', ⟨by have := HK1.out; first | omega | exact Nat.le_refl _⟩, ⟨by (with_reducible repeat (first | apply Kd.R_alloc | apply Kd.R_drewN | apply Kd.R_drew)); exact Kd.R_mono (Kd.R_far (p := ⟨gb104, 3, none⟩) (Kd.R_far (p := ⟨gb104, 2, none⟩) (Kd.R_far (p := ⟨gb104, 1, none⟩) (Kd.R_far (p := ⟨gb104, 0, none⟩) (Kd.R_mono HO_4.out (fun k_ hk => (⟨hk, hk.2⟩ : _ ∧ k_ ≠ gb104))) (fun _ hk => hk.2) (.int .i64 0)) (fun _ hk => hk.2) (.int .i64 (wrap64 (Int.tmod t101 8)))) (fun _ hk => hk.2) (.int .u64 0)) (fun _ hk => hk.2) (.string (⟨#[]⟩ : ByteArray))) (fun _ hk => hk.1.2)⟩, ⟨by (with_reducible repeat (first | refine blk_drewN ?_ _ | refine blk_drew ?_ | refine blk_alloc ?_ _)); refine blk_put (cs := #[.int .i64 0, .int .i64 (wrap64 (Int.tmod t101 8)), .int .u64 0, .string (⟨#[]⟩ : ByteArray)]) ?_ 3 _ rfl; (with_reducible repeat (first | refine blk_drewN ?_ _ | refine blk_drew ?_ | refine blk_alloc ?_ _)); refine blk_put (cs := #[.int .i64 0, .int .i64 (wrap64 (Int.tmod t101 8)), .int .u64 0, .string (⟨#[]⟩ : ByteArray)]) ?_ 2 _ rfl; (with_reducible repeat (first | refine blk_drewN ?_ _ | refine blk_drew ?_ | refine blk_alloc ?_ _)); refine blk_put (cs := #[.int .i64 0, .int .i64 0, .int .u64 0, .string (⟨#[]⟩ : ByteArray)]) ?_ 1 _ rfl; (with_reducible repeat (first | refine blk_drewN ?_ _ | refine blk_drew ?_ | refine blk_alloc ?_ _)); refine blk_put (cs := #[.int .i64 0, .int .i64 0, .int .u64 0, .string (⟨#[]⟩ : ByteArray)]) ?_ 0 _ rfl; (with_reducible repeat (first | refine blk_drewN ?_ _ | refine blk_drew ?_ | refine blk_alloc ?_ _)); exact BK104.out⟩, ⟨by repeat (first | (with_reducible first | exact HB.out | apply below_alloc | apply pw_below_drewN | apply below_drew1 | refine below_set ?_ GE104.out) | exact HB.out)⟩⟩
                case rest =>
                  clear HC8
                  try clear c1
                  try clear c2
                  try clear c2b0
                  try clear c2b1
                  try clear p2
                  try clear c3
                  try clear c3b0
                  try clear c4
                  try clear c4b0
                  try clear c4b1
                  try clear c5
                  try clear c5b0
                  try clear c5b1
                  try clear p6
                  try clear c7
                  try clear c7b0
                  try clear c7b1
                  try clear c11
                  try clear c11b0
                  try clear c11b1
                  try clear c12
                  try clear c12b0
                  try clear c13
                  try clear c13b0
                  try clear c13b1
                  try clear c14
                  try clear c15
                  try clear c15b0
                  try clear c15b1
                  try clear hcz10_0
                  try clear hcz10_1
                  try clear hcz10_2
                  try clear hcz10_3
                  try clear hcz14_0
                  try clear hcz14_1
                  try clear hcz14_2
                  try clear hcz14_3
                  try clear hcz16_0
                  try clear hcz16_1
                  try clear hcz16_2
                  try clear hcz16_3
                  try clear hcz17_0
                  try clear hcz17_1
                  try clear hcz17_2
                  try clear hcz17_3
                  try clear hfz10_0
                  try clear hfz10_1
                  try clear hfz10_2
                  try clear hfz10_3
                  try clear hfz14_0
                  try clear hfz14_1
                  try clear hfz14_2
                  try clear hfz14_3
                  try clear hfz16_0
                  try clear hfz16_1
                  try clear hfz16_2
                  try clear hfz16_3
                  try clear hfz17_0
                  try clear hfz17_1
                  try clear hfz17_2
                  try clear hfz17_3
                  try clear p2
                  obtain ⟨kq, x62_7, rfl, HA, HJ7, HO_4, BK104, HB⟩ := hcut
                  cases kq with
                  | zero => exact absurd HA.out (by simp [agateref02_Fields.j1])
                  | succ kj7 =>
                    have H := HA.out
                    clear HA
                    simp only [agateref02_Fields.j1] at H
                    by_cases c18 : x62_7 = true
                    · subst c18
                      have H1 : (some (([] : List (S50)), 3)) = some (r1, r2) := by rw [if_pos rfl] at H; exact H
                      clear H
                      have H := H1
                      clear H1
                      simp only [Option.some.injEq, Prod.mk.injEq] at H
                      obtain ⟨rfl, rfl⟩ := H
                      go_wp2
                      go_ret2
                      exact ⟨_, by first | rfl | (simp [errW_none, errW_some] <;> rfl) | (simp [*, errW_none, errW_some] <;> rfl), by first | exact Kd.R_nil _ _ _ _ _ | exact Kd.N_nil _ _ _ _ _ | exact Kd.V_nil _ _ _ _ _ | exact Kd.Q_nil _ _ _ _ _ | exact Kd.S_nil _ _ _ _ _, by repeat (first | (with_reducible first | exact HB.out | apply below_alloc | apply pw_below_drewN | apply below_drew1 | refine below_set ?_ GE104.out) | exact HB.out)⟩
                    · replace c18 := Bool.eq_false_iff.mpr c18
                      subst c18
                      have H1 : (if (wrap64 (Int.tmod t101 8)) = 1 then (agateref02_Fields.j2 kj7 a0 x4_1 (wrap64 (x5_1 + t102)) 8 (wrap64 (IntKind.u64.wrap (Int.tdiv t101 8))) (wrap64 (Int.tmod t101 8)) 0 (⟨#[]⟩ : ByteArray)) else (agateref02_Fields.j2 kj7 a0 x4_1 (wrap64 (x5_1 + t102)) 0 (wrap64 (IntKind.u64.wrap (Int.tdiv t101 8))) (wrap64 (Int.tmod t101 8)) 0 (⟨#[]⟩ : ByteArray))) = some (r1, r2) := by rw [if_neg (show ¬ (false = true) by decide)] at H; exact H
                      clear H
                      have H := H1
                      clear H1
                      have HC19 := Aside0.mk H
                      clear H
                      have hcz20_0 : wc.cell? ⟨gb104, 0, none⟩ = some (.int .i64 0) := (blk_cell BK104.out 0).trans rfl
                      have hcz20_1 : wc.cell? ⟨gb104, 1, none⟩ = some (.int .i64 (wrap64 (Int.tmod t101 8))) := (blk_cell BK104.out 1).trans rfl
                      have hcz20_2 : wc.cell? ⟨gb104, 2, none⟩ = some (.int .u64 0) := (blk_cell BK104.out 2).trans rfl
                      have hcz20_3 : wc.cell? ⟨gb104, 3, none⟩ = some (.string (⟨#[]⟩ : ByteArray)) := (blk_cell BK104.out 3).trans rfl
                      have hfz20_0 := blk_frozen BK104.out 0
                      have hfz20_1 := blk_frozen BK104.out 1
                      have hfz20_2 := blk_frozen BK104.out 2
                      have hfz20_3 := blk_frozen BK104.out 3
                      go_upto_if 69 with (fail)
                      go_cut [10] (fun v10 wc => ∃ (kq : Nat) (x10_18 : Int), v10 = .int .u64 x10_18 ∧ Aside0 (agateref02_Fields.j2 kq a0 x4_1 (wrap64 (x5_1 + t102)) x10_18 (wrap64 (IntKind.u64.wrap (Int.tdiv t101 8))) (wrap64 (Int.tmod t101 8)) 0 (⟨#[]⟩ : ByteArray) = some (r1, r2)) ∧ Aside0 (kq ≤ kj7) ∧ Aside0 (Kd.R k50 50 wc w.heap.size (fun k_ => k_ ≠ gb104) u4 x4_1) ∧ Aside0 (wc.heap[gb104]? = some (.cells #[.int .i64 (wrap64 (IntKind.u64.wrap (Int.tdiv t101 8))), .int .i64 (wrap64 (Int.tmod t101 8)), .int .u64 0, .string (⟨#[]⟩ : ByteArray)] 50 (0, 0))) ∧ Aside0 (Below w.heap.size w wc))
                      case first =>
                        have H := HC19.out
                        clear HC19
                        by_cases c21 : (wrap64 (Int.tmod t101 8)) = 1
                        · rw [if_pos c21] at H
                          have c21b0 : ((wrap64 (Int.tmod t101 8)) == 1) = true := beq_iff_eq.mpr c21
                          have c21b1 : ((wrap64 (Int.tmod t101 8)) != 1) = false := bne_eq_false_iff_eq.mpr c21
                          clear c21
                          (first | rw [c21b0] | (simp only [i64_w, i32_w]; rw [c21b0]) | skip)
                          have H' := Aside0.mk H
                          clear H
                          go_wp2
                          go_meet
                          case rel => exact ⟨_, (8), (by first | rfl | (simp; done) | (simp [*]; done)), H', ⟨by have := HK1.out; have := HJ7.out; first | omega | exact Nat.le_refl _⟩, ⟨by (with_reducible repeat (first | apply Kd.R_alloc | apply Kd.R_drewN | apply Kd.R_drew)); exact Kd.R_mono (Kd.R_far (p := ⟨gb104, 0, none⟩) (Kd.R_mono HO_4.out (fun k_ hk => (⟨hk, hk⟩ : _ ∧ k_ ≠ gb104))) (fun _ hk => hk.2) (.int .i64 (wrap64 (IntKind.u64.wrap (Int.tdiv t101 8))))) (fun _ hk => hk.1)⟩, ⟨by (with_reducible repeat (first | refine blk_drewN ?_ _ | refine blk_drew ?_ | refine blk_alloc ?_ _)); refine blk_put (cs := #[.int .i64 0, .int .i64 (wrap64 (Int.tmod t101 8)), .int .u64 0, .string (⟨#[]⟩ : ByteArray)]) ?_ 0 _ rfl; (with_reducible repeat (first | refine blk_drewN ?_ _ | refine blk_drew ?_ | refine blk_alloc ?_ _)); exact BK104.out⟩, ⟨by repeat (first | (with_reducible first | exact HB.out | apply below_alloc | apply pw_below_drewN | apply below_drew1 | refine below_set ?_ GE104.out) | exact HB.out)⟩⟩
                        · rw [if_neg c21] at H
                          have c21b0 : ((wrap64 (Int.tmod t101 8)) == 1) = false := beq_eq_false_iff_ne.mpr c21
                          have c21b1 : ((wrap64 (Int.tmod t101 8)) != 1) = true := bne_iff_ne.mpr c21
                          (first | rw [c21b0] | (simp only [i64_w, i32_w]; rw [c21b0]) | skip)
                          have H' := Aside0.mk H
                          clear H
                          go_wp2
                          go_meet
                          case rel => exact ⟨_, (0), (by first | rfl | (simp; done) | (simp [*]; done)), H', ⟨by have := HK1.out; have := HJ7.out; first | omega | exact Nat.le_refl _⟩, ⟨by (with_reducible repeat (first | apply Kd.R_alloc | apply Kd.R_drewN | apply Kd.R_drew)); exact Kd.R_mono (Kd.R_far (p := ⟨gb104, 0, none⟩) (Kd.R_mono HO_4.out (fun k_ hk => (⟨hk, hk⟩ : _ ∧ k_ ≠ gb104))) (fun _ hk => hk.2) (.int .i64 (wrap64 (IntKind.u64.wrap (Int.tdiv t101 8))))) (fun _ hk => hk.1)⟩, ⟨by (with_reducible repeat (first | refine blk_drewN ?_ _ | refine blk_drew ?_ | refine blk_alloc ?_ _)); refine blk_put (cs := #[.int .i64 0, .int .i64 (wrap64 (Int.tmod t101 8)), .int .u64 0, .string (⟨#[]⟩ : ByteArray)]) ?_ 0 _ rfl; (with_reducible repeat (first | refine blk_drewN ?_ _ | refine blk_drew ?_ | refine blk_alloc ?_ _)); exact BK104.out⟩, ⟨by repeat (first | (with_reducible first | exact HB.out | apply below_alloc | apply pw_below_drewN | apply below_drew1 | refine below_set ?_ GE104.out) | exact HB.out)⟩⟩
                      case rest =>
                        clear HC19
                        try clear c1
                        try clear c2
                        try clear c2b0
                        try clear c2b1
                        try clear p2
                        try clear c3
                        try clear c3b0
                        try clear c4
                        try clear c4b0
                        try clear c4b1
                        try clear c5
                        try clear c5b0
                        try clear c5b1
                        try clear p6
                        try clear c7
                        try clear c7b0
                        try clear c7b1
                        try clear c11
                        try clear c11b0
                        try clear c11b1
                        try clear c12
                        try clear c12b0
                        try clear c13
                        try clear c13b0
                        try clear c13b1
                        try clear c14
                        try clear c15
                        try clear c15b0
                        try clear c15b1
                        try clear c18
                        try clear c21
                        try clear c21b0
                        try clear c21b1
                        try clear hcz10_0
                        try clear hcz10_1
                        try clear hcz10_2
                        try clear hcz10_3
                        try clear hcz14_0
                        try clear hcz14_1
                        try clear hcz14_2
                        try clear hcz14_3
                        try clear hcz16_0
                        try clear hcz16_1
                        try clear hcz16_2
                        try clear hcz16_3
                        try clear hcz17_0
                        try clear hcz17_1
                        try clear hcz17_2
                        try clear hcz17_3
                        try clear hcz20_0
                        try clear hcz20_1
                        try clear hcz20_2
                        try clear hcz20_3
                        try clear hfz10_0
                        try clear hfz10_1
                        try clear hfz10_2
                        try clear hfz10_3
                        try clear hfz14_0
                        try clear hfz14_1
                        try clear hfz14_2
                        try clear hfz14_3
                        try clear hfz16_0
                        try clear hfz16_1
                        try clear hfz16_2
                        try clear hfz16_3
                        try clear hfz17_0
                        try clear hfz17_1
                        try clear hfz17_2
                        try clear hfz17_3
                        try clear hfz20_0
                        try clear hfz20_1
                        try clear hfz20_2
                        try clear hfz20_3
                        try clear p2
                        try clear p6
                        obtain ⟨kq, x10_18, rfl, HA, HJ18, HO_4, BK104, HB⟩ := hcut
                        cases kq with
                        | zero => exact absurd HA.out (by simp [agateref02_Fields.j2])
                        | succ kj18 =>
                          have H := HA.out
                          clear HA
                          simp only [agateref02_Fields.j2] at H
                          have HC22 := Aside0.mk H
                          clear H
                          have hcz23_0 : wc.cell? ⟨gb104, 0, none⟩ = some (.int .i64 (wrap64 (IntKind.u64.wrap (Int.tdiv t101 8)))) := (blk_cell BK104.out 0).trans rfl
                          have hcz23_1 : wc.cell? ⟨gb104, 1, none⟩ = some (.int .i64 (wrap64 (Int.tmod t101 8))) := (blk_cell BK104.out 1).trans rfl
                          have hcz23_2 : wc.cell? ⟨gb104, 2, none⟩ = some (.int .u64 0) := (blk_cell BK104.out 2).trans rfl
                          have hcz23_3 : wc.cell? ⟨gb104, 3, none⟩ = some (.string (⟨#[]⟩ : ByteArray)) := (blk_cell BK104.out 3).trans rfl
                          have hfz23_0 := blk_frozen BK104.out 0
                          have hfz23_1 := blk_frozen BK104.out 1
                          have hfz23_2 := blk_frozen BK104.out 2
                          have hfz23_3 := blk_frozen BK104.out 3
                          go_upto_if 72 with (fail)
                          go_cut [10] (fun v10 wc => ∃ (kq : Nat) (x10_21 : Int), v10 = .int .u64 x10_21 ∧ Aside0 (agateref02_Fields.j3 kq a0 x4_1 (wrap64 (x5_1 + t102)) x10_21 (wrap64 (IntKind.u64.wrap (Int.tdiv t101 8))) (wrap64 (Int.tmod t101 8)) 0 (⟨#[]⟩ : ByteArray) = some (r1, r2)) ∧ Aside0 (kq ≤ kj18) ∧ Aside0 (Kd.R k50 50 wc w.heap.size (fun k_ => k_ ≠ gb104) u4 x4_1) ∧ Aside0 (wc.heap[gb104]? = some (.cells #[.int .i64 (wrap64 (IntKind.u64.wrap (Int.tdiv t101 8))), .int .i64 (wrap64 (Int.tmod t101 8)), .int .u64 0, .string (⟨#[]⟩ : ByteArray)] 50 (0, 0))) ∧ Aside0 (Below w.heap.size w wc))
                          case first =>
                            have H := HC22.out
                            clear HC22
                            by_cases c24 : (wrap64 (Int.tmod t101 8)) = 5
                            · rw [if_pos c24] at H
                              have c24b0 : ((wrap64 (Int.tmod t101 8)) == 5) = true := beq_iff_eq.mpr c24
                              have c24b1 : ((wrap64 (Int.tmod t101 8)) != 5) = false := bne_eq_false_iff_eq.mpr c24
                              clear c24
                              (first | rw [c24b0] | (simp only [i64_w, i32_w]; rw [c24b0]) | skip)
                              have H' := Aside0.mk H
                              clear H
                              go_wp2
                              go_meet
                              case rel => exact ⟨_, (4), (by first | rfl | (simp; done) | (simp [*]; done)), H', ⟨by have := HK1.out; have := HJ7.out; have := HJ18.out; first | omega | exact Nat.le_refl _⟩, ⟨by (with_reducible repeat (first | apply Kd.R_alloc | apply Kd.R_drewN | apply Kd.R_drew)); exact HO_4.out⟩, ⟨by (with_reducible repeat (first | refine blk_drewN ?_ _ | refine blk_drew ?_ | refine blk_alloc ?_ _)); exact BK104.out⟩, ⟨by repeat (first | (with_reducible first | exact HB.out | apply below_alloc | apply pw_below_drewN | apply below_drew1 | refine below_set ?_ GE104.out) | exact HB.out)⟩⟩
                            · rw [if_neg c24] at H
                              have c24b0 : ((wrap64 (Int.tmod t101 8)) == 5) = false := beq_eq_false_iff_ne.mpr c24
                              have c24b1 : ((wrap64 (Int.tmod t101 8)) != 5) = true := bne_iff_ne.mpr c24
                              (first | rw [c24b0] | (simp only [i64_w, i32_w]; rw [c24b0]) | skip)
                              have H' := Aside0.mk H
                              clear H
                              go_wp2
                              go_meet
                              case rel => exact ⟨_, (x10_18), (by first | rfl | (simp; done) | (simp [*]; done)), H', ⟨by have := HK1.out; have := HJ7.out; have := HJ18.out; first | omega | exact Nat.le_refl _⟩, ⟨by (with_reducible repeat (first | apply Kd.R_alloc | apply Kd.R_drewN | apply Kd.R_drew)); exact HO_4.out⟩, ⟨by (with_reducible repeat (first | refine blk_drewN ?_ _ | refine blk_drew ?_ | refine blk_alloc ?_ _)); exact BK104.out⟩, ⟨by repeat (first | (with_reducible first | exact HB.out | apply below_alloc | apply pw_below_drewN | apply below_drew1 | refine below_set ?_ GE104.out) | exact HB.out)⟩⟩
                          case rest =>
                            clear HC22
                            try clear c1
                            try clear c2
                            try clear c2b0
                            try clear c2b1
                            try clear p2
                            try clear c3
                            try clear c3b0
                            try clear c4
                            try clear c4b0
                            try clear c4b1
                            try clear c5
                            try clear c5b0
                            try clear c5b1
                            try clear p6
                            try clear c7
                            try clear c7b0
                            try clear c7b1
                            try clear c11
                            try clear c11b0
                            try clear c11b1
                            try clear c12
                            try clear c12b0
                            try clear c13
                            try clear c13b0
                            try clear c13b1
                            try clear c14
                            try clear c15
                            try clear c15b0
                            try clear c15b1
                            try clear c18
                            try clear c21
                            try clear c21b0
                            try clear c21b1
                            try clear c22
                            try clear c24
                            try clear c24b0
                            try clear c24b1
                            try clear hcz10_0
                            try clear hcz10_1
                            try clear hcz10_2
                            try clear hcz10_3
                            try clear hcz14_0
                            try clear hcz14_1
                            try clear hcz14_2
                            try clear hcz14_3
                            try clear hcz16_0
                            try clear hcz16_1
                            try clear hcz16_2
                            try clear hcz16_3
                            try clear hcz17_0
                            try clear hcz17_1
                            try clear hcz17_2
                            try clear hcz17_3
                            try clear hcz20_0
                            try clear hcz20_1
                            try clear hcz20_2
                            try clear hcz20_3
                            try clear hcz23_0
                            try clear hcz23_1
                            try clear hcz23_2
                            try clear hcz23_3
                            try clear hfz10_0
                            try clear hfz10_1
                            try clear hfz10_2
                            try clear hfz10_3
                            try clear hfz14_0
                            try clear hfz14_1
                            try clear hfz14_2
                            try clear hfz14_3
                            try clear hfz16_0
                            try clear hfz16_1
                            try clear hfz16_2
                            try clear hfz16_3
                            try clear hfz17_0
                            try clear hfz17_1
                            try clear hfz17_2
                            try clear hfz17_3
                            try clear hfz20_0
                            try clear hfz20_1
                            try clear hfz20_2
                            try clear hfz20_3
                            try clear hfz23_0
                            try clear hfz23_1
                            try clear hfz23_2
                            try clear hfz23_3
                            try clear p2
                            try clear p6
                            obtain ⟨kq, x10_21, rfl, HA, HJ21, HO_4, BK104, HB⟩ := hcut
                            cases kq with
                            | zero => exact absurd HA.out (by simp [agateref02_Fields.j3])
                            | succ kj21 =>
                              have H := HA.out
                              clear HA
                              simp only [agateref02_Fields.j3] at H
                              have HC25 := Aside0.mk H
                              clear H
                              go_upto_region 19 with (fail)
                              go_cut [80] (fun v80 wc => ∃ (kq : Nat) (x80_24 : Bool), v80 = .bool x80_24 ∧ Aside0 (agateref02_Fields.j4 kq a0 x4_1 (wrap64 (x5_1 + t102)) x10_21 x80_24 (wrap64 (IntKind.u64.wrap (Int.tdiv t101 8))) (wrap64 (Int.tmod t101 8)) 0 (⟨#[]⟩ : ByteArray) = some (r1, r2)) ∧ Aside0 (kq ≤ kj21) ∧ Aside0 (Kd.R k50 50 wc w.heap.size (fun k_ => k_ ≠ gb104) u4 x4_1) ∧ Aside0 (wc.heap[gb104]? = some (.cells #[.int .i64 (wrap64 (IntKind.u64.wrap (Int.tdiv t101 8))), .int .i64 (wrap64 (Int.tmod t101 8)), .int .u64 0, .string (⟨#[]⟩ : ByteArray)] 50 (0, 0))) ∧ Aside0 (Below w.heap.size w wc))
                              case first =>
                                have H := HC25.out
                                clear HC25
                                by_cases c26 : (wrap64 (Int.tmod t101 8)) = 0
                                · rw [if_pos c26] at H
                                  have c26b0 : ((wrap64 (Int.tmod t101 8)) == 0) = true := beq_iff_eq.mpr c26
                                  have c26b1 : ((wrap64 (Int.tmod t101 8)) != 0) = false := bne_eq_false_iff_eq.mpr c26
                                  clear c26
                                  (first | rw [c26b0] | (simp only [i64_w, i32_w]; rw [c26b0]) | skip)
                                  have H' := Aside0.mk H
                                  clear H
                                  have hcz27_0 : wc.cell? ⟨gb104, 0, none⟩ = some (.int .i64 (wrap64 (IntKind.u64.wrap (Int.tdiv t101 8)))) := (blk_cell BK104.out 0).trans rfl
                                  have hcz27_1 : wc.cell? ⟨gb104, 1, none⟩ = some (.int .i64 (wrap64 (Int.tmod t101 8))) := (blk_cell BK104.out 1).trans rfl
                                  have hcz27_2 : wc.cell? ⟨gb104, 2, none⟩ = some (.int .u64 0) := (blk_cell BK104.out 2).trans rfl
                                  have hcz27_3 : wc.cell? ⟨gb104, 3, none⟩ = some (.string (⟨#[]⟩ : ByteArray)) := (blk_cell BK104.out 3).trans rfl
                                  have hfz27_0 := blk_frozen BK104.out 0
                                  have hfz27_1 := blk_frozen BK104.out 1
                                  have hfz27_2 := blk_frozen BK104.out 2
                                  have hfz27_3 := blk_frozen BK104.out 3
                                  go_wp2
                                  go_meet
                                  case rel => exact ⟨_, (true), (by first | rfl | (simp; done) | (simp [*]; done)), H', ⟨by have := HK1.out; have := HJ7.out; have := HJ18.out; have := HJ21.out; first | omega | exact Nat.le_refl _⟩, ⟨by (with_reducible repeat (first | apply Kd.R_alloc | apply Kd.R_drewN | apply Kd.R_drew)); exact HO_4.out⟩, ⟨by (with_reducible repeat (first | refine blk_drewN ?_ _ | refine blk_drew ?_ | refine blk_alloc ?_ _)); exact BK104.out⟩, ⟨by repeat (first | (with_reducible first | exact HB.out | apply below_alloc | apply pw_below_drewN | apply below_drew1 | refine below_set ?_ GE104.out) | exact HB.out)⟩⟩
                                · rw [if_neg c26] at H
                                  have c26b0 : ((wrap64 (Int.tmod t101 8)) == 0) = false := beq_eq_false_iff_ne.mpr c26
                                  have c26b1 : ((wrap64 (Int.tmod t101 8)) != 0) = true := bne_iff_ne.mpr c26
                                  (first | rw [c26b0] | (simp only [i64_w, i32_w]; rw [c26b0]) | skip)
                                  have H' := Aside0.mk H
                                  clear H
                                  have hcz28_0 : wc.cell? ⟨gb104, 0, none⟩ = some (.int .i64 (wrap64 (IntKind.u64.wrap (Int.tdiv t101 8)))) := (blk_cell BK104.out 0).trans rfl
                                  have hcz28_1 : wc.cell? ⟨gb104, 1, none⟩ = some (.int .i64 (wrap64 (Int.tmod t101 8))) := (blk_cell BK104.out 1).trans rfl
                                  have hcz28_2 : wc.cell? ⟨gb104, 2, none⟩ = some (.int .u64 0) := (blk_cell BK104.out 2).trans rfl
                                  have hcz28_3 : wc.cell? ⟨gb104, 3, none⟩ = some (.string (⟨#[]⟩ : ByteArray)) := (blk_cell BK104.out 3).trans rfl
                                  have hfz28_0 := blk_frozen BK104.out 0
                                  have hfz28_1 := blk_frozen BK104.out 1
                                  have hfz28_2 := blk_frozen BK104.out 2
                                  have hfz28_3 := blk_frozen BK104.out 3
                                  go_wp2
                                  go_meet
                                  case rel => exact ⟨_, (((wrap64 (Int.tmod t101 8)) == 2)), (by first | rfl | (simp; done) | (simp [*]; done)), H', ⟨by have := HK1.out; have := HJ7.out; have := HJ18.out; have := HJ21.out; first | omega | exact Nat.le_refl _⟩, ⟨by (with_reducible repeat (first | apply Kd.R_alloc | apply Kd.R_drewN | apply Kd.R_drew)); exact HO_4.out⟩, ⟨by (with_reducible repeat (first | refine blk_drewN ?_ _ | refine blk_drew ?_ | refine blk_alloc ?_ _)); exact BK104.out⟩, ⟨by repeat (first | (with_reducible first | exact HB.out | apply below_alloc | apply pw_below_drewN | apply below_drew1 | refine below_set ?_ GE104.out) | exact HB.out)⟩⟩
                              case rest =>
                                clear HC25
                                try clear c1
                                try clear c2
                                try clear c2b0
                                try clear c2b1
                                try clear p2
                                try clear c3
                                try clear c3b0
                                try clear c4
                                try clear c4b0
                                try clear c4b1
                                try clear c5
                                try clear c5b0
                                try clear c5b1
                                try clear p6
                                try clear c7
                                try clear c7b0
                                try clear c7b1
                                try clear c11
                                try clear c11b0
                                try clear c11b1
                                try clear c12
                                try clear c12b0
                                try clear c13
                                try clear c13b0
                                try clear c13b1
                                try clear c14
                                try clear c15
                                try clear c15b0
                                try clear c15b1
                                try clear c18
                                try clear c21
                                try clear c21b0
                                try clear c21b1
                                try clear c22
                                try clear c24
                                try clear c24b0
                                try clear c24b1
                                try clear c26
                                try clear c26b0
                                try clear c26b1
                                try clear hcz10_0
                                try clear hcz10_1
                                try clear hcz10_2
                                try clear hcz10_3
                                try clear hcz14_0
                                try clear hcz14_1
                                try clear hcz14_2
                                try clear hcz14_3
                                try clear hcz16_0
                                try clear hcz16_1
                                try clear hcz16_2
                                try clear hcz16_3
                                try clear hcz17_0
                                try clear hcz17_1
                                try clear hcz17_2
                                try clear hcz17_3
                                try clear hcz20_0
                                try clear hcz20_1
                                try clear hcz20_2
                                try clear hcz20_3
                                try clear hcz23_0
                                try clear hcz23_1
                                try clear hcz23_2
                                try clear hcz23_3
                                try clear hcz27_0
                                try clear hcz27_1
                                try clear hcz27_2
                                try clear hcz27_3
                                try clear hcz28_0
                                try clear hcz28_1
                                try clear hcz28_2
                                try clear hcz28_3
                                try clear hfz10_0
                                try clear hfz10_1
                                try clear hfz10_2
                                try clear hfz10_3
                                try clear hfz14_0
                                try clear hfz14_1
                                try clear hfz14_2
                                try clear hfz14_3
                                try clear hfz16_0
                                try clear hfz16_1
                                try clear hfz16_2
                                try clear hfz16_3
                                try clear hfz17_0
                                try clear hfz17_1
                                try clear hfz17_2
                                try clear hfz17_3
                                try clear hfz20_0
                                try clear hfz20_1
                                try clear hfz20_2
                                try clear hfz20_3
                                try clear hfz23_0
                                try clear hfz23_1
                                try clear hfz23_2
                                try clear hfz23_3
                                try clear hfz27_0
                                try clear hfz27_1
                                try clear hfz27_2
                                try clear hfz27_3
                                try clear hfz28_0
                                try clear hfz28_1
                                try clear hfz28_2
                                try clear hfz28_3
                                try clear p2
                                try clear p6
                                obtain ⟨kq, x80_24, rfl, HA, HJ24, HO_4, BK104, HB⟩ := hcut
                                cases kq with
                                | zero => exact absurd HA.out (by simp [agateref02_Fields.j4])
                                | succ kj24 =>
                                  have H := HA.out
                                  clear HA
                                  simp only [agateref02_Fields.j4] at H
                                  have HC29 := Aside0.mk H
                                  clear H
                                  go_upto_if 80 with (fail)
                                  go_cut [5, 10] (fun v5 v10 wc => ∃ (kq : Nat) (x5_28 : Int) (x10_28 : Int) (x105002_28 : Int), v5 = .int .i64 x5_28 ∧ v10 = .int .u64 x10_28 ∧ Aside0 (agateref02_Fields.j5 kq a0 x4_1 x5_28 x10_28 (wrap64 (IntKind.u64.wrap (Int.tdiv t101 8))) (wrap64 (Int.tmod t101 8)) x105002_28 (⟨#[]⟩ : ByteArray) = some (r1, r2)) ∧ Aside0 (kq ≤ kj24) ∧ Aside0 (Kd.R k50 50 wc w.heap.size (fun k_ => k_ ≠ gb104) u4 x4_1) ∧ Aside0 (wc.heap[gb104]? = some (.cells #[.int .i64 (wrap64 (IntKind.u64.wrap (Int.tdiv t101 8))), .int .i64 (wrap64 (Int.tmod t101 8)), .int .u64 x105002_28, .string (⟨#[]⟩ : ByteArray)] 50 (0, 0))) ∧ Aside0 (Below w.heap.size w wc))
                                  case first =>
                                    have H := HC29.out
                                    clear HC29
                                    by_cases c30 : x80_24 = true
                                    · subst c30
                                      have H1 : (if 0 ≤ (wrap64 (x5_1 + t102)) then (if (wrap64 (x5_1 + t102)) ≤ (a0.size : Int) then ((agateref01_Read_s.f (a0.extract ((wrap64 (x5_1 + t102)) : Int).toNat a0.size)).bind fun bt105 => (if bt105.2.2 = 0 then (if (wrap64 (Int.tmod t101 8)) = 0 then (agateref02_Fields.j5 kj24 a0 x4_1 (wrap64 ((wrap64 (x5_1 + t102)) + bt105.2.1)) x10_21 (wrap64 (IntKind.u64.wrap (Int.tdiv t101 8))) (wrap64 (Int.tmod t101 8)) bt105.1 (⟨#[]⟩ : ByteArray)) else (agateref02_Fields.j5 kj24 a0 x4_1 (wrap64 ((wrap64 (x5_1 + t102)) + bt105.2.1)) bt105.1 (wrap64 (IntKind.u64.wrap (Int.tdiv t101 8))) (wrap64 (Int.tmod t101 8)) 0 (⟨#[]⟩ : ByteArray))) else (some (([] : List (S50)), bt105.2.2)))) else (none)) else (none)) = some (r1, r2) := by rw [if_pos rfl] at H; exact H
                                      clear H
                                      have H := H1
                                      clear H1
                                      obtain ⟨ji31, hji31⟩ : ∃ j_ : Int, (wrap64 (x5_1 + t102)) = j_ := ⟨_, rfl⟩
                                      replace H : (if 0 ≤ (ji31) then (if (ji31) ≤ (a0.size : Int) then ((agateref01_Read_s.f (a0.extract ((ji31) : Int).toNat a0.size)).bind fun bt105 => (if bt105.2.2 = 0 then (if (wrap64 (Int.tmod t101 8)) = 0 then (agateref02_Fields.j5 kj24 a0 x4_1 (wrap64 ((ji31) + bt105.2.1)) x10_21 (wrap64 (IntKind.u64.wrap (Int.tdiv t101 8))) (wrap64 (Int.tmod t101 8)) bt105.1 (⟨#[]⟩ : ByteArray)) else (agateref02_Fields.j5 kj24 a0 x4_1 (wrap64 ((ji31) + bt105.2.1)) bt105.1 (wrap64 (IntKind.u64.wrap (Int.tdiv t101 8))) (wrap64 (Int.tmod t101 8)) 0 (⟨#[]⟩ : ByteArray))) else (some (([] : List (S50)), bt105.2.2)))) else (none)) else (none)) = some (r1, r2) := by first | (rw [hji31] at H; exact H) | (simp only [hji31] at H ⊢; exact H)
                                      have hji31w : (IntKind.i64.wrap (x5_1 + t102)) = ji31 := (i64_w _).trans hji31
                                      by_cases c32 : 0 ≤ (ji31)
                                      · rw [if_pos c32] at H
                                        have c32b0 := eq_true c32
                                        have c32b1 : decide (0 ≤ (ji31)) = true := decide_eq_true c32
                                        clear c32
                                        by_cases c33 : (ji31) ≤ (a0.size : Int)
                                        · rw [if_pos c33] at H
                                          have c33b0 := eq_true c33
                                          have c33b1 : decide ((ji31) ≤ (a0.size : Int)) = true := decide_eq_true c33
                                          clear c33
                                          replace H := Option.bind_eq_some_iff.mp H
                                          obtain ⟨⟨t105, t106, t107⟩, A340, H⟩ := H
                                          replace H : (if t107 = 0 then (if (wrap64 (Int.tmod t101 8)) = 0 then (agateref02_Fields.j5 kj24 a0 x4_1 (wrap64 ((ji31) + t106)) x10_21 (wrap64 (IntKind.u64.wrap (Int.tdiv t101 8))) (wrap64 (Int.tmod t101 8)) t105 (⟨#[]⟩ : ByteArray)) else (agateref02_Fields.j5 kj24 a0 x4_1 (wrap64 ((ji31) + t106)) t105 (wrap64 (IntKind.u64.wrap (Int.tdiv t101 8))) (wrap64 (Int.tmod t101 8)) 0 (⟨#[]⟩ : ByteArray))) else (some (([] : List (S50)), t107))) = some (r1, r2) := H
                                          have A34 := Aside0.mk A340
                                          clear A340
                                          by_cases c35 : t107 = 0
                                          · rw [if_pos c35] at H
                                            have c35b0 : (t107 == 0) = true := beq_iff_eq.mpr c35
                                            have c35b1 : (t107 != 0) = false := bne_eq_false_iff_eq.mpr c35
                                            clear c35
                                            (first | rw [c35b0] | (simp only [i64_w, i32_w]; rw [c35b0]) | skip)
                                            by_cases c36 : (wrap64 (Int.tmod t101 8)) = 0
                                            · rw [if_pos c36] at H
                                              have c36b0 : ((wrap64 (Int.tmod t101 8)) == 0) = true := beq_iff_eq.mpr c36
                                              have c36b1 : ((wrap64 (Int.tmod t101 8)) != 0) = false := bne_eq_false_iff_eq.mpr c36
                                              clear c36
                                              have H' := Aside0.mk H
                                              clear H
                                              go_wp2_with (first | ((with_reducible refine gate_callee (f := 14) rfl ?_); refine goesL_ (some 85) rfl rfl Try.func14 (by kernel_rfl) rfl #[.string (a0.extract ((ji31) : Int).toNat a0.size)] rfl (by (try simp only [List.map_toArray, List.map_cons, List.map_nil]); first | done | (simp only [hji31]; rfl) | rfl | (simp only [List.length_drop, List.length_take]; rfl)) ?_; (with_reducible refine (agateref01_Read_s.calls (a0.extract ((ji31) : Int).toNat a0.size) t105 t106 t107 _ A34.out).mono ?_); rintro e w' ⟨rfl, ⟨nd, rfl⟩⟩; refine ⟨_, rfl, ?_⟩; (try (rw [drewN_self wc]; generalize hq_ : World.drewN wc _ = wc; have n0_ : Aside0 (Kd.R k50 50 wc w.heap.size (fun k_ => k_ ≠ gb104) u4 x4_1) := ⟨by rw [← hq_]; exact (by (with_reducible repeat (first | apply Kd.R_alloc | apply Kd.R_drewN | apply Kd.R_drew)); exact HO_4.out)⟩; have n1_ : Aside0 (wc.heap[gb104]? = some (.cells #[.int .i64 (wrap64 (IntKind.u64.wrap (Int.tdiv t101 8))), .int .i64 (wrap64 (Int.tmod t101 8)), .int .u64 0, .string (⟨#[]⟩ : ByteArray)] 50 (0, 0))) := ⟨by rw [← hq_]; exact (by (with_reducible repeat (first | refine blk_drewN ?_ _ | refine blk_drew ?_ | refine blk_alloc ?_ _)); exact BK104.out)⟩; have n2_ : Aside0 (Below w.heap.size w wc) := ⟨by rw [← hq_]; exact (by repeat (first | (with_reducible first | exact HB.out | apply below_alloc | apply pw_below_drewN | apply below_drew1 | refine below_set ?_ GE104.out) | exact HB.out))⟩; clear HO_4 BK104 HB hq_; have HO_4 := n0_; have BK104 := n1_; have HB := n2_; clear n0_ n1_ n2_)); have hcz37_0 : wc.cell? ⟨gb104, 0, none⟩ = some (.int .i64 (wrap64 (IntKind.u64.wrap (Int.tdiv t101 8)))) := (blk_cell BK104.out 0).trans rfl; have hcz37_1 : wc.cell? ⟨gb104, 1, none⟩ = some (.int .i64 (wrap64 (Int.tmod t101 8))) := (blk_cell BK104.out 1).trans rfl; have hcz37_2 : wc.cell? ⟨gb104, 2, none⟩ = some (.int .u64 0) := (blk_cell BK104.out 2).trans rfl; have hcz37_3 : wc.cell? ⟨gb104, 3, none⟩ = some (.string (⟨#[]⟩ : ByteArray)) := (blk_cell BK104.out 3).trans rfl; have hfz37_0 := blk_frozen BK104.out 0; have hfz37_1 := blk_frozen BK104.out 1; have hfz37_2 := blk_frozen BK104.out 2; have hfz37_3 := blk_frozen BK104.out 3))
                                              go_meet
                                              case rel => exact ⟨_, (wrap64 ((ji31) + t106)), (x10_21), (t105), (by first | rfl | (simp; done) | (simp only [← hji31] <;> (first | rfl | simp)) | (simp [*]; done)), (by first | rfl | (simp; done) | (simp [*]; done)), H', ⟨by have := HK1.out; have := HJ7.out; have := HJ18.out; have := HJ21.out; have := HJ24.out; first | omega | exact Nat.le_refl _⟩, ⟨by (with_reducible repeat (first | apply Kd.R_alloc | apply Kd.R_drewN | apply Kd.R_drew)); exact Kd.R_mono (Kd.R_far (p := ⟨gb104, 2, none⟩) (Kd.R_mono HO_4.out (fun k_ hk => (⟨hk, hk⟩ : _ ∧ k_ ≠ gb104))) (fun _ hk => hk.2) (.int .u64 t105)) (fun _ hk => hk.1)⟩, ⟨by (with_reducible repeat (first | refine blk_drewN ?_ _ | refine blk_drew ?_ | refine blk_alloc ?_ _)); refine blk_put (cs := #[.int .i64 (wrap64 (IntKind.u64.wrap (Int.tdiv t101 8))), .int .i64 (wrap64 (Int.tmod t101 8)), .int .u64 0, .string (⟨#[]⟩ : ByteArray)]) ?_ 2 _ rfl; (with_reducible repeat (first | refine blk_drewN ?_ _ | refine blk_drew ?_ | refine blk_alloc ?_ _)); exact BK104.out⟩, ⟨by repeat (first | (with_reducible first | exact HB.out | apply below_alloc | apply pw_below_drewN | apply below_drew1 | refine below_set ?_ GE104.out) | exact HB.out)⟩⟩
                                            · rw [if_neg c36] at H
                                              have c36b0 : ((wrap64 (Int.tmod t101 8)) == 0) = false := beq_eq_false_iff_ne.mpr c36
                                              have c36b1 : ((wrap64 (Int.tmod t101 8)) != 0) = true := bne_iff_ne.mpr c36
                                              have H' := Aside0.mk H
                                              clear H
                                              go_wp2_with (first | ((with_reducible refine gate_callee (f := 14) rfl ?_); refine goesL_ (some 85) rfl rfl Try.func14 (by kernel_rfl) rfl #[.string (a0.extract ((ji31) : Int).toNat a0.size)] rfl (by (try simp only [List.map_toArray, List.map_cons, List.map_nil]); first | done | (simp only [hji31]; rfl) | rfl | (simp only [List.length_drop, List.length_take]; rfl)) ?_; (with_reducible refine (agateref01_Read_s.calls (a0.extract ((ji31) : Int).toNat a0.size) t105 t106 t107 _ A34.out).mono ?_); rintro e w' ⟨rfl, ⟨nd, rfl⟩⟩; refine ⟨_, rfl, ?_⟩; have hcz38_0 : wc.cell? ⟨gb104, 0, none⟩ = some (.int .i64 (wrap64 (IntKind.u64.wrap (Int.tdiv t101 8)))) := (blk_cell BK104.out 0).trans rfl; have hcz38_1 : wc.cell? ⟨gb104, 1, none⟩ = some (.int .i64 (wrap64 (Int.tmod t101 8))) := (blk_cell BK104.out 1).trans rfl; have hcz38_2 : wc.cell? ⟨gb104, 2, none⟩ = some (.int .u64 0) := (blk_cell BK104.out 2).trans rfl; have hcz38_3 : wc.cell? ⟨gb104, 3, none⟩ = some (.string (⟨#[]⟩ : ByteArray)) := (blk_cell BK104.out 3).trans rfl; have hfz38_0 := blk_frozen BK104.out 0; have hfz38_1 := blk_frozen BK104.out 1; have hfz38_2 := blk_frozen BK104.out 2; have hfz38_3 := blk_frozen BK104.out 3))
                                              go_meet
                                              case rel => exact ⟨_, (wrap64 ((ji31) + t106)), (t105), (0), (by first | rfl | (simp; done) | (simp only [← hji31] <;> (first | rfl | simp)) | (simp [*]; done)), (by first | rfl | (simp; done) | (simp [*]; done)), H', ⟨by have := HK1.out; have := HJ7.out; have := HJ18.out; have := HJ21.out; have := HJ24.out; first | omega | exact Nat.le_refl _⟩, ⟨by (with_reducible repeat (first | apply Kd.R_alloc | apply Kd.R_drewN | apply Kd.R_drew)); exact HO_4.out⟩, ⟨by (with_reducible repeat (first | refine blk_drewN ?_ _ | refine blk_drew ?_ | refine blk_alloc ?_ _)); exact BK104.out⟩, ⟨by repeat (first | (with_reducible first | exact HB.out | apply below_alloc | apply pw_below_drewN | apply below_drew1 | refine below_set ?_ GE104.out) | exact HB.out)⟩⟩
                                          · rw [if_neg c35] at H
                                            have c35b0 : (t107 == 0) = false := beq_eq_false_iff_ne.mpr c35
                                            have c35b1 : (t107 != 0) = true := bne_iff_ne.mpr c35
                                            (first | rw [c35b0] | (simp only [i64_w, i32_w]; rw [c35b0]) | skip)
                                            simp only [Option.some.injEq, Prod.mk.injEq] at H
                                            obtain ⟨rfl, rfl⟩ := H
                                            go_wp2_with (first | ((with_reducible refine gate_callee (f := 14) rfl ?_); refine goesL_ (some 85) rfl rfl Try.func14 (by kernel_rfl) rfl #[.string (a0.extract ((ji31) : Int).toNat a0.size)] rfl (by (try simp only [List.map_toArray, List.map_cons, List.map_nil]); first | done | (simp only [hji31]; rfl) | rfl | (simp only [List.length_drop, List.length_take]; rfl)) ?_; (with_reducible refine (agateref01_Read_s.calls (a0.extract ((ji31) : Int).toNat a0.size) t105 t106 t107 _ A34.out).mono ?_); rintro e w' ⟨rfl, ⟨nd, rfl⟩⟩; refine ⟨_, rfl, ?_⟩))
                                            go_ret2
                                            exact ⟨_, by first | rfl | (simp [errW_none, errW_some] <;> rfl) | (simp only [← hji31]; first | rfl | (simp [errW_none, errW_some] <;> rfl)) | (simp [*, errW_none, errW_some] <;> rfl), by first | exact Kd.R_nil _ _ _ _ _ | exact Kd.N_nil _ _ _ _ _ | exact Kd.V_nil _ _ _ _ _ | exact Kd.Q_nil _ _ _ _ _ | exact Kd.S_nil _ _ _ _ _, by repeat (first | (with_reducible first | exact HB.out | apply below_alloc | apply pw_below_drewN | apply below_drew1 | refine below_set ?_ GE104.out) | exact HB.out)⟩
                                        · rw [if_neg c33] at H
                                          exact absurd H (by simp)
                                      · rw [if_neg c32] at H
                                        exact absurd H (by simp)
                                    · replace c30 := Bool.eq_false_iff.mpr c30
                                      subst c30
                                      have H1 : (agateref02_Fields.j5 kj24 a0 x4_1 (wrap64 (x5_1 + t102)) x10_21 (wrap64 (IntKind.u64.wrap (Int.tdiv t101 8))) (wrap64 (Int.tmod t101 8)) 0 (⟨#[]⟩ : ByteArray)) = some (r1, r2) := by rw [if_neg (show ¬ (false = true) by decide)] at H; exact H
                                      clear H
                                      have H := H1
                                      clear H1
                                      have H' := Aside0.mk H
                                      clear H
                                      go_wp2
                                      go_meet
                                      case rel => exact ⟨_, ((wrap64 (x5_1 + t102))), (x10_21), (0), (by first | rfl | (simp; done) | (simp [*]; done)), (by first | rfl | (simp; done) | (simp [*]; done)), H', ⟨by have := HK1.out; have := HJ7.out; have := HJ18.out; have := HJ21.out; have := HJ24.out; first | omega | exact Nat.le_refl _⟩, ⟨by (with_reducible repeat (first | apply Kd.R_alloc | apply Kd.R_drewN | apply Kd.R_drew)); exact HO_4.out⟩, ⟨by (with_reducible repeat (first | refine blk_drewN ?_ _ | refine blk_drew ?_ | refine blk_alloc ?_ _)); exact BK104.out⟩, ⟨by repeat (first | (with_reducible first | exact HB.out | apply below_alloc | apply pw_below_drewN | apply below_drew1 | refine below_set ?_ GE104.out) | exact HB.out)⟩⟩
                                  case rest =>
                                    clear HC29
                                    try clear c1
                                    try clear c2
                                    try clear c2b0
                                    try clear c2b1
                                    try clear p2
                                    try clear c3
                                    try clear c3b0
                                    try clear c4
                                    try clear c4b0
                                    try clear c4b1
                                    try clear c5
                                    try clear c5b0
                                    try clear c5b1
                                    try clear p6
                                    try clear c7
                                    try clear c7b0
                                    try clear c7b1
                                    try clear c11
                                    try clear c11b0
                                    try clear c11b1
                                    try clear c12
                                    try clear c12b0
                                    try clear c13
                                    try clear c13b0
                                    try clear c13b1
                                    try clear c14
                                    try clear c15
                                    try clear c15b0
                                    try clear c15b1
                                    try clear c18
                                    try clear c21
                                    try clear c21b0
                                    try clear c21b1
                                    try clear c22
                                    try clear c24
                                    try clear c24b0
                                    try clear c24b1
                                    try clear c26
                                    try clear c26b0
                                    try clear c26b1
                                    try clear c30
                                    try clear c32
                                    try clear c32b0
                                    try clear c32b1
                                    try clear c33
                                    try clear c33b0
                                    try clear c33b1
                                    try clear c35
                                    try clear c35b0
                                    try clear c35b1
                                    try clear c36
                                    try clear c36b0
                                    try clear c36b1
                                    try clear hcz10_0
                                    try clear hcz10_1
                                    try clear hcz10_2
                                    try clear hcz10_3
                                    try clear hcz14_0
                                    try clear hcz14_1
                                    try clear hcz14_2
                                    try clear hcz14_3
                                    try clear hcz16_0
                                    try clear hcz16_1
                                    try clear hcz16_2
                                    try clear hcz16_3
                                    try clear hcz17_0
                                    try clear hcz17_1
                                    try clear hcz17_2
                                    try clear hcz17_3
                                    try clear hcz20_0
                                    try clear hcz20_1
                                    try clear hcz20_2
                                    try clear hcz20_3
                                    try clear hcz23_0
                                    try clear hcz23_1
                                    try clear hcz23_2
                                    try clear hcz23_3
                                    try clear hcz27_0
                                    try clear hcz27_1
                                    try clear hcz27_2
                                    try clear hcz27_3
                                    try clear hcz28_0
                                    try clear hcz28_1
                                    try clear hcz28_2
                                    try clear hcz28_3
                                    try clear hcz37_0
                                    try clear hcz37_1
                                    try clear hcz37_2
                                    try clear hcz37_3
                                    try clear hcz38_0
                                    try clear hcz38_1
                                    try clear hcz38_2
                                    try clear hcz38_3
                                    try clear hfz10_0
                                    try clear hfz10_1
                                    try clear hfz10_2
                                    try clear hfz10_3
                                    try clear hfz14_0
                                    try clear hfz14_1
                                    try clear hfz14_2
                                    try clear hfz14_3
                                    try clear hfz16_0
                                    try clear hfz16_1
                                    try clear hfz16_2
                                    try clear hfz16_3
                                    try clear hfz17_0
                                    try clear hfz17_1
                                    try clear hfz17_2
                                    try clear hfz17_3
                                    try clear hfz20_0
                                    try clear hfz20_1
                                    try clear hfz20_2
                                    try clear hfz20_3
                                    try clear hfz23_0
                                    try clear hfz23_1
                                    try clear hfz23_2
                                    try clear hfz23_3
                                    try clear hfz27_0
                                    try clear hfz27_1
                                    try clear hfz27_2
                                    try clear hfz27_3
                                    try clear hfz28_0
                                    try clear hfz28_1
                                    try clear hfz28_2
                                    try clear hfz28_3
                                    try clear hfz37_0
                                    try clear hfz37_1
                                    try clear hfz37_2
                                    try clear hfz37_3
                                    try clear hfz38_0
                                    try clear hfz38_1
                                    try clear hfz38_2
                                    try clear hfz38_3
                                    try clear p2
                                    try clear p6
                                    obtain ⟨kq, x5_28, x10_28, x105002_28, rfl, rfl, HA, HJ28, HO_4, BK104, HB⟩ := hcut
                                    cases kq with
                                    | zero => exact absurd HA.out (by simp [agateref02_Fields.j5])
                                    | succ kj28 =>
                                      have H := HA.out
                                      clear HA
                                      simp only [agateref02_Fields.j5] at H
                                      by_cases c39 : x10_28 > (IntKind.u64.wrap (wrap64 ((a0.size : Int) - x5_28)))
                                      · rw [if_pos c39] at H
                                        have c39b0 : decide ((IntKind.u64.wrap (wrap64 ((a0.size : Int) - x5_28))) < x10_28) = true := decide_eq_true c39
                                        clear c39
                                        simp only [Option.some.injEq, Prod.mk.injEq] at H
                                        obtain ⟨rfl, rfl⟩ := H
                                        go_wp2
                                        go_ret2
                                        exact ⟨_, by first | rfl | (simp [errW_none, errW_some] <;> rfl) | (simp [*, errW_none, errW_some] <;> rfl), by first | exact Kd.R_nil _ _ _ _ _ | exact Kd.N_nil _ _ _ _ _ | exact Kd.V_nil _ _ _ _ _ | exact Kd.Q_nil _ _ _ _ _ | exact Kd.S_nil _ _ _ _ _, by repeat (first | (with_reducible first | exact HB.out | apply below_alloc | apply pw_below_drewN | apply below_drew1 | refine below_set ?_ GE104.out) | exact HB.out)⟩
                                      · rw [if_neg c39] at H
                                        have c39b0 : decide ((IntKind.u64.wrap (wrap64 ((a0.size : Int) - x5_28))) < x10_28) = false := decide_eq_false c39
                                        clear c39
                                        by_cases c40 : 0 ≤ x5_28
                                        · rw [if_pos c40] at H
                                          have c40b0 := eq_true c40
                                          have c40b1 : decide (0 ≤ x5_28) = true := decide_eq_true c40
                                          clear c40
                                          by_cases c41 : x5_28 ≤ (wrap64 (x5_28 + (wrap64 (x10_28))))
                                          · rw [if_pos c41] at H
                                            have c41b0 := eq_true c41
                                            have c41b1 : decide (x5_28 ≤ (wrap64 (x5_28 + (wrap64 (x10_28))))) = true := decide_eq_true c41
                                            by_cases c42 : (wrap64 (x5_28 + (wrap64 (x10_28)))) ≤ (a0.size : Int)
                                            · rw [if_pos c42] at H
                                              have c42b0 := eq_true c42
                                              have c42b1 : decide ((wrap64 (x5_28 + (wrap64 (x10_28)))) ≤ (a0.size : Int)) = true := decide_eq_true c42
                                              by_cases c43 : (wrap64 (Int.tmod t101 8)) = 2
                                              · rw [if_pos c43] at H
                                                have c43b0 : ((wrap64 (Int.tmod t101 8)) == 2) = true := beq_iff_eq.mpr c43
                                                have c43b1 : ((wrap64 (Int.tmod t101 8)) != 2) = false := bne_eq_false_iff_eq.mpr c43
                                                clear c43
                                                by_cases c44 : x4_1.length < 3518437208883
                                                · rw [if_pos c44] at H
                                                  have LMc44 := Aside0.mk c44
                                                  clear c44
                                                  obtain ⟨y108, hy108⟩ : ∃ y_ : List (S50), y_ = (x4_1 ++ [(⟨(wrap64 (IntKind.u64.wrap (Int.tdiv t101 8))), (wrap64 (Int.tmod t101 8)), x105002_28, a0.extract (x5_28 : Int).toNat ((wrap64 (x5_28 + (wrap64 (x10_28)))) : Int).toNat⟩ : S50)]) := ⟨_, rfl⟩
                                                  replace H : (agateref02_Fields.l0 kj28 a0 y108 (wrap64 (x5_28 + (wrap64 (x10_28))))) = some (r1, r2) := by first | (rw [hy108]; with_reducible exact H) | (have H2_ := (Option.bind_some _ _).symm.trans H; rw [hy108]; with_reducible exact H2_) | (have H2_ := (Option.bind_some _ _).symm.trans H; with_reducible exact H2_) | with_reducible exact H | (rw [hy108]; exact H) | exact H
                                                  have Ny108 := Aside0.mk hy108
                                                  clear hy108
                                                  have H' := Aside0.mk H
                                                  clear H
                                                  have hcz45_0 : wc.cell? ⟨gb104, 0, none⟩ = some (.int .i64 (wrap64 (IntKind.u64.wrap (Int.tdiv t101 8)))) := (blk_cell BK104.out 0).trans rfl
                                                  have hcz45_1 : wc.cell? ⟨gb104, 1, none⟩ = some (.int .i64 (wrap64 (Int.tmod t101 8))) := (blk_cell BK104.out 1).trans rfl
                                                  have hcz45_2 : wc.cell? ⟨gb104, 2, none⟩ = some (.int .u64 x105002_28) := (blk_cell BK104.out 2).trans rfl
                                                  have hcz45_3 : wc.cell? ⟨gb104, 3, none⟩ = some (.string (⟨#[]⟩ : ByteArray)) := (blk_cell BK104.out 3).trans rfl
                                                  have hfz45_0 := blk_frozen BK104.out 0
                                                  have hfz45_1 := blk_frozen BK104.out 1
                                                  have hfz45_2 := blk_frozen BK104.out 2
                                                  have hfz45_3 := blk_frozen BK104.out 3
                                                  go_wp2_with (first | ((with_reducible refine gate_builtin (b := .append) (xs := #[.tmp 130, .tmp 132]) rfl ?_); at_builtin; refine Kd.R_append k50 (w0 := w) w.heap.size rfl (.tmp 130) (.tmp 132) 40 50 (.agg #[(.int .i64 0), (.int .i64 0), (.int .u64 0), (.string ⟨#[]⟩)]) 40 rfl Try.underlying40 info50 rfl (by decide) (by omega) u4 x4_1 (⟨(wrap64 (IntKind.u64.wrap (Int.tdiv t101 8))), (wrap64 (Int.tmod t101 8)), x105002_28, a0.extract (x5_28 : Int).toNat ((wrap64 (x5_28 + (wrap64 (x10_28)))) : Int).toNat⟩ : S50) [.int .i64 (wrap64 (IntKind.u64.wrap (Int.tdiv t101 8))), .int .i64 (wrap64 (Int.tmod t101 8)), .int .u64 x105002_28, .string (a0.extract (x5_28 : Int).toNat ((wrap64 (x5_28 + (wrap64 (x10_28)))) : Int).toNat)] (fun k_ => k_ ≠ gb104) (fun _ => False) rfl (by first | (go_simp; done) | (go_simp; rfl)) ?aP (fun _ hk => hk.elim) ?aF ?aO ?aB ?aS ?aL ?_; (case aP => exact k50_mkM _ _ _ (⟨(wrap64 (IntKind.u64.wrap (Int.tdiv t101 8))), (wrap64 (Int.tmod t101 8)), x105002_28, a0.extract (x5_28 : Int).toNat ((wrap64 (x5_28 + (wrap64 (x10_28)))) : Int).toNat⟩ : S50)); (case aB => exact (by repeat (first | (with_reducible first | exact HB.out | apply below_alloc | apply pw_below_drewN | apply below_drew1 | refine below_set ?_ GE104.out) | exact HB.out))); (case aF => exact (fun k_ hk => Kd.freshB (g := gb104) (o := .cells #[.int .i64 (wrap64 (IntKind.u64.wrap (Int.tdiv t101 8))), .int .i64 (wrap64 (Int.tmod t101 8)), .int .u64 x105002_28, .string (a0.extract (x5_28 : Int).toNat ((wrap64 (x5_28 + (wrap64 (x10_28)))) : Int).toNat)] 50 (0, 0)) (by (with_reducible repeat (first | refine blk_drewN ?_ _ | refine blk_drew ?_ | refine blk_alloc ?_ _)); refine blk_put (cs := #[.int .i64 (wrap64 (IntKind.u64.wrap (Int.tdiv t101 8))), .int .i64 (wrap64 (Int.tmod t101 8)), .int .u64 x105002_28, .string (⟨#[]⟩ : ByteArray)]) ?_ 3 _ rfl; (with_reducible repeat (first | refine blk_drewN ?_ _ | refine blk_drew ?_ | refine blk_alloc ?_ _)); exact BK104.out) k_ hk)); (case aO => exact (by (with_reducible repeat (first | apply Kd.R_alloc | apply Kd.R_drewN | apply Kd.R_drew)); exact Kd.R_mono (Kd.R_far (p := ⟨gb104, 3, none⟩) (Kd.R_mono HO_4.out (fun k_ hk => (⟨hk, hk⟩ : _ ∧ k_ ≠ gb104))) (fun _ hk => hk.2) (.string (a0.extract (x5_28 : Int).toNat ((wrap64 (x5_28 + (wrap64 (x10_28)))) : Int).toNat))) (fun _ hk => hk.1))); (case aS => exact (below_size (by repeat (first | (with_reducible first | exact HB.out | apply below_alloc | apply pw_below_drewN | apply below_drew1 | refine below_set ?_ GE104.out) | exact HB.out)))); (case aL => have := LMc44.out; omega); intro v109 w46 ho hb hg hat; rw [← Ny108.out] at ho; have n0_ := Aside0.mk (blk_grown (g := gb104) (o := .cells #[.int .i64 (wrap64 (IntKind.u64.wrap (Int.tdiv t101 8))), .int .i64 (wrap64 (Int.tmod t101 8)), .int .u64 x105002_28, .string (a0.extract (x5_28 : Int).toNat ((wrap64 (x5_28 + (wrap64 (x10_28)))) : Int).toNat)] 50 (0, 0)) (by (with_reducible repeat (first | refine blk_drewN ?_ _ | refine blk_drew ?_ | refine blk_alloc ?_ _)); refine blk_put (cs := #[.int .i64 (wrap64 (IntKind.u64.wrap (Int.tdiv t101 8))), .int .i64 (wrap64 (Int.tmod t101 8)), .int .u64 x105002_28, .string (⟨#[]⟩ : ByteArray)]) ?_ 3 _ rfl; (with_reducible repeat (first | refine blk_drewN ?_ _ | refine blk_drew ?_ | refine blk_alloc ?_ _)); exact BK104.out) hg (Kd.R_away HO_4.out (fun _ hk => hk))); have n1_ := Aside0.mk (hb); have n2_ := Aside0.mk (ho); clear BK104; clear HB; clear HO_4; have BK104 := n0_; have HB := n1_; have HO110 := n2_; clear n0_ n1_ n2_; clear ho hb hg hat))
                                                  go_roundg kj28
                                                  case measure => have := HK1.out; have := HJ7.out; have := HJ18.out; have := HJ21.out; have := HJ24.out; have := HJ28.out; omega
                                                  case rel => exact ⟨(y108), (wrap64 (x5_28 + (wrap64 (x10_28)))), (by first | rfl | (simp; done) | (simp [*]; done)), H', ⟨by have := HK1.out; have := HJ7.out; have := HJ18.out; have := HJ21.out; have := HJ24.out; have := HJ28.out; omega⟩, ⟨by (with_reducible repeat (first | apply Kd.R_alloc | apply Kd.R_drewN | apply Kd.R_drew)); exact Kd.R_mono HO110.out (fun _ hk => trivial)⟩, ⟨by repeat (first | (with_reducible first | exact HB.out | apply below_alloc | apply pw_below_drewN | apply below_drew1 | refine below_set ?_ GE104.out) | exact HB.out)⟩⟩
                                                · rw [if_neg c44] at H
                                                  exact absurd H (by simp)
                                              · rw [if_neg c43] at H
                                                have c43b0 : ((wrap64 (Int.tmod t101 8)) == 2) = false := beq_eq_false_iff_ne.mpr c43
                                                have c43b1 : ((wrap64 (Int.tmod t101 8)) != 2) = true := bne_iff_ne.mpr c43
                                                by_cases c47 : (wrap64 (Int.tmod t101 8)) = 0
                                                · rw [if_pos c47] at H
                                                  have c47b0 : ((wrap64 (Int.tmod t101 8)) == 0) = true := beq_iff_eq.mpr c47
                                                  have c47b1 : ((wrap64 (Int.tmod t101 8)) != 0) = false := bne_eq_false_iff_eq.mpr c47
                                                  clear c47
                                                  by_cases c48 : x4_1.length < 3518437208883
                                                  · rw [if_pos c48] at H
                                                    have LMc48 := Aside0.mk c48
                                                    clear c48
                                                    obtain ⟨y111, hy111⟩ : ∃ y_ : List (S50), y_ = (x4_1 ++ [(⟨(wrap64 (IntKind.u64.wrap (Int.tdiv t101 8))), (wrap64 (Int.tmod t101 8)), x105002_28, (⟨#[]⟩ : ByteArray)⟩ : S50)]) := ⟨_, rfl⟩
                                                    replace H : (agateref02_Fields.l0 kj28 a0 y111 (wrap64 (x5_28 + (wrap64 (x10_28))))) = some (r1, r2) := by first | (rw [hy111]; with_reducible exact H) | (have H2_ := (Option.bind_some _ _).symm.trans H; rw [hy111]; with_reducible exact H2_) | (have H2_ := (Option.bind_some _ _).symm.trans H; with_reducible exact H2_) | with_reducible exact H | (rw [hy111]; exact H) | exact H
                                                    have Ny111 := Aside0.mk hy111
                                                    clear hy111
                                                    have H' := Aside0.mk H
                                                    clear H
                                                    have hcz49_0 : wc.cell? ⟨gb104, 0, none⟩ = some (.int .i64 (wrap64 (IntKind.u64.wrap (Int.tdiv t101 8)))) := (blk_cell BK104.out 0).trans rfl
                                                    have hcz49_1 : wc.cell? ⟨gb104, 1, none⟩ = some (.int .i64 (wrap64 (Int.tmod t101 8))) := (blk_cell BK104.out 1).trans rfl
                                                    have hcz49_2 : wc.cell? ⟨gb104, 2, none⟩ = some (.int .u64 x105002_28) := (blk_cell BK104.out 2).trans rfl
                                                    have hcz49_3 : wc.cell? ⟨gb104, 3, none⟩ = some (.string (⟨#[]⟩ : ByteArray)) := (blk_cell BK104.out 3).trans rfl
                                                    have hfz49_0 := blk_frozen BK104.out 0
                                                    have hfz49_1 := blk_frozen BK104.out 1
                                                    have hfz49_2 := blk_frozen BK104.out 2
                                                    have hfz49_3 := blk_frozen BK104.out 3
                                                    go_wp2_with (first | ((with_reducible refine gate_builtin (b := .append) (xs := #[.tmp 130, .tmp 132]) rfl ?_); at_builtin; refine Kd.R_append k50 (w0 := w) w.heap.size rfl (.tmp 130) (.tmp 132) 40 50 (.agg #[(.int .i64 0), (.int .i64 0), (.int .u64 0), (.string ⟨#[]⟩)]) 40 rfl Try.underlying40 info50 rfl (by decide) (by omega) u4 x4_1 (⟨(wrap64 (IntKind.u64.wrap (Int.tdiv t101 8))), (wrap64 (Int.tmod t101 8)), x105002_28, (⟨#[]⟩ : ByteArray)⟩ : S50) [.int .i64 (wrap64 (IntKind.u64.wrap (Int.tdiv t101 8))), .int .i64 (wrap64 (Int.tmod t101 8)), .int .u64 x105002_28, .string (⟨#[]⟩ : ByteArray)] (fun k_ => k_ ≠ gb104) (fun _ => False) rfl rfl ?aP (fun _ hk => hk.elim) ?aF ?aO ?aB ?aS ?aL ?_; (case aP => exact k50_mkM _ _ _ (⟨(wrap64 (IntKind.u64.wrap (Int.tdiv t101 8))), (wrap64 (Int.tmod t101 8)), x105002_28, (⟨#[]⟩ : ByteArray)⟩ : S50)); (case aB => exact (by repeat (first | (with_reducible first | exact HB.out | apply below_alloc | apply pw_below_drewN | apply below_drew1 | refine below_set ?_ GE104.out) | exact HB.out))); (case aF => exact (fun k_ hk => Kd.freshB (g := gb104) (o := .cells #[.int .i64 (wrap64 (IntKind.u64.wrap (Int.tdiv t101 8))), .int .i64 (wrap64 (Int.tmod t101 8)), .int .u64 x105002_28, .string (⟨#[]⟩ : ByteArray)] 50 (0, 0)) (by (with_reducible repeat (first | refine blk_drewN ?_ _ | refine blk_drew ?_ | refine blk_alloc ?_ _)); exact BK104.out) k_ hk)); (case aO => exact (by (with_reducible repeat (first | apply Kd.R_alloc | apply Kd.R_drewN | apply Kd.R_drew)); exact HO_4.out)); (case aS => exact (below_size (by repeat (first | (with_reducible first | exact HB.out | apply below_alloc | apply pw_below_drewN | apply below_drew1 | refine below_set ?_ GE104.out) | exact HB.out)))); (case aL => have := LMc48.out; omega); intro v112 w50 ho hb hg hat; rw [← Ny111.out] at ho; have n0_ := Aside0.mk (blk_grown (g := gb104) (o := .cells #[.int .i64 (wrap64 (IntKind.u64.wrap (Int.tdiv t101 8))), .int .i64 (wrap64 (Int.tmod t101 8)), .int .u64 x105002_28, .string (⟨#[]⟩ : ByteArray)] 50 (0, 0)) (by (with_reducible repeat (first | refine blk_drewN ?_ _ | refine blk_drew ?_ | refine blk_alloc ?_ _)); exact BK104.out) hg (Kd.R_away HO_4.out (fun _ hk => hk))); have n1_ := Aside0.mk (hb); have n2_ := Aside0.mk (ho); clear BK104; clear HB; clear HO_4; have BK104 := n0_; have HB := n1_; have HO113 := n2_; clear n0_ n1_ n2_; clear ho hb hg hat))
                                                    go_roundg kj28
                                                    case measure => have := HK1.out; have := HJ7.out; have := HJ18.out; have := HJ21.out; have := HJ24.out; have := HJ28.out; omega
                                                    case rel => exact ⟨(y111), (wrap64 (x5_28 + (wrap64 (x10_28)))), (by first | rfl | (simp; done) | (simp [*]; done)), H', ⟨by have := HK1.out; have := HJ7.out; have := HJ18.out; have := HJ21.out; have := HJ24.out; have := HJ28.out; omega⟩, ⟨by (with_reducible repeat (first | apply Kd.R_alloc | apply Kd.R_drewN | apply Kd.R_drew)); exact Kd.R_mono HO113.out (fun _ hk => trivial)⟩, ⟨by repeat (first | (with_reducible first | exact HB.out | apply below_alloc | apply pw_below_drewN | apply below_drew1 | refine below_set ?_ GE104.out) | exact HB.out)⟩⟩
                                                  · rw [if_neg c48] at H
                                                    exact absurd H (by simp)
                                                · rw [if_neg c47] at H
                                                  have c47b0 : ((wrap64 (Int.tmod t101 8)) == 0) = false := beq_eq_false_iff_ne.mpr c47
                                                  have c47b1 : ((wrap64 (Int.tmod t101 8)) != 0) = true := bne_iff_ne.mpr c47
                                                  replace H := Option.bind_eq_some_iff.mp H
                                                  obtain ⟨t114, A510, H⟩ := H
                                                  replace H : (if x4_1.length < 3518437208883 then (agateref02_Fields.l0 kj28 a0 (x4_1 ++ [(⟨(wrap64 (IntKind.u64.wrap (Int.tdiv t101 8))), (wrap64 (Int.tmod t101 8)), t114, (⟨#[]⟩ : ByteArray)⟩ : S50)]) (wrap64 (x5_28 + (wrap64 (x10_28))))) else (none)) = some (r1, r2) := H
                                                  have A51 := Aside0.mk A510
                                                  clear A510
                                                  by_cases c52 : x4_1.length < 3518437208883
                                                  · rw [if_pos c52] at H
                                                    have LMc52 := Aside0.mk c52
                                                    clear c52
                                                    obtain ⟨y115, hy115⟩ : ∃ y_ : List (S50), y_ = (x4_1 ++ [(⟨(wrap64 (IntKind.u64.wrap (Int.tdiv t101 8))), (wrap64 (Int.tmod t101 8)), t114, (⟨#[]⟩ : ByteArray)⟩ : S50)]) := ⟨_, rfl⟩
                                                    replace H : (agateref02_Fields.l0 kj28 a0 y115 (wrap64 (x5_28 + (wrap64 (x10_28))))) = some (r1, r2) := by first | (rw [hy115]; with_reducible exact H) | (have H2_ := (Option.bind_some _ _).symm.trans H; rw [hy115]; with_reducible exact H2_) | (have H2_ := (Option.bind_some _ _).symm.trans H; with_reducible exact H2_) | with_reducible exact H | (rw [hy115]; exact H) | exact H
                                                    have Ny115 := Aside0.mk hy115
                                                    clear hy115
                                                    have H' := Aside0.mk H
                                                    clear H
                                                    have hcz53_0 : wc.cell? ⟨gb104, 0, none⟩ = some (.int .i64 (wrap64 (IntKind.u64.wrap (Int.tdiv t101 8)))) := (blk_cell BK104.out 0).trans rfl
                                                    have hcz53_1 : wc.cell? ⟨gb104, 1, none⟩ = some (.int .i64 (wrap64 (Int.tmod t101 8))) := (blk_cell BK104.out 1).trans rfl
                                                    have hcz53_2 : wc.cell? ⟨gb104, 2, none⟩ = some (.int .u64 x105002_28) := (blk_cell BK104.out 2).trans rfl
                                                    have hcz53_3 : wc.cell? ⟨gb104, 3, none⟩ = some (.string (⟨#[]⟩ : ByteArray)) := (blk_cell BK104.out 3).trans rfl
                                                    have hfz53_0 := blk_frozen BK104.out 0
                                                    have hfz53_1 := blk_frozen BK104.out 1
                                                    have hfz53_2 := blk_frozen BK104.out 2
                                                    have hfz53_3 := blk_frozen BK104.out 3
                                                    go_wp2_with (first | ((with_reducible refine gate_callee (f := 43) rfl ?_); refine goesL_ (some 128) rfl rfl Try.func43 (by kernel_rfl) rfl #[.string (a0.extract (x5_28 : Int).toNat ((wrap64 (x5_28 + (wrap64 (x10_28)))) : Int).toNat)] rfl (by (try simp only [List.map_toArray, List.map_cons, List.map_nil]); first | done | rfl | (simp only [List.length_drop, List.length_take]; rfl)) ?_; (with_reducible refine (agateref02_low_s.calls (a0.extract (x5_28 : Int).toNat ((wrap64 (x5_28 + (wrap64 (x10_28)))) : Int).toNat) t114 _ A51.out).mono ?_); rintro e w' ⟨rfl, ⟨nd, rfl⟩⟩; refine ⟨_, rfl, ?_⟩; (try (rw [drewN_self wc]; generalize hq_ : World.drewN wc _ = wc; have n0_ : Aside0 (Kd.R k50 50 wc w.heap.size (fun k_ => k_ ≠ gb104) u4 x4_1) := ⟨by rw [← hq_]; exact (by (with_reducible repeat (first | apply Kd.R_alloc | apply Kd.R_drewN | apply Kd.R_drew)); exact HO_4.out)⟩; have n1_ : Aside0 (wc.heap[gb104]? = some (.cells #[.int .i64 (wrap64 (IntKind.u64.wrap (Int.tdiv t101 8))), .int .i64 (wrap64 (Int.tmod t101 8)), .int .u64 x105002_28, .string (⟨#[]⟩ : ByteArray)] 50 (0, 0))) := ⟨by rw [← hq_]; exact (by (with_reducible repeat (first | refine blk_drewN ?_ _ | refine blk_drew ?_ | refine blk_alloc ?_ _)); exact BK104.out)⟩; have n2_ : Aside0 (Below w.heap.size w wc) := ⟨by rw [← hq_]; exact (by repeat (first | (with_reducible first | exact HB.out | apply below_alloc | apply pw_below_drewN | apply below_drew1 | refine below_set ?_ GE104.out) | exact HB.out))⟩; clear HO_4 BK104 HB hq_; have HO_4 := n0_; have BK104 := n1_; have HB := n2_; clear n0_ n1_ n2_; (try have hcz53_0 : wc.cell? ⟨gb104, 0, none⟩ = some (.int .i64 (wrap64 (IntKind.u64.wrap (Int.tdiv t101 8)))) := (blk_cell BK104.out 0).trans rfl); (try have hfz53_0 := blk_frozen BK104.out 0); (try have hcz53_1 : wc.cell? ⟨gb104, 1, none⟩ = some (.int .i64 (wrap64 (Int.tmod t101 8))) := (blk_cell BK104.out 1).trans rfl); (try have hfz53_1 := blk_frozen BK104.out 1); (try have hcz53_2 : wc.cell? ⟨gb104, 2, none⟩ = some (.int .u64 x105002_28) := (blk_cell BK104.out 2).trans rfl); (try have hfz53_2 := blk_frozen BK104.out 2); (try have hcz53_3 : wc.cell? ⟨gb104, 3, none⟩ = some (.string (⟨#[]⟩ : ByteArray)) := (blk_cell BK104.out 3).trans rfl); (try have hfz53_3 := blk_frozen BK104.out 3)))) | ((with_reducible refine gate_builtin (b := .append) (xs := #[.tmp 130, .tmp 132]) rfl ?_); at_builtin; refine Kd.R_append k50 (w0 := w) w.heap.size rfl (.tmp 130) (.tmp 132) 40 50 (.agg #[(.int .i64 0), (.int .i64 0), (.int .u64 0), (.string ⟨#[]⟩)]) 40 rfl Try.underlying40 info50 rfl (by decide) (by omega) u4 x4_1 (⟨(wrap64 (IntKind.u64.wrap (Int.tdiv t101 8))), (wrap64 (Int.tmod t101 8)), t114, (⟨#[]⟩ : ByteArray)⟩ : S50) [.int .i64 (wrap64 (IntKind.u64.wrap (Int.tdiv t101 8))), .int .i64 (wrap64 (Int.tmod t101 8)), .int .u64 t114, .string (⟨#[]⟩ : ByteArray)] (fun k_ => k_ ≠ gb104) (fun _ => False) rfl (by first | (go_simp; done) | (go_simp; rfl)) ?aP (fun _ hk => hk.elim) ?aF ?aO ?aB ?aS ?aL ?_; (case aP => exact k50_mkM _ _ _ (⟨(wrap64 (IntKind.u64.wrap (Int.tdiv t101 8))), (wrap64 (Int.tmod t101 8)), t114, (⟨#[]⟩ : ByteArray)⟩ : S50)); (case aB => exact (by repeat (first | (with_reducible first | exact HB.out | apply below_alloc | apply pw_below_drewN | apply below_drew1 | refine below_set ?_ GE104.out) | exact HB.out))); (case aF => exact (fun k_ hk => Kd.freshB (g := gb104) (o := .cells #[.int .i64 (wrap64 (IntKind.u64.wrap (Int.tdiv t101 8))), .int .i64 (wrap64 (Int.tmod t101 8)), .int .u64 t114, .string (⟨#[]⟩ : ByteArray)] 50 (0, 0)) (by (with_reducible repeat (first | refine blk_drewN ?_ _ | refine blk_drew ?_ | refine blk_alloc ?_ _)); refine blk_put (cs := #[.int .i64 (wrap64 (IntKind.u64.wrap (Int.tdiv t101 8))), .int .i64 (wrap64 (Int.tmod t101 8)), .int .u64 x105002_28, .string (⟨#[]⟩ : ByteArray)]) ?_ 2 _ rfl; (with_reducible repeat (first | refine blk_drewN ?_ _ | refine blk_drew ?_ | refine blk_alloc ?_ _)); exact BK104.out) k_ hk)); (case aO => exact (by (with_reducible repeat (first | apply Kd.R_alloc | apply Kd.R_drewN | apply Kd.R_drew)); exact Kd.R_mono (Kd.R_far (p := ⟨gb104, 2, none⟩) (Kd.R_mono HO_4.out (fun k_ hk => (⟨hk, hk⟩ : _ ∧ k_ ≠ gb104))) (fun _ hk => hk.2) (.int .u64 t114)) (fun _ hk => hk.1))); (case aS => exact (below_size (by repeat (first | (with_reducible first | exact HB.out | apply below_alloc | apply pw_below_drewN | apply below_drew1 | refine below_set ?_ GE104.out) | exact HB.out)))); (case aL => have := LMc52.out; omega); intro v116 w54 ho hb hg hat; rw [← Ny115.out] at ho; have n0_ := Aside0.mk (blk_grown (g := gb104) (o := .cells #[.int .i64 (wrap64 (IntKind.u64.wrap (Int.tdiv t101 8))), .int .i64 (wrap64 (Int.tmod t101 8)), .int .u64 t114, .string (⟨#[]⟩ : ByteArray)] 50 (0, 0)) (by (with_reducible repeat (first | refine blk_drewN ?_ _ | refine blk_drew ?_ | refine blk_alloc ?_ _)); refine blk_put (cs := #[.int .i64 (wrap64 (IntKind.u64.wrap (Int.tdiv t101 8))), .int .i64 (wrap64 (Int.tmod t101 8)), .int .u64 x105002_28, .string (⟨#[]⟩ : ByteArray)]) ?_ 2 _ rfl; (with_reducible repeat (first | refine blk_drewN ?_ _ | refine blk_drew ?_ | refine blk_alloc ?_ _)); exact BK104.out) hg (Kd.R_away HO_4.out (fun _ hk => hk))); have n1_ := Aside0.mk (hb); have n2_ := Aside0.mk (ho); clear BK104; clear HB; clear HO_4; have BK104 := n0_; have HB := n1_; have HO117 := n2_; clear n0_ n1_ n2_; clear ho hb hg hat))
                                                    go_roundg kj28
                                                    case measure => have := HK1.out; have := HJ7.out; have := HJ18.out; have := HJ21.out; have := HJ24.out; have := HJ28.out; omega
                                                    case rel => exact ⟨(y115), (wrap64 (x5_28 + (wrap64 (x10_28)))), (by first | rfl | (simp; done) | (simp [*]; done)), H', ⟨by have := HK1.out; have := HJ7.out; have := HJ18.out; have := HJ21.out; have := HJ24.out; have := HJ28.out; omega⟩, ⟨by (with_reducible repeat (first | apply Kd.R_alloc | apply Kd.R_drewN | apply Kd.R_drew)); exact Kd.R_mono HO117.out (fun _ hk => trivial)⟩, ⟨by repeat (first | (with_reducible first | exact HB.out | apply below_alloc | apply pw_below_drewN | apply below_drew1 | refine below_set ?_ GE104.out) | exact HB.out)⟩⟩
                                                  · rw [if_neg c52] at H
                                                    exact absurd H (by simp)
                                            · rw [if_neg c42] at H
                                              exact absurd H (by simp)
                                          · rw [if_neg c41] at H
                                            exact absurd H (by simp)
                                        · rw [if_neg c40] at H
                                          exact absurd H (by simp)
              · rw [if_neg c7] at H
                have c7b0 : (t103 == 0) = false := beq_eq_false_iff_ne.mpr c7
                have c7b1 : (t103 != 0) = true := bne_iff_ne.mpr c7
                simp only [Option.some.injEq, Prod.mk.injEq] at H
                obtain ⟨rfl, rfl⟩ := H
                go_wp2_with (first | ((with_reducible refine gate_callee (f := 14) rfl ?_); refine goesL_ (some 26) rfl rfl Try.func14 (by kernel_rfl) rfl #[.string (a0.extract (x5_1 : Int).toNat a0.size)] rfl (by (try simp only [List.map_toArray, List.map_cons, List.map_nil]); first | done | rfl | (simp only [List.length_drop, List.length_take]; rfl)) ?_; (with_reducible refine (agateref01_Read_s.calls (a0.extract (x5_1 : Int).toNat a0.size) t101 t102 t103 _ A6.out).mono ?_); rintro e w' ⟨rfl, ⟨nd, rfl⟩⟩; refine ⟨_, rfl, ?_⟩))
                go_ret2
                exact ⟨_, by first | rfl | (simp [errW_none, errW_some] <;> rfl) | (simp [*, errW_none, errW_some] <;> rfl), by first | exact Kd.R_nil _ _ _ _ _ | exact Kd.N_nil _ _ _ _ _ | exact Kd.V_nil _ _ _ _ _ | exact Kd.Q_nil _ _ _ _ _ | exact Kd.S_nil _ _ _ _ _, by repeat (first | (with_reducible first | exact HB.out | apply below_alloc | apply pw_below_drewN | apply below_drew1) | exact HB.out)⟩
            · rw [if_neg c5] at H
              exact absurd H (by simp)
          · rw [if_neg c4] at H
            exact absurd H (by simp)
        · rw [if_neg c3] at H
          have c3b0 : decide (x5_1 < (a0.size : Int)) = false := decide_eq_false c3
          clear c3
          simp only [Option.some.injEq, Prod.mk.injEq] at H
          obtain ⟨rfl, rfl⟩ := H
          go_wp2
          go_ret2
          exact ⟨_, by first | rfl | (simp [errW_none, errW_some] <;> rfl) | (simp [*, errW_none, errW_some] <;> rfl), by (with_reducible repeat (first | apply Kd.R_alloc | apply Kd.R_drewN | apply Kd.R_drew)); exact HO_4.out, by repeat (first | (with_reducible first | exact HB.out | apply below_alloc | apply pw_below_drewN | apply below_drew1) | exact HB.out)⟩

end Go.Proofs.Ytohddbiedabmhaa.X
