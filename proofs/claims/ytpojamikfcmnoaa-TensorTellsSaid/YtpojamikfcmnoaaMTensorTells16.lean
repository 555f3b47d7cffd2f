import Derived.Test.YtpojamikfcmnoaaMTensorTells2
import Derived.Test.YtpojamikfcmnoaaMTensorTells15
import Derived.Test.YtpojamikfcmnoaaMTensorTells5
import Derived.Test.YtpojamikfcmnoaaMTensorTells3
import Derived.Test.YtpojamikfcmnoaaMTensorTells14
namespace Go.Proofs.Ytpojamikfcmnoaa.X
open Go.RowKit Go.Proofs.YtpojamikfcmnoaaW.PrintWords Go.Proofs.YtpojamikfcmnoaaW.PrintLast Go.Proofs.YtpojamikfcmnoaaW.PrintMore
attribute [local go_sem] max2_int min2_int max_two min_two max_three min_three max_four min_four
set_option linter.unusedVariables false
set_option linter.unusedSimpArgs false
def agateref05_Size_s.f (l0 : List Int) : Option (Int × Int) := some (sizeS l0)
theorem refSize_l1 (l : List Int) (hb : l.length ≤ 8) (hn : ∀ x ∈ l, 0 < x ∧ x ≤ 65536) (d : Nat) : ∀ (k i : Nat) (n : Int), l.length - i = d → i ≤ l.length → 2 * d + 2 ≤ k → 0 ≤ n → n ≤ 65536 →
    agateref05_Size.l1 k l false n i = some (sizeL (l.drop i) n false) := by
  induction d with
  | zero =>
    intro k i n hd hi hk h0 h1
    obtain ⟨k, rfl⟩ : ∃ m, k = m + 2 := ⟨k - 2, by omega⟩
    rw [agateref05_Size.l1, if_neg (by omega), agateref05_Size.j2, if_neg (by simp), if_neg (by simp), List.drop_of_length_le (by omega), sizeL, if_neg (by simp), if_neg (by omega)]
  | succ d ih =>
    intro k i n hd hi hk h0 h1
    obtain ⟨k, rfl⟩ : ∃ m, k = m + 2 := ⟨k - 2, by omega⟩
    have hl : i < l.length := by omega
    have e0 : rd l (i : Int) = l[i] := by simp [rd, List.getD_eq_getElem?_getD, hl]
    have hp := hn l[i] (List.getElem_mem hl)
    have ew : wrap64 ((i : Int) + 1) = ((i + 1 : Nat) : Int) := by rw [wrap64_id (by omega) (by omega)]; omega
    have hm := mul_cap h0 (by omega : n ≤ 65537) (by omega : 0 ≤ l[i]) hp.2
    have hd' : ∀ x ∈ l.drop (i + 1), 0 < x ∧ x ≤ 65536 := fun x hx => hn x (List.mem_of_mem_drop hx)
    have wm : wrap64 (n * l[i]) = n * l[i] := wrap64_id (by omega) (by omega)
    rw [agateref05_Size.l1, if_pos (by omega), agateref05_Size.j2, if_pos (by rfl), if_pos (by omega), if_pos (by omega), e0, wm, ew, List.drop_eq_getElem_cons hl, sizeL]
    clear ew wm
    generalize n * l[i] = p at *
    have q1 : ¬ l[i] > 65536 := by omega
    have q2 : ¬ l[i] = 0 := by omega
    by_cases hg : p > 65536
    · have e : (if 65537 < p then 65537 else p) = 65537 := by split <;> omega
      rw [if_pos hg, if_neg q1, if_neg q2, e, sizeL_full _ hd']
    · rw [if_neg hg, if_neg q1, if_neg q2, if_neg (by omega)]
      exact ih k (i + 1) p (by omega) (by omega) (by omega) (by omega) (by omega)
theorem refSize_l0 (l : List Int) (hb : l.length ≤ 8) (d : Nat) : ∀ (k i : Nat), l.length - i = d → i ≤ l.length → d + 2 * l.length + 4 ≤ k → (∀ x ∈ l.take i, 0 ≤ x) →
    agateref05_Size.l0 k l ((l.take i).any fun x => decide (x > 65536)) ((l.take i).any fun x => x == 0) i = some (if (l.drop i).any (fun x => decide (x < 0)) then (0, 6) else sizeL l 1 false) := by
  induction d with
  | zero =>
    intro k i hd hi hk hn
    obtain ⟨k, rfl⟩ : ∃ m, k = m + 3 := ⟨k - 3, by omega⟩
    rw [agateref05_Size.l0, if_neg (by omega), List.drop_of_length_le (by omega)]
    rw [List.take_of_length_le (by omega)] at hn ⊢
    show _ = some (sizeL l 1 false)
    by_cases hg : l.any (fun x => decide (x > 65536)) = true
    · rw [if_pos hg, sizeL_great l 1 false (by obtain ⟨x, hx, e⟩ := List.any_eq_true.1 hg; exact ⟨x, hx, of_decide_eq_true e⟩)]
    · have hs : ∀ x ∈ l, x ≤ 65536 := fun x hx => Int.not_lt.1 (fun h => hg (List.any_eq_true.2 ⟨x, hx, decide_eq_true h⟩))
      rw [if_neg hg]
      by_cases hz : l.any (fun x => x == 0) = true
      · rw [hz, sizeL_zero l 1 false hs (Or.inr (by obtain ⟨x, hx, e⟩ := List.any_eq_true.1 hz; exact ⟨x, hx, eq_of_beq e⟩))]
        rw [agateref05_Size.l1]
        split
        · rw [agateref05_Size.j2]; rfl
        · rw [agateref05_Size.j2]; rfl
      · rw [Bool.not_eq_true] at hz
        rw [hz]
        refine refSize_l1 l hb (fun x hx => ?_) l.length (k + 2) 0 1 (by omega) (by omega) (by omega) (by omega) (by omega)
        have h1 := hs x hx
        have h2 := hn x hx
        have h3 : x ≠ 0 := by
          intro e
          rw [List.any_eq_false] at hz
          exact hz x hx (by rw [e]; rfl)
        omega
  | succ d ih =>
    intro k i hd hi hk hn
    obtain ⟨k, rfl⟩ : ∃ m, k = m + 1 := ⟨k - 1, by omega⟩
    have hl : i < l.length := by omega
    have e0 : rd l (i : Int) = l[i] := by simp [rd, List.getD_eq_getElem?_getD, hl]
    have ew : wrap64 ((i : Int) + 1) = ((i + 1 : Nat) : Int) := by rw [wrap64_id (by omega) (by omega)]; omega
    rw [agateref05_Size.l0, if_pos (by omega), if_pos (by omega), e0, List.drop_eq_getElem_cons hl, ew]
    clear ew
    by_cases hg : l[i] < 0
    · rw [if_pos hg, List.any_cons, decide_eq_true hg]
      rfl
    · rw [if_neg hg, List.any_cons, decide_eq_false hg, Bool.false_or]
      have hstep : ∀ g z : Bool, (if g = true then (if z = true then (agateref05_Size.l0 k l true true ((i + 1 : Nat) : Int)) else (agateref05_Size.l0 k l true (l[i] == 0) ((i + 1 : Nat) : Int))) else (if z = true then (agateref05_Size.l0 k l (decide (l[i] > 65536)) true ((i + 1 : Nat) : Int)) else (agateref05_Size.l0 k l (decide (l[i] > 65536)) (l[i] == 0) ((i + 1 : Nat) : Int)))) = agateref05_Size.l0 k l (g || decide (l[i] > 65536)) (z || l[i] == 0) ((i + 1 : Nat) : Int) := by
        intro g z
        cases g <;> cases z <;> rfl
      rw [hstep, ← any_take (fun x => decide (x > 65536)) l i hl, ← any_take (fun x => x == 0) l i hl]
      refine ih k (i + 1) (by omega) (by omega) (by omega) ?_
      intro x hx
      rw [List.take_succ_eq_append_getElem hl] at hx
      rcases List.mem_append.1 hx with hx | hx
      · exact hn x hx
      · rw [List.mem_singleton.1 hx]; omega
theorem agateref05_Size_s.ev (l0 : List Int) (r) (h : agateref05_Size_s.f l0 = some r) : ∃ k, agateref05_Size.f k l0 = some r := by
  refine ⟨3 * l0.length + 4, ?_⟩
  rw [← h]
  unfold agateref05_Size.f agateref05_Size_s.f sizeS
  by_cases hl : l0.length > 8
  · rw [if_pos (by omega), if_pos hl]
  · rw [if_neg (by omega), if_neg hl]
    exact refSize_l0 l0 (by omega) l0.length _ 0 (by omega) (by omega) (by omega) (by simp)
set_option maxHeartbeats 1000000 in
theorem agateref05_Size_s.calls (A0 : Option Addr) (c0 : Nat) (l0 : List Int) (r1 : Int) (r2 : Int) (w : World) (hr0 : Kd.C (Kd.int .i64) w A0 l0.length l0) (hc0 : l0.length ≤ c0) (h : agateref05_Size_s.f l0 = some (r1, r2)) :
    Calls Try.prog 27 #[.slice A0 l0.length c0] w fun e w' => e = .returned (.tuple #[.int .i64 r1, .int .i64 r2]) ∧ Drawn0 w w' := by
  obtain ⟨k, hk⟩ := agateref05_Size_s.ev l0 _ h
  exact agateref05_Size.calls k A0 c0 l0 r1 r2 w hr0 hc0 hk
end Go.Proofs.Ytpojamikfcmnoaa.X
namespace Go.Proofs.Ytpojamikfcmnoaa.X
open Go.RowKit Go.Proofs.YtpojamikfcmnoaaW.PrintWords Go.Proofs.YtpojamikfcmnoaaW.PrintLast Go.Proofs.YtpojamikfcmnoaaW.PrintMore
attribute [local go_sem] max2_int min2_int max_two min_two max_three min_three max_four min_four
set_option linter.unusedVariables false
set_option linter.unusedSimpArgs false
def agateref07_Name.l0 : Nat → ByteArray → Int → Option (Bool)
  | 0, _, _ => none
  | k + 1, x0, x3 => if x3 < (x0.size : Int) then (if 0 ≤ x3 then (if (bt x0 x3) < 33 then (some false) else (if (bt x0 x3) > 126 then (some false) else (agateref07_Name.l0 k x0 (wrap64 (x3 + 1))))) else (none)) else (if (x0.size : Int) ≥ 1 then (some (decide ((x0.size : Int) ≤ 64))) else (some false))
def agateref07_Name.f (k : Nat) (a0 : ByteArray) : Option (Bool) := agateref07_Name.l0 k a0 0
set_option maxHeartbeats 8000000 in
set_option maxRecDepth 100000 in
theorem agateref07_Name.calls (k : Nat) (a0 : ByteArray) (r : Bool) (w : World) (h : agateref07_Name.f k a0 = some r) :
    Calls Try.prog 42 #[.string a0] w fun e w' => e = .returned (.bool r) ∧ Drawn0 w w' := by
  have H : (agateref07_Name.l0 k a0 0) = some r := h
  clear h
  have H' := Aside0.mk H
  clear H
  go_enter Try.func42, Try.ntmps42
  go_wp2
  go_loopg [3] k (fun kq v3 w' => ∃ (x3_1 : Int), v3 = .int .i64 x3_1 ∧ Aside0 (agateref07_Name.l0 kq a0 x3_1 = some r) ∧ Aside0 (kq ≤ k) ∧ Drawn0 w w')
  case atStart => exact ⟨(0), (by first | rfl | (simp; done) | (simp [*]; done)), H', ⟨Nat.le_refl _⟩, by repeat (first | exact Drawn0.refl _ | apply Drawn0.step)⟩
  case round =>
    clear H'
    obtain ⟨x3_1, rfl, HA, HK1, ⟨m1, rfl⟩⟩ := hrel
    cases gk with
    | zero => exact absurd HA.out (by simp [agateref07_Name.l0])
    | succ k1 =>
      have H := HA.out
      clear HA
      simp only [agateref07_Name.l0] at H
      by_cases c2 : x3_1 < (a0.size : Int)
      · rw [if_pos c2] at H
        have c2b0 : decide (x3_1 < (a0.size : Int)) = true := decide_eq_true c2
        clear c2
        by_cases c3 : 0 ≤ x3_1
        · rw [if_pos c3] at H
          have c3b0 : decide (0 ≤ x3_1) = true := decide_eq_true c3
          clear c3
          by_cases c5 : (bt a0 x3_1) < 33
          · rw [if_pos c5] at H
            have c5b0 : decide ((bt a0 x3_1) < 33) = true := decide_eq_true c5
            clear c5
            obtain rfl := Option.some.inj H
            have p4 : 0 ≤ (x3_1 : Int) := of_decide_eq_true (by first | (with_reducible assumption) | assumption)
            have q4 : x3_1 < (a0.size : Int) := of_decide_eq_true (by first | (with_reducible assumption) | assumption)
            have hx4 := bt_at a0 x3_1
            replace p4 := eq_true p4
            replace q4 := eq_true q4
            go_wp2
            go_ret
            exact ⟨by first | rfl | (simp; done) | (simp [*]; done), by repeat (first | exact Drawn0.refl _ | apply Drawn0.step)⟩
          · rw [if_neg c5] at H
            have c5b0 : decide ((bt a0 x3_1) < 33) = false := decide_eq_false c5
            clear c5
            by_cases c7 : (bt a0 x3_1) > 126
            · rw [if_pos c7] at H
              have c7b0 : decide (126 < (bt a0 x3_1)) = true := decide_eq_true c7
              clear c7
              obtain rfl := Option.some.inj H
              have p4 : 0 ≤ (x3_1 : Int) := of_decide_eq_true (by first | (with_reducible assumption) | assumption)
              have q4 : x3_1 < (a0.size : Int) := of_decide_eq_true (by first | (with_reducible assumption) | assumption)
              have hx4 := bt_at a0 x3_1
              replace p4 := eq_true p4
              replace q4 := eq_true q4
              have p6 : 0 ≤ (x3_1 : Int) := of_decide_eq_true (by first | (with_reducible assumption) | assumption)
              have q6 : x3_1 < (a0.size : Int) := of_decide_eq_true (by first | (with_reducible assumption) | assumption)
              have hx6 := bt_at a0 x3_1
              replace p6 := eq_true p6
              replace q6 := eq_true q6
              go_wp2
              go_ret
              exact ⟨by first | rfl | (simp; done) | (simp [*]; done), by repeat (first | exact Drawn0.refl _ | apply Drawn0.step)⟩
            · rw [if_neg c7] at H
              have c7b0 : decide (126 < (bt a0 x3_1)) = false := decide_eq_false c7
              clear c7
              have H' := Aside0.mk H
              clear H
              have p4 : 0 ≤ (x3_1 : Int) := of_decide_eq_true (by first | (with_reducible assumption) | assumption)
              have q4 : x3_1 < (a0.size : Int) := of_decide_eq_true (by first | (with_reducible assumption) | assumption)
              have hx4 := bt_at a0 x3_1
              replace p4 := eq_true p4
              replace q4 := eq_true q4
              have p6 : 0 ≤ (x3_1 : Int) := of_decide_eq_true (by first | (with_reducible assumption) | assumption)
              have q6 : x3_1 < (a0.size : Int) := of_decide_eq_true (by first | (with_reducible assumption) | assumption)
              have hx6 := bt_at a0 x3_1
              replace p6 := eq_true p6
              replace q6 := eq_true q6
              go_wp2
              go_roundg k1
              case measure => have := HK1.out; omega
              case rel => exact ⟨(wrap64 (x3_1 + 1)), (by first | rfl | (simp; done) | (simp [*]; done)), H', ⟨by have := HK1.out; omega⟩, by repeat (first | exact Drawn0.refl _ | apply Drawn0.step)⟩
        · rw [if_neg c3] at H
          exact absurd H (by simp)
      · rw [if_neg c2] at H
        have c2b0 : decide (x3_1 < (a0.size : Int)) = false := decide_eq_false c2
        clear c2
        by_cases c8 : (a0.size : Int) ≥ 1
        · rw [if_pos c8] at H
          have c8b0 : decide (1 ≤ (a0.size : Int)) = true := decide_eq_true c8
          have c8b1 : decide (1 ≤ a0.size) = true := decide_eq_true (by omega)
          clear c8
          obtain rfl := Option.some.inj H
          go_wp2
          go_ret
          exact ⟨by first | rfl | (simp; done) | (simp [*]; done), by repeat (first | exact Drawn0.refl _ | apply Drawn0.step)⟩
        · rw [if_neg c8] at H
          have c8b0 : decide (1 ≤ (a0.size : Int)) = false := decide_eq_false c8
          have c8b1 : decide (1 ≤ a0.size) = false := decide_eq_false (by omega)
          clear c8
          obtain rfl := Option.some.inj H
          go_wp2
          go_ret
          exact ⟨by first | rfl | (simp; done) | (simp [*]; done), by repeat (first | exact Drawn0.refl _ | apply Drawn0.step)⟩
end Go.Proofs.Ytpojamikfcmnoaa.X
namespace Go.Proofs.Ytpojamikfcmnoaa.X
open Go.RowKit Go.Proofs.YtpojamikfcmnoaaW.PrintWords Go.Proofs.YtpojamikfcmnoaaW.PrintLast Go.Proofs.YtpojamikfcmnoaaW.PrintMore
attribute [local go_sem] max2_int min2_int max_two min_two max_three min_three max_four min_four
set_option linter.unusedVariables false
set_option linter.unusedSimpArgs false
def agateref07_Name_s.f (a0 : ByteArray) : Option Bool := if a0.size ≤ 140737488351232 then some (nameR a0) else none
theorem agateref07_Name_eval (s : ByteArray) (hs : s.size ≤ 140737488351232) (d : Nat) : ∀ (k i : Nat), s.size - i = d → i ≤ s.size → d < k →
    agateref07_Name.l0 k s (i : Int) = some (((ns s).drop i).all (fun c => decide (33 ≤ c ∧ c ≤ 126)) && decide (1 ≤ s.size ∧ s.size ≤ 64)) := by
  induction d with
  | zero =>
    intro k i hd hi hk
    obtain ⟨k, rfl⟩ : ∃ m, k = m + 1 := ⟨k - 1, by omega⟩
    simp only [agateref07_Name.l0]
    rw [if_neg (by omega), ns_drop_end s i (by omega)]
    by_cases h0 : (s.size : Int) ≥ 1
    · rw [if_pos h0]
      simp only [List.all_nil, Bool.true_and]
      congr 1
      exact decide_eq_decide.2 ⟨fun h => ⟨by omega, by omega⟩, fun h => by omega⟩
    · rw [if_neg h0, show decide (1 ≤ s.size ∧ s.size ≤ 64) = false from decide_eq_false (by omega)]; rfl
  | succ d ih =>
    intro k i hd hi hk
    obtain ⟨k, rfl⟩ : ∃ m, k = m + 1 := ⟨k - 1, by omega⟩
    have hlt : i < s.size := by omega
    have hb : bt s (i : Int) = ((s[i]'hlt).toNat : Int) := bt_ns s i hlt
    simp only [agateref07_Name.l0]
    rw [if_pos (by omega), if_pos (by omega), hb, ns_drop s i hlt, List.all_cons]
    by_cases h1 : ((s[i]'hlt).toNat : Int) < 33
    · rw [if_pos h1, show decide (33 ≤ (s[i]'hlt).toNat ∧ (s[i]'hlt).toNat ≤ 126) = false from decide_eq_false (by omega)]; rfl
    · rw [if_neg h1]
      by_cases h2 : ((s[i]'hlt).toNat : Int) > 126
      · rw [if_pos h2, show decide (33 ≤ (s[i]'hlt).toNat ∧ (s[i]'hlt).toNat ≤ 126) = false from decide_eq_false (by omega)]; rfl
      · rw [if_neg h2, show decide (33 ≤ (s[i]'hlt).toNat ∧ (s[i]'hlt).toNat ≤ 126) = true from decide_eq_true (by omega), Bool.true_and, wrap64_id (by omega) (by omega)]
        exact ih k (i + 1) (by omega) (by omega) (by omega)
theorem agateref07_Name_s.ev (a0 : ByteArray) (r) (h : agateref07_Name_s.f a0 = some r) : ∃ k, agateref07_Name.f k a0 = some r := by
  unfold agateref07_Name_s.f at h
  split at h
  · rename_i hs
    have := agateref07_Name_eval a0 hs a0.size (a0.size + 1) 0 (by omega) (by omega) (by omega)
    rw [List.drop_zero] at this
    exact ⟨a0.size + 1, this.trans h⟩
  · cases h
set_option maxHeartbeats 1000000 in
theorem agateref07_Name_s.calls (a0 : ByteArray) (r : Bool) (w : World) (h : agateref07_Name_s.f a0 = some r) :
    Calls Try.prog 42 #[.string a0] w fun e w' => e = .returned (.bool r) ∧ Drawn0 w w' := by
  obtain ⟨k, hk⟩ := agateref07_Name_s.ev a0 _ h
  exact agateref07_Name.calls k a0 r w hk
end Go.Proofs.Ytpojamikfcmnoaa.X
namespace Go.Proofs.Ytpojamikfcmnoaa.X
open Go.RowKit Go.Proofs.YtpojamikfcmnoaaW.PrintWords Go.Proofs.YtpojamikfcmnoaaW.PrintLast Go.Proofs.YtpojamikfcmnoaaW.PrintMore
attribute [local go_sem] max2_int min2_int max_two min_two max_three min_three max_four min_four
set_option linter.unusedVariables false
set_option linter.unusedSimpArgs false
mutual
def agateref07_Check.l0 : Nat → Int → Int → ByteArray → Int → List Int → ByteArray → Option (Int)
 | 0, _, _, _, _, _, _ => none
 | k + 1, x4, x6, x102000, x102001, x102002, x102003 => if x6 < x4 then (if x102001 = 9 then (if 0 ≤ x6 then (if x6 < (x102003.size : Int) then (agateref07_Check.j1 k x4 x6 (decide ((bt x102003 x6) > 1)) x102000 x102001 x102002 x102003) else (none)) else (none)) else (agateref07_Check.j1 k x4 x6 false x102000 x102001 x102002 x102003)) else (some 0)
def agateref07_Check.j1 : Nat → Int → Int → Bool → ByteArray → Int → List Int → ByteArray → Option (Int)
 | 0, _, _, _, _, _, _, _ => none
 | k + 1, x4, x6, x48, x102000, x102001, x102002, x102003 => if x48 = true then (some 17) else (if x102001 = 14 then (if 0 ≤ (wrap64 (8 * x6)) then (if (wrap64 (8 * x6)) ≤ (wrap64 ((wrap64 (8 * x6)) + 8)) then (if (wrap64 ((wrap64 (8 * x6)) + 8)) ≤ (x102003.size : Int) then ((agateref06_Read_s.f (x102003.extract ((wrap64 (8 * x6)) : Int).toNat ((wrap64 ((wrap64 (8 * x6)) + 8)) : Int).toNat)).bind fun bt106 => (if bt106.2.2 = 0 then (agateref07_Check.l0 k x4 (wrap64 (x6 + 1)) x102000 x102001 x102002 x102003) else (some 17))) else (none)) else (none)) else (none)) else (agateref07_Check.l0 k x4 (wrap64 (x6 + 1)) x102000 x102001 x102002 x102003))
end
def agateref07_Check.f (k : Nat) (a0_0 : ByteArray) (a0_1 : Int) (l0_2 : List Int) (a0_3 : ByteArray) : Option (Int) := (agateref07_Name_s.f a0_0).bind fun t102 => (if t102 = true then ((agateref04_Size_s.f a0_1).bind fun t103 => (if t103 = 0 then (some 5) else ((agateref05_Size_s.f l0_2).bind fun bt104 => (if bt104.2 = 0 then (if (a0_3.size : Int) = (wrap64 (bt104.1 * t103)) then (agateref07_Check.l0 k bt104.1 0 a0_0 a0_1 l0_2 a0_3) else (some 19)) else (some bt104.2))))) else (some 8))
set_option maxHeartbeats 8000000 in
set_option maxRecDepth 100000 in
theorem agateref07_Check.calls (k : Nat) (a0_0 : ByteArray) (a0_1 : Int) (A0_2 : Option Addr) (c0_2 : Nat) (l0_2 : List Int) (a0_3 : ByteArray) (r : Int) (w : World) (hr0_2 : Kd.C (Kd.int .i64) w A0_2 l0_2.length l0_2) (hc0_2 : l0_2.length ≤ c0_2) (h : agateref07_Check.f k a0_0 a0_1 l0_2 a0_3 = some r) :
  Calls Try.prog 37 #[.agg #[.string a0_0, .int .i64 a0_1, .slice A0_2 l0_2.length c0_2, .string a0_3]] w fun e w' => e = .returned (.int .i64 r) ∧ Below w.heap.size w w' := by
 have hu64 := Try.underlying64
 have hu23 := Try.underlying23
 have HR0_2 := Aside0.mk hr0_2
 have HC0_2 := Aside0.mk hc0_2
 clear hr0_2 hc0_2
 have HB := Aside0.mk (Below.refl w.heap.size w)
 have H : ((agateref07_Name_s.f a0_0).bind fun t102 => (if t102 = true then ((agateref04_Size_s.f a0_1).bind fun t103 => (if t103 = 0 then (some 5) else ((agateref05_Size_s.f l0_2).bind fun bt104 => (if bt104.2 = 0 then (if (a0_3.size : Int) = (wrap64 (bt104.1 * t103)) then (agateref07_Check.l0 k bt104.1 0 a0_0 a0_1 l0_2 a0_3) else (some 19)) else (some bt104.2))))) else (some 8))) = some r := h
 clear h
 replace H := Option.bind_eq_some_iff.mp H
 obtain ⟨t102, A20, H⟩ := H
 replace H : (if t102 = true then ((agateref04_Size_s.f a0_1).bind fun t103 => (if t103 = 0 then (some 5) else ((agateref05_Size_s.f l0_2).bind fun bt104 => (if bt104.2 = 0 then (if (a0_3.size : Int) = (wrap64 (bt104.1 * t103)) then (agateref07_Check.l0 k bt104.1 0 a0_0 a0_1 l0_2 a0_3) else (some 19)) else (some bt104.2))))) else (some 8)) = some r := H
 have A2 := Aside0.mk A20
 clear A20
 by_cases c3 : t102 = true
 ·
  subst c3
  have H1 : ((agateref04_Size_s.f a0_1).bind fun t103 => (if t103 = 0 then (some 5) else ((agateref05_Size_s.f l0_2).bind fun bt104 => (if bt104.2 = 0 then (if (a0_3.size : Int) = (wrap64 (bt104.1 * t103)) then (agateref07_Check.l0 k bt104.1 0 a0_0 a0_1 l0_2 a0_3) else (some 19)) else (some bt104.2))))) = some r := by rw [if_pos rfl] at H; exact H
  clear H
  have H := H1
  clear H1
  replace H := Option.bind_eq_some_iff.mp H
  obtain ⟨t103, A40, H⟩ := H
  replace H : (if t103 = 0 then (some 5) else ((agateref05_Size_s.f l0_2).bind fun bt104 => (if bt104.2 = 0 then (if (a0_3.size : Int) = (wrap64 (bt104.1 * t103)) then (agateref07_Check.l0 k bt104.1 0 a0_0 a0_1 l0_2 a0_3) else (some 19)) else (some bt104.2)))) = some r := H
  have A4 := Aside0.mk A40
  clear A40
  by_cases c5 : t103 = 0
  ·
   rw [if_pos c5] at H
   have c5b0 : (t103 == 0) = true := beq_iff_eq.mpr c5
   have c5b1 : (t103 != 0) = false := bne_eq_false_iff_eq.mpr c5
   clear c5
   obtain rfl := Option.some.inj H
   go_enter Try.func37, Try.ntmps37
   go_wp2_with (first | ((with_reducible refine gate_dst (N := 1) rfl ?_); refine box_event ?hg (N := 1) ?hd (cs := #[.string a0_0, .int .i64 a0_1, .slice A0_2 l0_2.length c0_2, .string a0_3]) (t := 64) ?hr ?_; (case hd => rfl); (case hg => rfl); (case hr => first | (go_simp; done) | (go_simp; rfl)); intro gb101 hg w6 hbox hb; have n0_ := Aside0.mk (below_step (hbA HB) hb); have n1_ := Aside0.mk (hbox); have n2_ := Aside0.mk ((by rw [hg]; exact (below_size (hbA HB)) : w.heap.size ≤ gb101)); have n3_ := Aside0.mk ((by rw [hg]; exact (below_size (hbA HB)) : w.heap.size ≤ gb101)); clear HB; have HB := n0_; have BK101 := n1_; have GW101 := n2_; have GE101 := n3_; clear n0_ n1_ n2_ n3_; clear hb hbox hg; have hcz7_0 : w6.cell? ⟨gb101, 0, none⟩ = some (.string a0_0) := bcA BK101 0; have hcz7_1 : w6.cell? ⟨gb101, 1, none⟩ = some (.int .i64 a0_1) := bcA BK101 1; have hcz7_2 : w6.cell? ⟨gb101, 2, none⟩ = some (.slice A0_2 l0_2.length c0_2) := bcA BK101 2; have hcz7_3 : w6.cell? ⟨gb101, 3, none⟩ = some (.string a0_3) := bcA BK101 3; have hfz7_0 := blk_frozen BK101.out 0; have hfz7_1 := blk_frozen BK101.out 1; have hfz7_2 := blk_frozen BK101.out 2; have hfz7_3 := blk_frozen BK101.out 3) | ((with_reducible refine gate_callee (f := 42) rfl ?_); refine goesL_ (some 11) rfl rfl Try.func42 (by kernel_rfl) rfl #[.string a0_0] rfl (by (try simp only [List.map_toArray, List.map_cons, List.map_nil]); first | done | rfl | (simp only [List.length_drop, List.length_take]; rfl)) ?_; (with_reducible refine (agateref07_Name_s.calls a0_0 true _ A2.out).mono ?_); rintro e w' ⟨rfl, ⟨nd, rfl⟩⟩; refine ⟨_, rfl, ?_⟩) | ((with_reducible refine gate_callee (f := 43) rfl ?_); refine goesL_ (some 15) rfl rfl Try.func43 (by kernel_rfl) rfl #[.int .i64 a0_1] rfl (by (try simp only [List.map_toArray, List.map_cons, List.map_nil]); first | done | rfl | (simp only [List.length_drop, List.length_take]; rfl)) ?_; (with_reducible refine (agateref04_Size_s.calls a0_1 t103 _ A4.out).mono ?_); rintro e w' ⟨rfl, ⟨nd, rfl⟩⟩; refine ⟨_, rfl, ?_⟩))
   go_ret
   exact ⟨by first | rfl | (simp [errW_none, errW_some] <;> rfl) | (simp [*, errW_none, errW_some] <;> rfl), hbA HB⟩
  ·
   rw [if_neg c5] at H
   have c5b0 : (t103 == 0) = false := beq_eq_false_iff_ne.mpr c5
   have c5b1 : (t103 != 0) = true := bne_iff_ne.mpr c5
   replace H := Option.bind_eq_some_iff.mp H
   obtain ⟨⟨t104, t105⟩, A80, H⟩ := H
   replace H : (if t105 = 0 then (if (a0_3.size : Int) = (wrap64 (t104 * t103)) then (agateref07_Check.l0 k t104 0 a0_0 a0_1 l0_2 a0_3) else (some 19)) else (some t105)) = some r := H
   have A8 := Aside0.mk A80
   clear A80
   by_cases c9 : t105 = 0
   ·
    rw [if_pos c9] at H
    have c9b0 : (t105 == 0) = true := beq_iff_eq.mpr c9
    have c9b1 : (t105 != 0) = false := bne_eq_false_iff_eq.mpr c9
    clear c9
    by_cases c10 : (a0_3.size : Int) = (wrap64 (t104 * t103))
    ·
     rw [if_pos c10] at H
     have c10b0 : ((a0_3.size : Int) == (wrap64 (t104 * t103))) = true := beq_iff_eq.mpr c10
     have c10b1 : ((a0_3.size : Int) != (wrap64 (t104 * t103))) = false := bne_eq_false_iff_eq.mpr c10
     clear c10
     have H' := Aside0.mk H
     clear H
     go_enter Try.func37, Try.ntmps37
     go_wp2_with (first | ((with_reducible refine gate_dst (N := 1) rfl ?_); refine box_event ?hg (N := 1) ?hd (cs := #[.string a0_0, .int .i64 a0_1, .slice A0_2 l0_2.length c0_2, .string a0_3]) (t := 64) ?hr ?_; (case hd => rfl); (case hg => rfl); (case hr => first | (go_simp; done) | (go_simp; rfl)); intro gb101 hg w11 hbox hb; have n0_ := Aside0.mk (below_step (hbA HB) hb); have n1_ := Aside0.mk (hbox); have n2_ := Aside0.mk ((by rw [hg]; exact (below_size (hbA HB)) : w.heap.size ≤ gb101)); have n3_ := Aside0.mk ((by rw [hg]; exact (below_size (hbA HB)) : w.heap.size ≤ gb101)); clear HB; have HB := n0_; have BK101 := n1_; have GW101 := n2_; have GE101 := n3_; clear n0_ n1_ n2_ n3_; clear hb hbox hg; have hcz12_0 : w11.cell? ⟨gb101, 0, none⟩ = some (.string a0_0) := bcA BK101 0; have hcz12_1 : w11.cell? ⟨gb101, 1, none⟩ = some (.int .i64 a0_1) := bcA BK101 1; have hcz12_2 : w11.cell? ⟨gb101, 2, none⟩ = some (.slice A0_2 l0_2.length c0_2) := bcA BK101 2; have hcz12_3 : w11.cell? ⟨gb101, 3, none⟩ = some (.string a0_3) := bcA BK101 3; have hfz12_0 := blk_frozen BK101.out 0; have hfz12_1 := blk_frozen BK101.out 1; have hfz12_2 := blk_frozen BK101.out 2; have hfz12_3 := blk_frozen BK101.out 3) | ((with_reducible refine gate_callee (f := 42) rfl ?_); refine goesL_ (some 11) rfl rfl Try.func42 (by kernel_rfl) rfl #[.string a0_0] rfl (by (try simp only [List.map_toArray, List.map_cons, List.map_nil]); first | done | rfl | (simp only [List.length_drop, List.length_take]; rfl)) ?_; (with_reducible refine (agateref07_Name_s.calls a0_0 true _ A2.out).mono ?_); rintro e w' ⟨rfl, ⟨nd, rfl⟩⟩; refine ⟨_, rfl, ?_⟩) | ((with_reducible refine gate_callee (f := 43) rfl ?_); refine goesL_ (some 15) rfl rfl Try.func43 (by kernel_rfl) rfl #[.int .i64 a0_1] rfl (by (try simp only [List.map_toArray, List.map_cons, List.map_nil]); first | done | rfl | (simp only [List.length_drop, List.length_take]; rfl)) ?_; (with_reducible refine (agateref04_Size_s.calls a0_1 t103 _ A4.out).mono ?_); rintro e w' ⟨rfl, ⟨nd, rfl⟩⟩; refine ⟨_, rfl, ?_⟩) | ((with_reducible refine gate_callee (f := 27) rfl ?_); refine goesL_ (some 21) rfl rfl Try.func27 (by kernel_rfl) rfl #[.slice A0_2 l0_2.length c0_2] rfl (by (try simp only [List.map_toArray, List.map_cons, List.map_nil]); first | done | rfl | (simp only [List.length_drop, List.length_take]; rfl)) ?_; (with_reducible refine (agateref05_Size_s.calls _ _ l0_2 t104 t105 _ ?side1 ?side2 A8.out).mono ?_); (case side1 => repeat (first | exact (Kd.C_below HR0_2.out (hbA HB)) | (with_reducible refine Kd.C_alloc ?_ _) | (with_reducible refine Kd.C_drewN ?_ _) | (with_reducible refine Kd.C_drew ?_))); (case side2 => exact HC0_2.out); rintro e w' ⟨rfl, ⟨nd, rfl⟩⟩; refine ⟨_, rfl, ?_⟩))
     go_loopg [6] k (fun kq v6 w' => ∃ (x6_1 : Int), v6 = .int .i64 x6_1 ∧ Aside0 (agateref07_Check.l0 kq t104 x6_1 a0_0 a0_1 l0_2 a0_3 = some r) ∧ Aside0 (kq ≤ k) ∧ Aside0 (w'.heap[gb101]? = some (.cells #[.string a0_0, .int .i64 a0_1, (.slice A0_2 l0_2.length c0_2), .string a0_3] 64 (0, 0))) ∧ Aside0 (Below w.heap.size w w'))
     case atStart => exact ⟨(0), (by first | rfl | (simp; done) | (simp [*]; done)), H', ⟨Nat.le_refl _⟩, ⟨bkA BK101⟩, ⟨hbA HB⟩⟩
     case round =>
      clear H'
      obtain ⟨x6_1, rfl, HA, HK1, BK101, HB⟩ := hrel
      cases gk with
      | zero => exact absurd HA.out (by simp [agateref07_Check.l0])
      | succ k1 =>
       have H := HA.out; clear HA
       simp only [agateref07_Check.l0] at H
       by_cases c13 : x6_1 < t104
       ·
        rw [if_pos c13] at H
        have c13b0 : decide (x6_1 < t104) = true := decide_eq_true c13
        clear c13
        have HC14 := Aside0.mk H
        clear H
        go_upto_region 14 with (fail)
        go_cut [48] (fun v48 wc => ∃ (kq : Nat) (x48_13 : Bool), v48 = .bool x48_13 ∧ Aside0 (agateref07_Check.j1 kq t104 x6_1 x48_13 a0_0 a0_1 l0_2 a0_3 = some r) ∧ Aside0 (kq ≤ k1) ∧ Aside0 (wc.heap[gb101]? = some (.cells #[.string a0_0, .int .i64 a0_1, (.slice A0_2 l0_2.length c0_2), .string a0_3] 64 (0, 0))) ∧ Aside0 (Below w.heap.size w wc))
        case first =>
         have H := HC14.out; clear HC14
         by_cases c15 : a0_1 = 9
         ·
          rw [if_pos c15] at H
          have c15b0 : (a0_1 == 9) = true := beq_iff_eq.mpr c15
          have c15b1 : (a0_1 != 9) = false := bne_eq_false_iff_eq.mpr c15
          clear c15
          (first | rw [c15b0] | (simp only [i64_w, i32_w]; rw [c15b0]) | skip)
          by_cases c16 : 0 ≤ x6_1
          ·
           rw [if_pos c16] at H
           have c16b0 : decide (0 ≤ x6_1) = true := decide_eq_true c16
           clear c16
           by_cases c17 : x6_1 < (a0_3.size : Int)
           ·
            rw [if_pos c17] at H
            have c17b0 : decide (x6_1 < (a0_3.size : Int)) = true := decide_eq_true c17
            clear c17
            have H' := Aside0.mk H
            clear H; have hcz19_0 : wr.cell? ⟨gb101, 0, none⟩ = some (.string a0_0) := bcA BK101 0; have hcz19_1 : wr.cell? ⟨gb101, 1, none⟩ = some (.int .i64 a0_1) := bcA BK101 1; have hcz19_2 : wr.cell? ⟨gb101, 2, none⟩ = some (.slice A0_2 l0_2.length c0_2) := bcA BK101 2; have hcz19_3 : wr.cell? ⟨gb101, 3, none⟩ = some (.string a0_3) := bcA BK101 3; have hfz19_0 := blk_frozen BK101.out 0; have hfz19_1 := blk_frozen BK101.out 1; have hfz19_2 := blk_frozen BK101.out 2; have hfz19_3 := blk_frozen BK101.out 3
            have p18 : 0 ≤ (x6_1 : Int) := of_decide_eq_true (by first | (with_reducible assumption) | assumption)
            have q18 : x6_1 < (a0_3.size : Int) := of_decide_eq_true (by first | (with_reducible assumption) | assumption)
            have hx18 := bt_at a0_3 x6_1
            replace p18 := eq_true p18
            replace q18 := eq_true q18
            go_wp2
            go_meet
            case rel => exact ⟨_, (decide ((bt a0_3 x6_1) > 1)), (by first | rfl | (simp; done) | (simp [*]; done)), H', ⟨by have := HK1.out; first | omega | exact Nat.le_refl _⟩, ⟨bkA BK101⟩, ⟨hbA HB⟩⟩
           ·
            rw [if_neg c17] at H
            exact absurd H (by simp)
          ·
           rw [if_neg c16] at H
           exact absurd H (by simp)
         ·
          rw [if_neg c15] at H
          have c15b0 : (a0_1 == 9) = false := beq_eq_false_iff_ne.mpr c15
          have c15b1 : (a0_1 != 9) = true := bne_iff_ne.mpr c15
          (first | rw [c15b0] | (simp only [i64_w, i32_w]; rw [c15b0]) | skip)
          have H' := Aside0.mk H
          clear H; have hcz20_0 : wr.cell? ⟨gb101, 0, none⟩ = some (.string a0_0) := bcA BK101 0; have hcz20_1 : wr.cell? ⟨gb101, 1, none⟩ = some (.int .i64 a0_1) := bcA BK101 1; have hcz20_2 : wr.cell? ⟨gb101, 2, none⟩ = some (.slice A0_2 l0_2.length c0_2) := bcA BK101 2; have hcz20_3 : wr.cell? ⟨gb101, 3, none⟩ = some (.string a0_3) := bcA BK101 3; have hfz20_0 := blk_frozen BK101.out 0; have hfz20_1 := blk_frozen BK101.out 1; have hfz20_2 := blk_frozen BK101.out 2; have hfz20_3 := blk_frozen BK101.out 3
          go_wp2
          go_meet
          case rel => exact ⟨_, (false), (by first | rfl | (simp; done) | (simp [*]; done)), H', ⟨by have := HK1.out; first | omega | exact Nat.le_refl _⟩, ⟨bkA BK101⟩, ⟨hbA HB⟩⟩
        case rest =>
         clear HC14; try clear c3; try clear c5; try clear c5b0; try clear c5b1; try clear c9; try clear c9b0; try clear c9b1; try clear c10; try clear c10b0; try clear c10b1; try clear c13; try clear c13b0; try clear c15; try clear c15b0; try clear c15b1; try clear c16; try clear c16b0; try clear c17; try clear c17b0; try clear p18; try clear q18; try clear hx18; try clear hcz12_0; try clear hcz12_1; try clear hcz12_2; try clear hcz12_3; try clear hcz19_0; try clear hcz19_1; try clear hcz19_2; try clear hcz19_3; try clear hcz20_0; try clear hcz20_1; try clear hcz20_2; try clear hcz20_3; try clear hcz7_0; try clear hcz7_1; try clear hcz7_2; try clear hcz7_3; try clear hfz12_0; try clear hfz12_1; try clear hfz12_2; try clear hfz12_3; try clear hfz19_0; try clear hfz19_1; try clear hfz19_2; try clear hfz19_3; try clear hfz20_0; try clear hfz20_1; try clear hfz20_2; try clear hfz20_3; try clear hfz7_0; try clear hfz7_1; try clear hfz7_2; try clear hfz7_3; try clear p18; try clear q18
         obtain ⟨kq, x48_13, rfl, HA, HJ13, BK101, HB⟩ := hcut
         cases kq with
         | zero => exact absurd HA.out (by simp [agateref07_Check.j1])
         | succ kj13 =>
          have H := HA.out; clear HA
          simp only [agateref07_Check.j1] at H
          by_cases c21 : x48_13 = true
          ·
           subst c21
           have H1 : (some 17) = some r := by rw [if_pos rfl] at H; exact H
           clear H
           have H := H1
           clear H1
           obtain rfl := Option.some.inj H
           go_wp2
           go_ret
           exact ⟨by first | rfl | (simp [errW_none, errW_some] <;> rfl) | (simp [*, errW_none, errW_some] <;> rfl), hbA HB⟩
          ·
           replace c21 := Bool.eq_false_iff.mpr c21
           subst c21
           have H1 : (if a0_1 = 14 then (if 0 ≤ (wrap64 (8 * x6_1)) then (if (wrap64 (8 * x6_1)) ≤ (wrap64 ((wrap64 (8 * x6_1)) + 8)) then (if (wrap64 ((wrap64 (8 * x6_1)) + 8)) ≤ (a0_3.size : Int) then ((agateref06_Read_s.f (a0_3.extract ((wrap64 (8 * x6_1)) : Int).toNat ((wrap64 ((wrap64 (8 * x6_1)) + 8)) : Int).toNat)).bind fun bt106 => (if bt106.2.2 = 0 then (agateref07_Check.l0 kj13 t104 (wrap64 (x6_1 + 1)) a0_0 a0_1 l0_2 a0_3) else (some 17))) else (none)) else (none)) else (none)) else (agateref07_Check.l0 kj13 t104 (wrap64 (x6_1 + 1)) a0_0 a0_1 l0_2 a0_3)) = some r := by rw [if_neg (show ¬ (false = true) by decide)] at H; exact H
           clear H
           have H := H1
           clear H1
           by_cases c22 : a0_1 = 14
           ·
            rw [if_pos c22] at H
            have c22b0 : (a0_1 == 14) = true := beq_iff_eq.mpr c22
            have c22b1 : (a0_1 != 14) = false := bne_eq_false_iff_eq.mpr c22
            clear c22
            obtain ⟨ji23, hji23⟩ : ∃ j_ : Int, (wrap64 (8 * x6_1)) = j_ := ⟨_, rfl⟩
            replace H : (if 0 ≤ (ji23) then (if (ji23) ≤ (wrap64 ((ji23) + 8)) then (if (wrap64 ((ji23) + 8)) ≤ (a0_3.size : Int) then ((agateref06_Read_s.f (a0_3.extract ((ji23) : Int).toNat ((wrap64 ((ji23) + 8)) : Int).toNat)).bind fun bt106 => (if bt106.2.2 = 0 then (agateref07_Check.l0 kj13 t104 (wrap64 (x6_1 + 1)) a0_0 a0_1 l0_2 a0_3) else (some 17))) else (none)) else (none)) else (none)) = some r := by first | (rw [hji23] at H; exact H) | (simp only [hji23] at H ⊢; exact H)
            have hji23w : (IntKind.i64.wrap (8 * x6_1)) = ji23 := (i64_w _).trans hji23
            by_cases c24 : 0 ≤ (ji23)
            ·
             rw [if_pos c24] at H
             have c24b0 := eq_true c24
             have c24b1 : decide (0 ≤ (ji23)) = true := decide_eq_true c24
             clear c24
             by_cases c25 : (ji23) ≤ (wrap64 ((ji23) + 8))
             ·
              rw [if_pos c25] at H
              have c25b0 := eq_true c25
              have c25b1 : decide ((ji23) ≤ (wrap64 ((ji23) + 8))) = true := decide_eq_true c25
              by_cases c26 : (wrap64 ((ji23) + 8)) ≤ (a0_3.size : Int)
              ·
               rw [if_pos c26] at H
               have c26b0 := eq_true c26
               have c26b1 : decide ((wrap64 ((ji23) + 8)) ≤ (a0_3.size : Int)) = true := decide_eq_true c26
               replace H := Option.bind_eq_some_iff.mp H
               obtain ⟨⟨t106, t107, t108⟩, A270, H⟩ := H
               replace H : (if t108 = 0 then (agateref07_Check.l0 kj13 t104 (wrap64 (x6_1 + 1)) a0_0 a0_1 l0_2 a0_3) else (some 17)) = some r := H
               have A27 := Aside0.mk A270
               clear A270
               by_cases c28 : t108 = 0
               ·
                rw [if_pos c28] at H
                have c28b0 : (t108 == 0) = true := beq_iff_eq.mpr c28
                have c28b1 : (t108 != 0) = false := bne_eq_false_iff_eq.mpr c28
                clear c28
                have H' := Aside0.mk H
                clear H; have hcz29_0 : wc.cell? ⟨gb101, 0, none⟩ = some (.string a0_0) := bcA BK101 0; have hcz29_1 : wc.cell? ⟨gb101, 1, none⟩ = some (.int .i64 a0_1) := bcA BK101 1; have hcz29_2 : wc.cell? ⟨gb101, 2, none⟩ = some (.slice A0_2 l0_2.length c0_2) := bcA BK101 2; have hcz29_3 : wc.cell? ⟨gb101, 3, none⟩ = some (.string a0_3) := bcA BK101 3; have hfz29_0 := blk_frozen BK101.out 0; have hfz29_1 := blk_frozen BK101.out 1; have hfz29_2 := blk_frozen BK101.out 2; have hfz29_3 := blk_frozen BK101.out 3
                go_wp2_with (first | ((with_reducible refine gate_callee (f := 25) rfl ?_); refine goesL_ (some 61) rfl rfl Try.func25 (by kernel_rfl) rfl #[.string (a0_3.extract ((ji23) : Int).toNat ((wrap64 ((ji23) + 8)) : Int).toNat)] rfl (by (try simp only [List.map_toArray, List.map_cons, List.map_nil]); first | done | (simp only [hji23]; rfl) | rfl | (simp only [List.length_drop, List.length_take]; rfl)) ?_; (with_reducible refine (agateref06_Read_s.calls (a0_3.extract ((ji23) : Int).toNat ((wrap64 ((ji23) + 8)) : Int).toNat) t106 t107 t108 _ A27.out).mono ?_); rintro e w30 ⟨rfl, hb⟩; refine ⟨_, rfl, ?_⟩; have n0_ := Aside0.mk (blk_below (g := gb101) (bkA BK101) hb); have n1_ := Aside0.mk (below_step (hbA HB) hb); clear BK101; clear HB; have BK101 := n0_; have HB := n1_; clear n0_ n1_; (try clear hb); (try clear hb2); (try clear hk); (try clear hi)) | ((with_reducible refine gate_dst (N := 7) rfl ?_); refine box_event ?hg (N := 7) ?hd (cs := #[.int .i64 0, .int .i64 0]) (t := 23) ?hr ?_; (case hd => rfl); (case hg => rfl); (case hr => first | (go_simp; done) | (go_simp; rfl)); intro gb109 hg w31 hbox hb; have n0_ := Aside0.mk (blk_below (g := gb101) (bkA BK101) hb); have n1_ := Aside0.mk (below_step (hbA HB) hb); have n2_ := Aside0.mk (hbox); have n3_ := Aside0.mk ((by rw [hg]; exact (below_size (hbA HB)) : w.heap.size ≤ gb109)); have n4_ := Aside0.mk ((by rw [hg]; exact (below_size (hbA HB)) : w.heap.size ≤ gb109)); have n5_ := Aside0.mk ((by rw [hg]; exact Nat.ne_of_lt (blk_lt (g := gb101) (bkA BK101)) : gb101 ≠ gb109)); have n6_ := Aside0.mk ((by rw [hg]; exact Nat.ne_of_gt (blk_lt (g := gb101) (bkA BK101)) : gb109 ≠ gb101)); clear BK101; clear HB; have BK101 := n0_; have HB := n1_; have BK109 := n2_; have GW109 := n3_; have GE109 := n4_; have NB101_109 := n5_; have NB109_101 := n6_; clear n0_ n1_ n2_ n3_ n4_ n5_ n6_; clear hb hbox hg; have hnb32 := NB109_101.out; have hnc32 := NB101_109.out; have hcz33_0 : w31.cell? ⟨gb109, 0, none⟩ = some (.int .i64 0) := bcA BK109 0; have hcz33_1 : w31.cell? ⟨gb109, 1, none⟩ = some (.int .i64 0) := bcA BK109 1; have hfz33_0 := blk_frozen BK109.out 0; have hfz33_1 := blk_frozen BK109.out 1))
                go_roundg kj13
                case measure => have := HK1.out; have := HJ13.out; omega
                case rel => exact ⟨(wrap64 (x6_1 + 1)), (by first | rfl | (simp; done) | (simp [*]; done)), H', ⟨by have := HK1.out; have := HJ13.out; omega⟩, ⟨by (with_reducible repeat (first | refine blk_drewN ?_ _ | refine blk_drew ?_ | refine blk_alloc ?_ _)); refine blk_far ?_ NB101_109.out _; (with_reducible repeat (first | refine blk_drewN ?_ _ | refine blk_drew ?_ | refine blk_alloc ?_ _)); refine blk_far ?_ NB101_109.out _; (with_reducible repeat (first | refine blk_drewN ?_ _ | refine blk_drew ?_ | refine blk_alloc ?_ _)); exact BK101.out⟩, ⟨hbA HB⟩⟩
               ·
                rw [if_neg c28] at H
                have c28b0 : (t108 == 0) = false := beq_eq_false_iff_ne.mpr c28
                have c28b1 : (t108 != 0) = true := bne_iff_ne.mpr c28
                obtain rfl := Option.some.inj H
                have hcz34_0 : wc.cell? ⟨gb101, 0, none⟩ = some (.string a0_0) := bcA BK101 0; have hcz34_1 : wc.cell? ⟨gb101, 1, none⟩ = some (.int .i64 a0_1) := bcA BK101 1; have hcz34_2 : wc.cell? ⟨gb101, 2, none⟩ = some (.slice A0_2 l0_2.length c0_2) := bcA BK101 2; have hcz34_3 : wc.cell? ⟨gb101, 3, none⟩ = some (.string a0_3) := bcA BK101 3; have hfz34_0 := blk_frozen BK101.out 0; have hfz34_1 := blk_frozen BK101.out 1; have hfz34_2 := blk_frozen BK101.out 2; have hfz34_3 := blk_frozen BK101.out 3
                go_wp2_with (first | ((with_reducible refine gate_callee (f := 25) rfl ?_); refine goesL_ (some 61) rfl rfl Try.func25 (by kernel_rfl) rfl #[.string (a0_3.extract ((ji23) : Int).toNat ((wrap64 ((ji23) + 8)) : Int).toNat)] rfl (by (try simp only [List.map_toArray, List.map_cons, List.map_nil]); first | done | (simp only [hji23]; rfl) | rfl | (simp only [List.length_drop, List.length_take]; rfl)) ?_; (with_reducible refine (agateref06_Read_s.calls (a0_3.extract ((ji23) : Int).toNat ((wrap64 ((ji23) + 8)) : Int).toNat) t106 t107 t108 _ A27.out).mono ?_); rintro e w35 ⟨rfl, hb⟩; refine ⟨_, rfl, ?_⟩; have n0_ := Aside0.mk (blk_below (g := gb101) (bkA BK101) hb); have n1_ := Aside0.mk (below_step (hbA HB) hb); clear BK101; clear HB; have BK101 := n0_; have HB := n1_; clear n0_ n1_; (try clear hb); (try clear hb2); (try clear hk); (try clear hi)) | ((with_reducible refine gate_dst (N := 7) rfl ?_); refine box_event ?hg (N := 7) ?hd (cs := #[.int .i64 0, .int .i64 0]) (t := 23) ?hr ?_; (case hd => rfl); (case hg => rfl); (case hr => first | (go_simp; done) | (go_simp; rfl)); intro gb109 hg w36 hbox hb; have n0_ := Aside0.mk (blk_below (g := gb101) (bkA BK101) hb); have n1_ := Aside0.mk (below_step (hbA HB) hb); have n2_ := Aside0.mk (hbox); have n3_ := Aside0.mk ((by rw [hg]; exact (below_size (hbA HB)) : w.heap.size ≤ gb109)); have n4_ := Aside0.mk ((by rw [hg]; exact (below_size (hbA HB)) : w.heap.size ≤ gb109)); have n5_ := Aside0.mk ((by rw [hg]; exact Nat.ne_of_lt (blk_lt (g := gb101) (bkA BK101)) : gb101 ≠ gb109)); have n6_ := Aside0.mk ((by rw [hg]; exact Nat.ne_of_gt (blk_lt (g := gb101) (bkA BK101)) : gb109 ≠ gb101)); clear BK101; clear HB; have BK101 := n0_; have HB := n1_; have BK109 := n2_; have GW109 := n3_; have GE109 := n4_; have NB101_109 := n5_; have NB109_101 := n6_; clear n0_ n1_ n2_ n3_ n4_ n5_ n6_; clear hb hbox hg; have hnb37 := NB109_101.out; have hnc37 := NB101_109.out; have hcz38_0 : w36.cell? ⟨gb109, 0, none⟩ = some (.int .i64 0) := bcA BK109 0; have hcz38_1 : w36.cell? ⟨gb109, 1, none⟩ = some (.int .i64 0) := bcA BK109 1; have hfz38_0 := blk_frozen BK109.out 0; have hfz38_1 := blk_frozen BK109.out 1))
                go_ret
                exact ⟨by first | rfl | (simp [errW_none, errW_some] <;> rfl) | (simp only [← hji23]; first | rfl | (simp [errW_none, errW_some] <;> rfl)) | (simp [*, errW_none, errW_some] <;> rfl), hbA HB⟩
              ·
               rw [if_neg c26] at H
               exact absurd H (by simp)
             ·
              rw [if_neg c25] at H
              exact absurd H (by simp)
            ·
             rw [if_neg c24] at H
             exact absurd H (by simp)
           ·
            rw [if_neg c22] at H
            have c22b0 : (a0_1 == 14) = false := beq_eq_false_iff_ne.mpr c22
            have c22b1 : (a0_1 != 14) = true := bne_iff_ne.mpr c22
            have H' := Aside0.mk H
            clear H; have hcz39_0 : wc.cell? ⟨gb101, 0, none⟩ = some (.string a0_0) := bcA BK101 0; have hcz39_1 : wc.cell? ⟨gb101, 1, none⟩ = some (.int .i64 a0_1) := bcA BK101 1; have hcz39_2 : wc.cell? ⟨gb101, 2, none⟩ = some (.slice A0_2 l0_2.length c0_2) := bcA BK101 2; have hcz39_3 : wc.cell? ⟨gb101, 3, none⟩ = some (.string a0_3) := bcA BK101 3; have hfz39_0 := blk_frozen BK101.out 0; have hfz39_1 := blk_frozen BK101.out 1; have hfz39_2 := blk_frozen BK101.out 2; have hfz39_3 := blk_frozen BK101.out 3
            go_wp2
            go_roundg kj13
            case measure => have := HK1.out; have := HJ13.out; omega
            case rel => exact ⟨(wrap64 (x6_1 + 1)), (by first | rfl | (simp; done) | (simp [*]; done)), H', ⟨by have := HK1.out; have := HJ13.out; omega⟩, ⟨bkA BK101⟩, ⟨hbA HB⟩⟩
       ·
        rw [if_neg c13] at H
        have c13b0 : decide (x6_1 < t104) = false := decide_eq_false c13
        clear c13
        obtain rfl := Option.some.inj H
        go_wp2
        go_ret
        exact ⟨by first | rfl | (simp [errW_none, errW_some] <;> rfl) | (simp [*, errW_none, errW_some] <;> rfl), hbA HB⟩
    ·
     rw [if_neg c10] at H
     have c10b0 : ((a0_3.size : Int) == (wrap64 (t104 * t103))) = false := beq_eq_false_iff_ne.mpr c10
     have c10b1 : ((a0_3.size : Int) != (wrap64 (t104 * t103))) = true := bne_iff_ne.mpr c10
     obtain rfl := Option.some.inj H
     go_enter Try.func37, Try.ntmps37
     go_wp2_with (first | ((with_reducible refine gate_dst (N := 1) rfl ?_); refine box_event ?hg (N := 1) ?hd (cs := #[.string a0_0, .int .i64 a0_1, .slice A0_2 l0_2.length c0_2, .string a0_3]) (t := 64) ?hr ?_; (case hd => rfl); (case hg => rfl); (case hr => first | (go_simp; done) | (go_simp; rfl)); intro gb101 hg w40 hbox hb; have n0_ := Aside0.mk (below_step (hbA HB) hb); have n1_ := Aside0.mk (hbox); have n2_ := Aside0.mk ((by rw [hg]; exact (below_size (hbA HB)) : w.heap.size ≤ gb101)); have n3_ := Aside0.mk ((by rw [hg]; exact (below_size (hbA HB)) : w.heap.size ≤ gb101)); clear HB; have HB := n0_; have BK101 := n1_; have GW101 := n2_; have GE101 := n3_; clear n0_ n1_ n2_ n3_; clear hb hbox hg; have hcz41_0 : w40.cell? ⟨gb101, 0, none⟩ = some (.string a0_0) := bcA BK101 0; have hcz41_1 : w40.cell? ⟨gb101, 1, none⟩ = some (.int .i64 a0_1) := bcA BK101 1; have hcz41_2 : w40.cell? ⟨gb101, 2, none⟩ = some (.slice A0_2 l0_2.length c0_2) := bcA BK101 2; have hcz41_3 : w40.cell? ⟨gb101, 3, none⟩ = some (.string a0_3) := bcA BK101 3; have hfz41_0 := blk_frozen BK101.out 0; have hfz41_1 := blk_frozen BK101.out 1; have hfz41_2 := blk_frozen BK101.out 2; have hfz41_3 := blk_frozen BK101.out 3) | ((with_reducible refine gate_callee (f := 42) rfl ?_); refine goesL_ (some 11) rfl rfl Try.func42 (by kernel_rfl) rfl #[.string a0_0] rfl (by (try simp only [List.map_toArray, List.map_cons, List.map_nil]); first | done | rfl | (simp only [List.length_drop, List.length_take]; rfl)) ?_; (with_reducible refine (agateref07_Name_s.calls a0_0 true _ A2.out).mono ?_); rintro e w' ⟨rfl, ⟨nd, rfl⟩⟩; refine ⟨_, rfl, ?_⟩) | ((with_reducible refine gate_callee (f := 43) rfl ?_); refine goesL_ (some 15) rfl rfl Try.func43 (by kernel_rfl) rfl #[.int .i64 a0_1] rfl (by (try simp only [List.map_toArray, List.map_cons, List.map_nil]); first | done | rfl | (simp only [List.length_drop, List.length_take]; rfl)) ?_; (with_reducible refine (agateref04_Size_s.calls a0_1 t103 _ A4.out).mono ?_); rintro e w' ⟨rfl, ⟨nd, rfl⟩⟩; refine ⟨_, rfl, ?_⟩) | ((with_reducible refine gate_callee (f := 27) rfl ?_); refine goesL_ (some 21) rfl rfl Try.func27 (by kernel_rfl) rfl #[.slice A0_2 l0_2.length c0_2] rfl (by (try simp only [List.map_toArray, List.map_cons, List.map_nil]); first | done | rfl | (simp only [List.length_drop, List.length_take]; rfl)) ?_; (with_reducible refine (agateref05_Size_s.calls _ _ l0_2 t104 t105 _ ?side1 ?side2 A8.out).mono ?_); (case side1 => repeat (first | exact (Kd.C_below HR0_2.out (hbA HB)) | (with_reducible refine Kd.C_alloc ?_ _) | (with_reducible refine Kd.C_drewN ?_ _) | (with_reducible refine Kd.C_drew ?_))); (case side2 => exact HC0_2.out); rintro e w' ⟨rfl, ⟨nd, rfl⟩⟩; refine ⟨_, rfl, ?_⟩))
     go_ret
     exact ⟨by first | rfl | (simp [errW_none, errW_some] <;> rfl) | (simp [*, errW_none, errW_some] <;> rfl), hbA HB⟩
   ·
    rw [if_neg c9] at H
    have c9b0 : (t105 == 0) = false := beq_eq_false_iff_ne.mpr c9
    have c9b1 : (t105 != 0) = true := bne_iff_ne.mpr c9
    obtain rfl := Option.some.inj H
    go_enter Try.func37, Try.ntmps37
    go_wp2_with (first | ((with_reducible refine gate_dst (N := 1) rfl ?_); refine box_event ?hg (N := 1) ?hd (cs := #[.string a0_0, .int .i64 a0_1, .slice A0_2 l0_2.length c0_2, .string a0_3]) (t := 64) ?hr ?_; (case hd => rfl); (case hg => rfl); (case hr => first | (go_simp; done) | (go_simp; rfl)); intro gb101 hg w42 hbox hb; have n0_ := Aside0.mk (below_step (hbA HB) hb); have n1_ := Aside0.mk (hbox); have n2_ := Aside0.mk ((by rw [hg]; exact (below_size (hbA HB)) : w.heap.size ≤ gb101)); have n3_ := Aside0.mk ((by rw [hg]; exact (below_size (hbA HB)) : w.heap.size ≤ gb101)); clear HB; have HB := n0_; have BK101 := n1_; have GW101 := n2_; have GE101 := n3_; clear n0_ n1_ n2_ n3_; clear hb hbox hg; have hcz43_0 : w42.cell? ⟨gb101, 0, none⟩ = some (.string a0_0) := bcA BK101 0; have hcz43_1 : w42.cell? ⟨gb101, 1, none⟩ = some (.int .i64 a0_1) := bcA BK101 1; have hcz43_2 : w42.cell? ⟨gb101, 2, none⟩ = some (.slice A0_2 l0_2.length c0_2) := bcA BK101 2; have hcz43_3 : w42.cell? ⟨gb101, 3, none⟩ = some (.string a0_3) := bcA BK101 3; have hfz43_0 := blk_frozen BK101.out 0; have hfz43_1 := blk_frozen BK101.out 1; have hfz43_2 := blk_frozen BK101.out 2; have hfz43_3 := blk_frozen BK101.out 3) | ((with_reducible refine gate_callee (f := 42) rfl ?_); refine goesL_ (some 11) rfl rfl Try.func42 (by kernel_rfl) rfl #[.string a0_0] rfl (by (try simp only [List.map_toArray, List.map_cons, List.map_nil]); first | done | rfl | (simp only [List.length_drop, List.length_take]; rfl)) ?_; (with_reducible refine (agateref07_Name_s.calls a0_0 true _ A2.out).mono ?_); rintro e w' ⟨rfl, ⟨nd, rfl⟩⟩; refine ⟨_, rfl, ?_⟩) | ((with_reducible refine gate_callee (f := 43) rfl ?_); refine goesL_ (some 15) rfl rfl Try.func43 (by kernel_rfl) rfl #[.int .i64 a0_1] rfl (by (try simp only [List.map_toArray, List.map_cons, List.map_nil]); first | done | rfl | (simp only [List.length_drop, List.length_take]; rfl)) ?_; (with_reducible refine (agateref04_Size_s.calls a0_1 t103 _ A4.out).mono ?_); rintro e w' ⟨rfl, ⟨nd, rfl⟩⟩; refine ⟨_, rfl, ?_⟩) | ((with_reducible refine gate_callee (f := 27) rfl ?_); refine goesL_ (some 21) rfl rfl Try.func27 (by kernel_rfl) rfl #[.slice A0_2 l0_2.length c0_2] rfl (by (try simp only [List.map_toArray, List.map_cons, List.map_nil]); first | done | rfl | (simp only [List.length_drop, List.length_take]; rfl)) ?_; (with_reducible refine (agateref05_Size_s.calls _ _ l0_2 t104 t105 _ ?side1 ?side2 A8.out).mono ?_); (case side1 => repeat (first | exact (Kd.C_below HR0_2.out (hbA HB)) | (with_reducible refine Kd.C_alloc ?_ _) | (with_reducible refine Kd.C_drewN ?_ _) | (with_reducible refine Kd.C_drew ?_))); (case side2 => exact HC0_2.out); rintro e w' ⟨rfl, ⟨nd, rfl⟩⟩; refine ⟨_, rfl, ?_⟩))
    go_ret
    exact ⟨by first | rfl | (simp [errW_none, errW_some] <;> rfl) | (simp [*, errW_none, errW_some] <;> rfl), hbA HB⟩
 ·
  replace c3 := Bool.eq_false_iff.mpr c3
  subst c3
  have H1 : (some 8) = some r := by rw [if_neg (show ¬ (false = true) by decide)] at H; exact H
  clear H
  have H := H1
  clear H1
  obtain rfl := Option.some.inj H
  go_enter Try.func37, Try.ntmps37
  go_wp2_with (first | ((with_reducible refine gate_dst (N := 1) rfl ?_); refine box_event ?hg (N := 1) ?hd (cs := #[.string a0_0, .int .i64 a0_1, .slice A0_2 l0_2.length c0_2, .string a0_3]) (t := 64) ?hr ?_; (case hd => rfl); (case hg => rfl); (case hr => first | (go_simp; done) | (go_simp; rfl)); intro gb101 hg w44 hbox hb; have n0_ := Aside0.mk (below_step (hbA HB) hb); have n1_ := Aside0.mk (hbox); have n2_ := Aside0.mk ((by rw [hg]; exact (below_size (hbA HB)) : w.heap.size ≤ gb101)); have n3_ := Aside0.mk ((by rw [hg]; exact (below_size (hbA HB)) : w.heap.size ≤ gb101)); clear HB; have HB := n0_; have BK101 := n1_; have GW101 := n2_; have GE101 := n3_; clear n0_ n1_ n2_ n3_; clear hb hbox hg; have hcz45_0 : w44.cell? ⟨gb101, 0, none⟩ = some (.string a0_0) := bcA BK101 0; have hcz45_1 : w44.cell? ⟨gb101, 1, none⟩ = some (.int .i64 a0_1) := bcA BK101 1; have hcz45_2 : w44.cell? ⟨gb101, 2, none⟩ = some (.slice A0_2 l0_2.length c0_2) := bcA BK101 2; have hcz45_3 : w44.cell? ⟨gb101, 3, none⟩ = some (.string a0_3) := bcA BK101 3; have hfz45_0 := blk_frozen BK101.out 0; have hfz45_1 := blk_frozen BK101.out 1; have hfz45_2 := blk_frozen BK101.out 2; have hfz45_3 := blk_frozen BK101.out 3) | ((with_reducible refine gate_callee (f := 42) rfl ?_); refine goesL_ (some 11) rfl rfl Try.func42 (by kernel_rfl) rfl #[.string a0_0] rfl (by (try simp only [List.map_toArray, List.map_cons, List.map_nil]); first | done | rfl | (simp only [List.length_drop, List.length_take]; rfl)) ?_; (with_reducible refine (agateref07_Name_s.calls a0_0 false _ A2.out).mono ?_); rintro e w' ⟨rfl, ⟨nd, rfl⟩⟩; refine ⟨_, rfl, ?_⟩))
  go_ret
  exact ⟨by first | rfl | (simp [errW_none, errW_some] <;> rfl) | (simp [*, errW_none, errW_some] <;> rfl), hbA HB⟩
end Go.Proofs.Ytpojamikfcmnoaa.X
