import Derived.Test.YtpojamikfcmnoaaMShapePlaces0
import Derived.Test.YtpojamikfcmnoaaMShapePlaces9
import Derived.Test.YtpojamikfcmnoaaMShapePlaces2
-- by xprint.py, a program of this session, over the kit's print.py
namespace Go.Proofs.Ytpojamikfcmnoaa.X
open Go.RowKit Go.Proofs.YtpojamikfcmnoaaW.PrintWords Go.Proofs.YtpojamikfcmnoaaW.PrintLast Go.Proofs.YtpojamikfcmnoaaW.PrintMore
attribute [local go_sem] max2_int min2_int max_two min_two max_three min_three max_four min_four   -- for this text's walks alone
set_option linter.unusedVariables false
set_option linter.unusedSimpArgs false

def agateref05_Places_s.f (l0 : List Int) : Option (List (List Int)) := if l0.length ≤ 8 ∧ (∀ x ∈ l0, 0 ≤ x ∧ x ≤ 65536) ∧ (0 ∈ l0 ∨ numL l0 ≤ 400) then some (placesS l0) else none
theorem ref05Places_l0a (ds : List Int) : ∀ (pre : List Int) (k : Nat), pre.length + ds.length ≤ 8 → ds.length < k → 0 ∈ ds → agateref05_Places.l0 k (pre ++ ds) (pre.length : Int) = some [] := by
  induction ds with
  | nil => intro pre k _ _ h; cases h
  | cons d ds ih =>
    intro pre k hb hk h
    rw [List.length_cons] at hk hb
    obtain ⟨k, rfl⟩ : ∃ m, k = m + 1 := ⟨k - 1, by omega⟩
    have ew : wrap64 ((pre.length : Int) + 1) = (((pre ++ [d]).length : Nat) : Int) := by
      rw [wrap64_id (by omega) (by omega), List.length_append, List.length_singleton]; rfl
    rw [agateref05_Places.l0, if_pos (by rw [List.length_append, List.length_cons]; omega), if_pos (by omega), rd_mid pre d ds _ rfl, ew]
    clear ew
    by_cases h0 : d = 0
    · rw [if_pos h0]
    · rw [if_neg h0, show pre ++ d :: ds = (pre ++ [d]) ++ ds by simp]
      refine ih _ k (by simp; omega) (by omega) ?_
      rcases List.mem_cons.1 h with h | h
      · exact absurd h.symm h0
      · exact h
theorem ref05Places_l0b (ds : List Int) : ∀ (pre : List Int) (k : Nat), pre.length + ds.length ≤ 8 → 0 ∉ ds →
    agateref05_Places.l0 (k + ds.length + 1) (pre ++ ds) (pre.length : Int) = (if ((pre ++ ds).length : Int) = 0 then (some (([[]] : List (List Int)))) else (if 1 ≤ ((pre ++ ds).length : Int) then ((agateref05_Places.f k ((pre ++ ds).drop 1)).bind fun t106 => (agateref05_Places.l1 k (pre ++ ds) t106 ([] : List (List Int)) 0)) else (none))) := by
  induction ds with
  | nil => intro pre k _ _; rw [agateref05_Places.l0, if_neg (by simp)]; rfl
  | cons d ds ih =>
    intro pre k hb h
    rw [List.length_cons] at hb
    have ew : wrap64 ((pre.length : Int) + 1) = (((pre ++ [d]).length : Nat) : Int) := by
      rw [wrap64_id (by omega) (by omega), List.length_append, List.length_singleton]; rfl
    have h0 : d ≠ 0 := fun e => h (by rw [e]; exact List.mem_cons_self ..)
    rw [agateref05_Places.l0, if_pos (by rw [List.length_append, List.length_cons]; omega), if_pos (by omega), rd_mid pre d ds _ rfl, ew, if_neg h0]
    clear ew
    have := ih (pre ++ [d]) k (by simp; omega) (fun g => h (List.mem_cons_of_mem _ g))
    rw [show (pre ++ [d]) ++ ds = pre ++ d :: ds by simp] at this
    exact this
theorem ref05Places_l1 (d : Nat) (ds : List Int) (rest : List (List Int)) (hw : ∀ p ∈ rest, p.length ≤ 8) (hb : d * rest.length ≤ 400) (hd : d ≤ 65536) (hr : rest.length ≤ 65536) (m : Nat) : ∀ (i j k : Nat), (d - i) * (rest.length + 2) - j = m → i ≤ d →
    ((j = 0 → (d - i) * (rest.length + 2) < k → agateref05_Places.l1 k ((d : Int) :: ds) rest ((List.range i).flatMap fun (i : Nat) => rest.map (fun p => (i : Int) :: p)) (i : Int) = some ((List.range d).flatMap fun (i : Nat) => rest.map (fun p => (i : Int) :: p)))
    ∧ (1 ≤ j → i < d → j ≤ rest.length + 1 → (d - i) * (rest.length + 2) - j < k → agateref05_Places.l2 k ((d : Int) :: ds) rest (((List.range i).flatMap fun (i : Nat) => rest.map (fun p => (i : Int) :: p)) ++ (rest.take (j - 1)).map (fun p => (i : Int) :: p)) (i : Int) ((j - 1 : Nat) : Int) = some ((List.range d).flatMap fun (i : Nat) => rest.map (fun p => (i : Int) :: p)))) := by
  have hlen : ∀ i, ((List.range i).flatMap fun (i : Nat) => rest.map (fun p => (i : Int) :: p)).length = i * rest.length := fun i => flat_len _ _ (fun j => by rw [List.length_map]) i
  induction m using Nat.strongRecOn with
  | _ m ih =>
  intro i j k hm hi
  have hmul : i < d → (d - i) * (rest.length + 2) = (d - (i + 1)) * (rest.length + 2) + (rest.length + 2) := by
    intro h
    rw [show d - i = (d - (i + 1)) + 1 by omega, Nat.succ_mul]
  refine ⟨?_, ?_⟩
  · intro hj hk
    subst hj
    obtain ⟨k, rfl⟩ : ∃ m, k = m + 1 := ⟨k - 1, by omega⟩
    have e0 : rd ((d : Int) :: ds) 0 = (d : Int) := rfl
    rw [agateref05_Places.l1, if_pos (by rw [List.length_cons]; omega), e0]
    by_cases h : i < d
    · rw [if_pos (by omega)]
      have := hmul h
      have := (ih ((d - i) * (rest.length + 2) - 1) (by omega) i 1 k rfl hi).2 (by omega) h (by omega) (by omega)
      rw [show 1 - 1 = 0 from rfl, List.take_zero, List.map_nil, List.append_nil] at this
      exact this
    · rw [if_neg (by omega), show i = d by omega]
  · intro hj h hj2 hk
    have hmu := hmul h
    obtain ⟨k, rfl⟩ : ∃ m, k = m + 1 := ⟨k - 1, by omega⟩
    rw [agateref05_Places.l2]
    by_cases hc : j - 1 < rest.length
    · have hil : i * rest.length ≤ d * rest.length := Nat.mul_le_mul_right _ (by omega)
      have er : rd_L2 rest ((j - 1 : Nat) : Int) = rest[j - 1] := by simp [rd_L2, List.getD_eq_getElem?_getD, hc]
      have hwp : (rest[j - 1]).length ≤ 8 := hw _ (List.getElem_mem hc)
      have c1 : (((List.range i).flatMap fun (i : Nat) => rest.map (fun p => (i : Int) :: p)) ++ (rest.take (j - 1)).map (fun p => (i : Int) :: p)).length < 5864062014805 := by
        rw [List.length_append, hlen, List.length_map, List.length_take]; omega
      have c2 : ([(i : Int)] : List Int).length + (rest[j - 1]).length < 17592186044416 := by rw [List.length_singleton]; omega
      have c3 : ((j - 1 : Nat) : Int) < (rest.length : Int) := by omega
      have c4 : (0 : Int) ≤ ((j - 1 : Nat) : Int) := by omega
      have c5 : (((j - 1 : Nat) : Int) + 1) = ((j + 1 - 1 : Nat) : Int) := by omega
      have := (ih ((d - i) * (rest.length + 2) - (j + 1)) (by omega) i (j + 1) k rfl hi).2 (by omega) h (by omega) (by omega)
      rw [if_pos c3, Option.bind_some, if_pos c4, er, if_pos c2, if_pos c1, wrap64_id (by omega) (by omega), c5, ← this]
      congr 1
      rw [List.append_assoc, show j + 1 - 1 = (j - 1) + 1 by omega, List.take_succ_eq_append_getElem hc, List.map_append]
      rfl
    · have c3 : ¬ (((j - 1 : Nat) : Int) < (rest.length : Int)) := by omega
      have c5 : ((i : Int) + 1) = ((i + 1 : Nat) : Int) := by omega
      have := (ih ((d - (i + 1)) * (rest.length + 2) - 0) (by omega) (i + 1) 0 k rfl (by omega)).1 rfl (by omega)
      rw [if_neg c3, wrap64_id (by omega) (by omega), c5, ← this]
      congr 1
      rw [List.range_succ, List.flatMap_append, List.flatMap_singleton, List.take_of_length_le (by omega)]
theorem ref05Places_f (l : List Int) : l.length ≤ 8 → (∀ x ∈ l, 0 ≤ x ∧ x ≤ 65536) → (0 ∈ l ∨ numL l ≤ 400) → ∀ k, 1300 * (l.length + 1) ≤ k → agateref05_Places.f k l = some (placesS l) := by
  induction l with
  | nil =>
    intro _ _ _ k hk
    obtain ⟨k, rfl⟩ : ∃ m, k = m + 2 := ⟨k - 2, by rw [List.length_nil] at hk; omega⟩
    rw [agateref05_Places.f, agateref05_Places.l0]; rfl
  | cons d ds ih =>
    intro hl hx hn k hk
    rw [List.length_cons] at hl hk
    have hds : ∀ x ∈ ds, 0 ≤ x ∧ x ≤ 65536 := fun x h => hx x (List.mem_cons_of_mem _ h)
    have hd := hx d (List.mem_cons_self ..)
    obtain ⟨k, rfl⟩ : ∃ m, k = (m + (ds.length + 1) + 1) + 1 := ⟨k - (ds.length + 3), by omega⟩
    rw [agateref05_Places.f]
    unfold placesS
    by_cases h0 : 0 ∈ d :: ds
    · rw [if_pos h0]
      exact ref05Places_l0a (d :: ds) [] _ (by simp; omega) (by simp; omega) h0
    · rw [if_neg h0]
      have hn : numL (d :: ds) ≤ 400 := by rcases hn with h | h; exact absurd h h0; exact h
      have h1 : ¬ d = 0 := fun e => h0 (by rw [e]; exact List.mem_cons_self ..)
      have h2 : 0 ∉ ds := fun e => h0 (List.mem_cons_of_mem _ e)
      have hp : ∀ x ∈ ds, 0 < x := fun x hx => by
        have := hds x hx
        have : ¬ x = 0 := fun e => h2 (e ▸ hx)
        omega
      obtain ⟨m, rfl⟩ : ∃ m : Nat, d = (m : Int) := ⟨d.toNat, by omega⟩
      have hP := numL_pos hp
      rw [numL, Int.toNat_natCast] at hn
      have hm1 : m ≤ m * numL ds := Nat.le_mul_of_pos_right _ hP
      have hm2 : numL ds ≤ m * numL ds := Nat.le_mul_of_pos_left _ (by omega)
      have := ref05Places_l0b ((m : Int) :: ds) [] k (by simp; omega) h0
      rw [List.nil_append] at this
      refine this.trans ?_
      clear this
      rw [if_neg (by rw [List.length_cons]; omega), if_pos (by rw [List.length_cons]; omega), List.drop_one, List.tail_cons, ih (by omega) hds (Or.inr (by omega)) k (by omega), Option.bind_some]
      have hs : placesS ds = prodL ds := if_neg h2
      have hlen := prodL_len ds
      have hM : (m - 0) * ((prodL ds).length + 2) = m * numL ds + m * 2 := by rw [hlen, Nat.sub_zero, Nat.mul_add]
      rw [hs, prodL, Int.toNat_natCast]
      exact (ref05Places_l1 m ds (prodL ds) (fun p hp => by rw [prodL_width ds p hp]; omega) (by rw [hlen]; omega) (by omega) (by omega) _ 0 0 k rfl (by omega)).1 rfl (by omega)
theorem agateref05_Places_s.ev (l0 : List Int) (r) (h : agateref05_Places_s.f l0 = some r) : ∃ k, agateref05_Places.f k l0 = some r := by
  unfold agateref05_Places_s.f at h
  split at h
  · rename_i hs
    obtain ⟨h0, h1, h2⟩ := hs
    rw [← h]
    exact ⟨_, ref05Places_f l0 h0 h1 h2 _ (Nat.le_refl _)⟩
  · cases h

set_option maxHeartbeats 1000000 in
theorem agateref05_Places_s.calls (A0 : Option Addr) (c0 : Nat) (l0 : List Int) (r : List (List Int)) (w : World) (hr0 : Kd.C (Kd.int .i64) w A0 l0.length l0) (hc0 : l0.length ≤ c0) (h : agateref05_Places_s.f l0 = some r) :
    Calls Try.prog 30 #[.slice A0 l0.length c0] w fun e w' => ∃ v0_ : Value, e = .returned (v0_) ∧ Kd.S (Kd.slice 2 (Kd.int .i64)) 39 w' w.heap.size (fun _ => True) v0_ r ∧ Below w.heap.size w w' := by
  obtain ⟨k, hk⟩ := agateref05_Places_s.ev l0 _ h
  exact agateref05_Places.calls k A0 c0 l0 r w hr0 hc0 hk

end Go.Proofs.Ytpojamikfcmnoaa.X
-- by xprint.py, a program of this session, over the kit's print.py
namespace Go.Proofs.Ytpojamikfcmnoaa.X
open Go.RowKit Go.Proofs.YtpojamikfcmnoaaW.PrintWords Go.Proofs.YtpojamikfcmnoaaW.PrintLast Go.Proofs.YtpojamikfcmnoaaW.PrintMore
attribute [local go_sem] max2_int min2_int max_two min_two max_three min_three max_four min_four   -- for this text's walks alone
set_option linter.unusedVariables false
set_option linter.unusedSimpArgs false

/-! ### shape_Count: function 32 -/
def shape_Count.l0 : Nat → List Int → List Int → Int → Int → Int → Option (Int)
  | 0, _, _, _, _, _ => none
  | k + 1, x0, x1, x5, x11, x12 => if x12 < x11 then (if 0 ≤ x12 then (if x12 < (x0.length : Int) then (if x12 < (x1.length : Int) then (shape_Count.l0 k x0 x1 (wrap64 ((wrap64 (x5 * (rd x0 x12))) + (rd x1 x12))) x11 (wrap64 (x12 + 1))) else (none)) else (none)) else (none)) else (some x5)
def shape_Count.f (k : Nat) (l0 : List Int) (l1 : List Int) : Option (Int) := shape_Count.l0 k l0 l1 0 (mn (l0.length : Int) (l1.length : Int)) 0
theorem shape_Count.mono_l : ∀ k, (∀ y0 y1 y2 y3 y4, LeO (shape_Count.l0 k y0 y1 y2 y3 y4) (shape_Count.l0 (k + 1) y0 y1 y2 y3 y4))
  | 0 => fun _ _ _ _ _ r h => by simp [shape_Count.l0] at h
  | k + 1 => by
    have ih0 := shape_Count.mono_l k
    · intro y0 y1 y2 y3 y4
      unfold shape_Count.l0
      repeat' first
      | (with_reducible exact ih0 _ _ _ _ _)
      | (with_reducible exact LeO.refl _)
      | (with_reducible exact LeO.none _)
      | (with_reducible refine LeO.ite ?_ ?_)
      | (with_reducible refine LeO.bind ?_ (fun _ => ?_))
      | exact ih0 _ _ _ _ _
      | exact LeO.none _
      | refine LeO.ite ?_ ?_
      | refine LeO.bind ?_ (fun _ => ?_)
theorem shape_Count.mono : ∀ a0 a1 k, LeO (shape_Count.f k a0 a1) (shape_Count.f (k + 1) a0 a1) := by
  intro a0 a1 k
  have ih0 := shape_Count.mono_l k
  unfold shape_Count.f
  repeat' first
      | (with_reducible exact ih0 _ _ _ _ _)
      | (with_reducible exact LeO.refl _)
      | (with_reducible exact LeO.none _)
      | (with_reducible refine LeO.ite ?_ ?_)
      | (with_reducible refine LeO.bind ?_ (fun _ => ?_))
      | exact ih0 _ _ _ _ _
      | exact LeO.none _
      | refine LeO.ite ?_ ?_
      | refine LeO.bind ?_ (fun _ => ?_)
set_option maxHeartbeats 8000000 in
set_option maxRecDepth 100000 in
theorem shape_Count.calls (k : Nat) (A0 : Option Addr) (c0 : Nat) (l0 : List Int) (A1 : Option Addr) (c1 : Nat) (l1 : List Int) (r : Int) (w : World) (hr0 : Kd.C (Kd.int .i64) w A0 l0.length l0) (hc0 : l0.length ≤ c0) (hr1 : Kd.C (Kd.int .i64) w A1 l1.length l1) (hc1 : l1.length ≤ c1) (h : shape_Count.f k l0 l1 = some r) :
    Calls Try.prog 32 #[.slice A0 l0.length c0, .slice A1 l1.length c1] w fun e w' => e = .returned (.int .i64 r) ∧ Below w.heap.size w w' := by
  have HR0 := Aside0.mk hr0
  have HC0 := Aside0.mk hc0
  clear hr0 hc0
  have HR1 := Aside0.mk hr1
  have HC1 := Aside0.mk hc1
  clear hr1 hc1
  have HB := Aside0.mk (Below.refl w.heap.size w)
  have H : (shape_Count.l0 k l0 l1 0 (mn (l0.length : Int) (l1.length : Int)) 0) = some r := h
  clear h
  obtain ⟨ji3, hji3⟩ : ∃ j_ : Int, (mn (l0.length : Int) (l1.length : Int)) = j_ := ⟨_, rfl⟩
  replace H : (shape_Count.l0 k l0 l1 0 ji3 0) = some r := by first | (rw [hji3] at H; exact H) | (simp only [hji3] at H ⊢; exact H)
  (try (have hji3l : 0 ≤ ji3 := by (rw [← hji3]; unfold mn; (repeat' split) <;> omega)))
  (try (have hji3m : 0 ≤ ji3 := by omega))
  have hji3_ : (if (l1.length : Int) < (l0.length : Int) then (l1.length : Int) else (l0.length : Int)) = ji3 := hji3
  have hji3N : (if l1.length < l0.length then (l1.length : Int) else (l0.length : Int)) = ji3 := by have h_ := hji3_; simp only [Int.ofNat_lt] at h_; exact h_
  have H' := Aside0.mk H
  clear H
  go_enter Try.func32, Try.ntmps32
  go_wp2
  repeat (go_quiet (fail); try go_wp2)
  go_loopg [5, 12] k (fun kq v5 v12 w' => ∃ (x5_1 : Int) (x12_1 : Int), v5 = .int .i64 x5_1 ∧ v12 = .int .i64 x12_1 ∧ Aside0 (shape_Count.l0 kq l0 l1 x5_1 ji3 x12_1 = some r) ∧ Aside0 (kq ≤ k) ∧ Aside0 (Below w.heap.size w w'))
  case atStart => exact ⟨(0), (0), (by first | rfl | (simp; done) | (simp [*]; done)), (by first | rfl | (simp; done) | (simp [*]; done)), H', ⟨Nat.le_refl _⟩, ⟨by repeat (first | (with_reducible first | exact HB.out | apply below_alloc | apply pw_below_drewN | apply below_drew1) | exact HB.out)⟩⟩
  case round =>
    clear H'
    try clear c1
    try clear p2
    try clear c3
    obtain ⟨x5_1, x12_1, rfl, rfl, HA, HK1, HB⟩ := hrel
    cases gk with
    | zero => exact absurd HA.out (by simp [shape_Count.l0])
    | succ k1 =>
      have H := HA.out
      clear HA
      simp only [shape_Count.l0] at H
      by_cases c4 : x12_1 < ji3
      · rw [if_pos c4] at H
        have c4b0 : decide (x12_1 < ji3) = true := decide_eq_true c4
        clear c4
        by_cases c5 : 0 ≤ x12_1
        · rw [if_pos c5] at H
          have c5b0 : decide (0 ≤ x12_1) = true := decide_eq_true c5
          clear c5
          by_cases c6 : x12_1 < (l0.length : Int)
          · rw [if_pos c6] at H
            have c6b0 : decide (x12_1 < (l0.length : Int)) = true := decide_eq_true c6
            clear c6
            by_cases c7 : x12_1 < (l1.length : Int)
            · rw [if_pos c7] at H
              have c7b0 : decide (x12_1 < (l1.length : Int)) = true := decide_eq_true c7
              clear c7
              have H' := Aside0.mk H
              clear H
              have p101 : 0 ≤ (x12_1 : Int) := of_decide_eq_true (by first | (with_reducible assumption) | assumption)
              have q101 : x12_1 < (l0.length : Int) := of_decide_eq_true (by first | (with_reducible assumption) | assumption)
              obtain ⟨ad101, e101, hx101_0⟩ := Kd.at_int HR0.out x12_1 p101 q101
              cases e101
              replace hx101_0 := (HB.out.cell (World.block_lt_of_cell? w _ hx101_0)).trans hx101_0
              replace p101 := eq_true p101
              replace q101 := eq_true q101
              have p102 : 0 ≤ (x12_1 : Int) := of_decide_eq_true (by first | (with_reducible assumption) | assumption)
              have q102 : x12_1 < (l1.length : Int) := of_decide_eq_true (by first | (with_reducible assumption) | assumption)
              obtain ⟨ad102, e102, hx102_0⟩ := Kd.at_int HR1.out x12_1 p102 q102
              cases e102
              replace hx102_0 := (HB.out.cell (World.block_lt_of_cell? w _ hx102_0)).trans hx102_0
              replace p102 := eq_true p102
              replace q102 := eq_true q102
              go_wp2
              repeat (go_quiet (fail); try go_wp2)
              go_roundg k1
              case measure => have := HK1.out; omega
              case rel => exact ⟨(wrap64 ((wrap64 (x5_1 * (rd l0 x12_1))) + (rd l1 x12_1))), (wrap64 (x12_1 + 1)), (by first | rfl | (simp; done) | (simp [*]; done)), (by first | rfl | (simp; done) | (simp [*]; done)), H', ⟨by have := HK1.out; omega⟩, ⟨by repeat (first | (with_reducible first | exact HB.out | apply below_alloc | apply pw_below_drewN | apply below_drew1) | exact HB.out)⟩⟩
            · rw [if_neg c7] at H
              exact absurd H (by simp)
          · rw [if_neg c6] at H
            exact absurd H (by simp)
        · rw [if_neg c5] at H
          exact absurd H (by simp)
      · rw [if_neg c4] at H
        have c4b0 : decide (x12_1 < ji3) = false := decide_eq_false c4
        clear c4
        obtain rfl := Option.some.inj H
        go_wp2
        repeat (go_quiet (fail); try go_wp2)
        go_ret
        exact ⟨by first | rfl | (simp [errW_none, errW_some] <;> rfl) | (simp only [← hji3]; first | rfl | (simp [errW_none, errW_some] <;> rfl)) | (simp [*, errW_none, errW_some] <;> rfl), by repeat (first | (with_reducible first | exact HB.out | apply below_alloc | apply pw_below_drewN | apply below_drew1) | exact HB.out)⟩

end Go.Proofs.Ytpojamikfcmnoaa.X
-- by xprint.py, a program of this session, over the kit's print.py
namespace Go.Proofs.Ytpojamikfcmnoaa.X
open Go.RowKit Go.Proofs.YtpojamikfcmnoaaW.PrintWords Go.Proofs.YtpojamikfcmnoaaW.PrintLast Go.Proofs.YtpojamikfcmnoaaW.PrintMore
attribute [local go_sem] max2_int min2_int max_two min_two max_three min_three max_four min_four   -- for this text's walks alone
set_option linter.unusedVariables false
set_option linter.unusedSimpArgs false

def shape_Count_s.f (l0 l1 : List Int) : Option Int := if l0.length ≤ 1000000 ∧ l1.length ≤ 1000000 then some (countL l0 l1 0) else none
theorem shapeCount_l0 (ds : List Int) : ∀ (ps pre qre : List Int) (n : Int) (k : Nat), ds.length < k → pre.length = qre.length → pre.length + ds.length ≤ 1000000 →
    shape_Count.l0 k (pre ++ ds) (qre ++ ps) n (mn ((pre ++ ds).length : Int) ((qre ++ ps).length : Int)) (pre.length : Int) = some (countL ds ps n) := by
  induction ds with
  | nil =>
    intro ps pre qre n k hk hp hb
    obtain ⟨k, rfl⟩ : ∃ m, k = m + 1 := ⟨k - 1, by omega⟩
    rw [shape_Count.l0, if_neg (by unfold mn; simp; split <;> omega)]
    cases ps <;> rfl
  | cons d ds ih =>
    intro ps pre qre n k hk hp hb
    rw [List.length_cons] at hk hb
    obtain ⟨k, rfl⟩ : ∃ m, k = m + 1 := ⟨k - 1, by omega⟩
    cases ps with
    | nil =>
      rw [shape_Count.l0, if_neg (by unfold mn; simp; split <;> omega)]; rfl
    | cons p ps =>
      have ew : wrap64 ((pre.length : Int) + 1) = (((pre ++ [d]).length : Nat) : Int) := by
        rw [wrap64_id (by omega) (by omega), List.length_append, List.length_singleton]; rfl
      rw [shape_Count.l0, if_pos (by unfold mn; simp; split <;> omega), if_pos (by omega), if_pos (by rw [List.length_append, List.length_cons]; omega), if_pos (by rw [List.length_append, List.length_cons]; omega), rd_mid pre d ds _ rfl, rd_mid qre p ps _ (by omega), ew, countL]
      clear ew
      rw [show pre ++ d :: ds = (pre ++ [d]) ++ ds by simp, show qre ++ p :: ps = (qre ++ [p]) ++ ps by simp]
      exact ih ps (pre ++ [d]) (qre ++ [p]) _ k (by omega) (by simp; omega) (by simp; omega)
theorem shape_Count_s.ev (l0 l1 : List Int) (r) (h : shape_Count_s.f l0 l1 = some r) : ∃ k, shape_Count.f k l0 l1 = some r := by
  unfold shape_Count_s.f at h
  split at h
  · rename_i hs
    rw [← h]
    refine ⟨l0.length + 1, ?_⟩
    unfold shape_Count.f
    exact shapeCount_l0 l0 l1 [] [] 0 _ (by omega) rfl (by simp; omega)
  · cases h

set_option maxHeartbeats 1000000 in
theorem shape_Count_s.calls (A0 : Option Addr) (c0 : Nat) (l0 : List Int) (A1 : Option Addr) (c1 : Nat) (l1 : List Int) (r : Int) (w : World) (hr0 : Kd.C (Kd.int .i64) w A0 l0.length l0) (hc0 : l0.length ≤ c0) (hr1 : Kd.C (Kd.int .i64) w A1 l1.length l1) (hc1 : l1.length ≤ c1) (h : shape_Count_s.f l0 l1 = some r) :
    Calls Try.prog 32 #[.slice A0 l0.length c0, .slice A1 l1.length c1] w fun e w' => e = .returned (.int .i64 r) ∧ Below w.heap.size w w' := by
  obtain ⟨k, hk⟩ := shape_Count_s.ev l0 l1 _ h
  exact shape_Count.calls k A0 c0 l0 A1 c1 l1 r w hr0 hc0 hr1 hc1 hk

end Go.Proofs.Ytpojamikfcmnoaa.X
