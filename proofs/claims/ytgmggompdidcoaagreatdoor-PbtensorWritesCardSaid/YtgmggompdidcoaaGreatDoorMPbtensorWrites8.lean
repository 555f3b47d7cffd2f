import Derived.Test.YtgmggompdidcoaaGreatDoorMPbtensorWrites2
import Derived.Test.YtgmggompdidcoaaGreatDoorMPbtensorWrites7
import Derived.Test.YtgmggompdidcoaaGreatDoorMPbtensorWrites3
import Derived.Test.YtgmggompdidcoaaGreatDoorMPbtensorWrites5
import Derived.Test.YtgmggompdidcoaaGreatDoorMPbtensorWrites6
namespace Go.Proofs.YtgmggompdidcoaaGreatDoor.X
open Go.RowKit Go.Proofs.YtgmggompdidcoaaGreatDoorW.PrintWords Go.Proofs.YtgmggompdidcoaaGreatDoorW.PrintLast Go.Proofs.YtgmggompdidcoaaGreatDoorW.PrintMore
attribute [local go_sem] max2_int min2_int max_two min_two max_three min_three max_four min_four
set_option linter.unusedVariables false
set_option linter.unusedSimpArgs false
def sizeL : List Int → Int → Bool → Int × Int
  | [], n, z => if z = true then (0, 0) else if n > 65536 then (0, 7) else (n, 0)
  | d :: l, n, z => if d > 65536 then (0, 7) else if d = 0 then sizeL l n true else sizeL l (if 65537 < n * d then 65537 else n * d) z
def sizeS (l : List Int) : Int × Int := if l.length > 8 then (0, 6) else if l.any (fun x => decide (x < 0)) then (0, 6) else sizeL l 1 false
theorem mul_cap {n d : Int} (h0 : 0 ≤ n) (h1 : n ≤ 65537) (h2 : 0 ≤ d) (h3 : d ≤ 65536) : 0 ≤ n * d ∧ n * d ≤ 4295032832 := by
  refine ⟨Int.mul_nonneg h0 h2, ?_⟩
  have := Int.mul_le_mul h1 h3 h2 (by omega : (0 : Int) ≤ 65537)
  omega
theorem sizeL_zero (l : List Int) : ∀ (n : Int) (z : Bool), (∀ x ∈ l, x ≤ 65536) → (z = true ∨ ∃ x ∈ l, x = 0) → sizeL l n z = (0, 0) := by
  induction l with
  | nil =>
    intro n z _ h
    rcases h with h | ⟨x, hx, _⟩
    · rw [sizeL, if_pos h]
    · cases hx
  | cons d l ih =>
    intro n z hg h
    have hd := hg d (List.mem_cons_self ..)
    have hl : ∀ x ∈ l, x ≤ 65536 := fun x hx => hg x (List.mem_cons_of_mem _ hx)
    rw [sizeL, if_neg (by omega)]
    by_cases h0 : d = 0
    · rw [if_pos h0]; exact ih n true hl (Or.inl rfl)
    · rw [if_neg h0]
      refine ih _ z hl ?_
      rcases h with h | ⟨x, hx, e⟩
      · exact Or.inl h
      · rcases List.mem_cons.1 hx with rfl | hx
        · exact absurd e h0
        · exact Or.inr ⟨x, hx, e⟩
theorem sizeL_great (l : List Int) : ∀ (n : Int) (z : Bool), (∃ x ∈ l, x > 65536) → sizeL l n z = (0, 7) := by
  induction l with
  | nil => intro n z h; obtain ⟨x, hx, _⟩ := h; cases hx
  | cons d l ih =>
    intro n z h
    rw [sizeL]
    by_cases hd : d > 65536
    · rw [if_pos hd]
    · rw [if_neg hd]
      have : ∃ x ∈ l, x > 65536 := by
        obtain ⟨x, hx, e⟩ := h
        rcases List.mem_cons.1 hx with rfl | hx
        · exact absurd e hd
        · exact ⟨x, hx, e⟩
      split
      · exact ih _ _ this
      · exact ih _ _ this
theorem sizeL_full (l : List Int) : (∀ x ∈ l, 0 < x ∧ x ≤ 65536) → sizeL l 65537 false = (0, 7) := by
  induction l with
  | nil => intro _; rfl
  | cons d l ih =>
    intro h
    have hd := h d (List.mem_cons_self ..)
    rw [sizeL, if_neg (by omega), if_neg (by omega)]
    have : (if 65537 < 65537 * d then 65537 else 65537 * d) = 65537 := by split <;> omega
    rw [this]
    exact ih (fun x hx => h x (List.mem_cons_of_mem _ hx))
theorem any_take (p : Int → Bool) (l : List Int) (i : Nat) (h : i < l.length) : (l.take (i + 1)).any p = ((l.take i).any p || p l[i]) := by
  rw [List.take_succ_eq_append_getElem h, List.any_append]; simp
def zipB : List Int → List Int → Option (List Int)
  | x :: xs, y :: ys => if x = y ∨ y = 1 then (zipB xs ys).map (fun l => x :: l) else if x = 1 then (zipB xs ys).map (fun l => y :: l) else none
  | _, _ => some []
def endB (o : Option (List Int)) : List Int × Int := o.elim ([], 6) fun out => if (sizeS out).2 = 0 then (out, 0) else ([], (sizeS out).2)
def wideL (l : List Int) (n : Nat) : List Int := List.replicate (n - l.length) 1 ++ l
def broadS (a b : List Int) : List Int × Int := if (sizeS a).2 = 0 then (if (sizeS b).2 = 0 then endB (zipB (wideL a (max a.length b.length)) (wideL b (max a.length b.length))) else ([], (sizeS b).2)) else ([], (sizeS a).2)
theorem sizeS_len {l : List Int} (h : (sizeS l).2 = 0) : l.length ≤ 8 := by
  unfold sizeS at h
  split at h
  · cases h
  · omega
def shape_Size_s.f (l0 : List Int) : Option (Int × Int) := some (sizeS l0)
theorem shapeSize_l1 (l : List Int) (hb : l.length ≤ 8) (hn : ∀ x ∈ l, 0 ≤ x) (d : Nat) : ∀ (k i : Nat) (n : Int) (z : Bool), l.length - i = d → i ≤ l.length → d < k → 0 ≤ n → n ≤ 65537 →
    shape_Size.l1 k n z l (l.length : Int) i = some (sizeL (l.drop i) n z) := by
  induction d with
  | zero =>
    intro k i n z hd hi hk h0 h1
    obtain ⟨k, rfl⟩ : ∃ m, k = m + 1 := ⟨k - 1, by omega⟩
    rw [shape_Size.l1, if_neg (by omega), List.drop_of_length_le (by omega), sizeL]
    split
    · rfl
    · split <;> rfl
  | succ d ih =>
    intro k i n z hd hi hk h0 h1
    obtain ⟨k, rfl⟩ : ∃ m, k = m + 1 := ⟨k - 1, by omega⟩
    have hl : i < l.length := by omega
    have e0 : rd l (i : Int) = l[i] := by simp [rd, List.getD_eq_getElem?_getD, hl]
    have hp := hn l[i] (List.getElem_mem hl)
    have ew : wrap64 ((i : Int) + 1) = ((i + 1 : Nat) : Int) := by rw [wrap64_id (by omega) (by omega)]; omega
    rw [shape_Size.l1, if_pos (by omega), if_pos (by omega), if_pos (by omega), e0, List.drop_eq_getElem_cons hl, sizeL, ew]
    clear ew
    by_cases hg : l[i] > 65536
    · rw [if_pos hg, if_pos hg]
    · rw [if_neg hg, if_neg hg]
      by_cases hz : l[i] = 0
      · rw [if_pos hz, if_pos hz]
        exact ih k (i + 1) n true (by omega) (by omega) (by omega) h0 h1
      · have hm := mul_cap h0 h1 hp (by omega : l[i] ≤ 65536)
        rw [if_neg hz, if_neg hz, wrap64_id (by omega) (by omega)]
        show shape_Size.l1 k (if 65537 < n * l[i] then 65537 else n * l[i]) z l (l.length : Int) ((i + 1 : Nat) : Int) = _
        generalize n * l[i] = p at *
        refine ih k (i + 1) (if 65537 < p then 65537 else p) z (by omega) (by omega) (by omega) ?_ ?_ <;> split <;> omega
theorem shapeSize_l0 (l : List Int) (hb : l.length ≤ 8) (d : Nat) : ∀ (k i : Nat), l.length - i = d → i ≤ l.length → d + l.length + 2 ≤ k → (∀ x ∈ l.take i, 0 ≤ x) →
    shape_Size.l0 k l l (l.length : Int) i = some (if (l.drop i).any (fun x => decide (x < 0)) then (0, 6) else sizeL l 1 false) := by
  induction d with
  | zero =>
    intro k i hd hi hk hn
    obtain ⟨k, rfl⟩ : ∃ m, k = m + 1 := ⟨k - 1, by omega⟩
    rw [shape_Size.l0, if_neg (by omega), List.drop_of_length_le (by omega)]
    rw [List.take_of_length_le (by omega)] at hn
    exact shapeSize_l1 l hb hn l.length k 0 1 false (by omega) (by omega) (by omega) (by omega) (by omega)
  | succ d ih =>
    intro k i hd hi hk hn
    obtain ⟨k, rfl⟩ : ∃ m, k = m + 1 := ⟨k - 1, by omega⟩
    have hl : i < l.length := by omega
    have e0 : rd l (i : Int) = l[i] := by simp [rd, List.getD_eq_getElem?_getD, hl]
    have ew : wrap64 ((i : Int) + 1) = ((i + 1 : Nat) : Int) := by rw [wrap64_id (by omega) (by omega)]; omega
    rw [shape_Size.l0, if_pos (by omega), if_pos (by omega), if_pos (by omega), e0, List.drop_eq_getElem_cons hl, ew]
    clear ew
    by_cases hg : l[i] < 0
    · rw [if_pos hg, List.any_cons, decide_eq_true hg]
      rfl
    · rw [if_neg hg, ih k (i + 1) (by omega) (by omega) (by omega) ?_]
      · rw [List.any_cons, decide_eq_false hg, Bool.false_or]
      · intro x hx
        rw [List.take_succ_eq_append_getElem hl] at hx
        rcases List.mem_append.1 hx with hx | hx
        · exact hn x hx
        · rw [List.mem_singleton.1 hx]; omega
theorem shape_Size_s.ev (l0 : List Int) (r) (h : shape_Size_s.f l0 = some r) : ∃ k, shape_Size.f k l0 = some r := by
  refine ⟨2 * l0.length + 2, ?_⟩
  rw [← h]
  unfold shape_Size.f shape_Size_s.f sizeS
  by_cases hl : l0.length > 8
  · rw [if_pos (by omega), if_pos hl]
  · rw [if_neg (by omega), if_neg hl]
    exact shapeSize_l0 l0 (by omega) l0.length _ 0 (by omega) (by omega) (by omega) (by simp)
set_option maxHeartbeats 1000000 in
theorem shape_Size_s.calls (A0 : Option Addr) (c0 : Nat) (l0 : List Int) (r1 : Int) (r2 : Int) (w : World) (hr0 : Kd.C (Kd.int .i64) w A0 l0.length l0) (hc0 : l0.length ≤ c0) (h : shape_Size_s.f l0 = some (r1, r2)) :
    Calls Tryz.prog 57 #[.slice A0 l0.length c0] w fun e w' => e = .returned (.tuple #[.int .i64 r1, .int .i64 r2]) ∧ Below w.heap.size w w' := by
  obtain ⟨k, hk⟩ := shape_Size_s.ev l0 _ h
  exact shape_Size.calls k A0 c0 l0 r1 r2 w hr0 hc0 hk
def tensor_Name.l0 : Nat → ByteArray → Int → Int → Option (Bool)
  | 0, _, _, _ => none
  | k + 1, x0, x5, x6 => if x6 < x5 then (if 0 ≤ x6 then (if x6 < (x0.size : Int) then (if (bt x0 x6) < 33 then (some false) else (if (bt x0 x6) > 126 then (some false) else (tensor_Name.l0 k x0 x5 (wrap64 (x6 + 1))))) else (none)) else (none)) else (if x0.toList = ([] : List UInt8) then (some false) else (some (decide ((x0.size : Int) ≤ 64))))
def tensor_Name.f (k : Nat) (a0 : ByteArray) : Option (Bool) := tensor_Name.l0 k a0 (a0.size : Int) 0
set_option maxHeartbeats 8000000 in
set_option maxRecDepth 100000 in
theorem tensor_Name.calls (k : Nat) (a0 : ByteArray) (r : Bool) (w : World) (h : tensor_Name.f k a0 = some r) :
    Calls Tryz.prog 55 #[.string a0] w fun e w' => e = .returned (.bool r) ∧ Drawn0 w w' := by
  have H : (tensor_Name.l0 k a0 (a0.size : Int) 0) = some r := h; clear h; have H' := mk0 H; clear H
  go_enter Tryz.func55, Tryz.ntmps55
  go_wp2
  go_loopg [6] k (fun kq v6 w' => ∃ (x6_1 : Int), v6 = .int .i64 x6_1 ∧ Aside0 (tensor_Name.l0 kq a0 (a0.size : Int) x6_1 = some r) ∧ Aside0 (kq ≤ k) ∧ Drawn0 w w')
  case atStart => exact ⟨(0), cl0, H', ⟨Nat.le_refl _⟩, by repeat (first | exact Drawn0.refl _ | apply Drawn0.step)⟩
  case round =>
    clear H'; obtain ⟨x6_1, rfl, HA, HK1, ⟨m1, rfl⟩⟩ := hrel
    cases gk with
    | zero => exact absurd HA.out (by simp [tensor_Name.l0])
    | succ k1 =>
      have H := HA.out; clear HA
      simp only [tensor_Name.l0] at H
      by_cases c2 : x6_1 < (a0.size : Int)
      · rw [if_pos c2] at H
        have c2b0 := decide_eq_true c2; clear c2
        by_cases c3 : 0 ≤ x6_1
        · rw [if_pos c3] at H
          have c3b0 := decide_eq_true c3; clear c3
          by_cases c4 : x6_1 < (a0.size : Int)
          · rw [if_pos c4] at H
            have c4b0 := decide_eq_true c4; clear c4
            by_cases c6 : (bt a0 x6_1) < 33
            · rw [if_pos c6] at H
              have c6b0 := decide_eq_true c6; clear c6; obtain rfl := Option.some.inj H; have p5 : 0 ≤ (x6_1 : Int) := ofd; have q5 : x6_1 < (a0.size : Int) := ofd; have hx5 := bt_at a0 x6_1; replace p5 := eq_true p5; replace q5 := eq_true q5
              go_wp2
              go_ret
              exact ⟨by first | rfl | (simp; done) | (simp [*]; done), by repeat (first | exact Drawn0.refl _ | apply Drawn0.step)⟩
            · rw [if_neg c6] at H
              have c6b0 := decide_eq_false c6; clear c6
              by_cases c8 : (bt a0 x6_1) > 126
              · rw [if_pos c8] at H
                have c8b0 := decide_eq_true c8; clear c8; obtain rfl := Option.some.inj H; have p5 : 0 ≤ (x6_1 : Int) := ofd; have q5 : x6_1 < (a0.size : Int) := ofd; have hx5 := bt_at a0 x6_1; replace p5 := eq_true p5; replace q5 := eq_true q5; have p7 : 0 ≤ (x6_1 : Int) := ofd; have q7 : x6_1 < (a0.size : Int) := ofd; have hx7 := bt_at a0 x6_1; replace p7 := eq_true p7; replace q7 := eq_true q7
                go_wp2
                go_ret
                exact ⟨by first | rfl | (simp; done) | (simp [*]; done), by repeat (first | exact Drawn0.refl _ | apply Drawn0.step)⟩
              · rw [if_neg c8] at H
                have c8b0 := decide_eq_false c8; clear c8; have H' := mk0 H; clear H; have p5 : 0 ≤ (x6_1 : Int) := ofd; have q5 : x6_1 < (a0.size : Int) := ofd; have hx5 := bt_at a0 x6_1; replace p5 := eq_true p5; replace q5 := eq_true q5; have p7 : 0 ≤ (x6_1 : Int) := ofd; have q7 : x6_1 < (a0.size : Int) := ofd; have hx7 := bt_at a0 x6_1; replace p7 := eq_true p7; replace q7 := eq_true q7
                go_wp2
                go_roundg k1
                case measure => have := HK1.out; omega
                case rel => exact ⟨(wrap64 (x6_1 + 1)), cl0, H', cl2 HK1, by repeat (first | exact Drawn0.refl _ | apply Drawn0.step)⟩
          · rw [if_neg c4] at H; exact ne0 H
        · rw [if_neg c3] at H; exact ne0 H
      · rw [if_neg c2] at H
        have c2b0 := decide_eq_false c2; clear c2
        by_cases c9 : a0.toList = ([] : List UInt8)
        · rw [if_pos c9] at H
          have c9b0 := beq_iff_eq.mpr c9; have c9b1 := bne_eq_false_iff_eq.mpr c9; clear c9; obtain rfl := Option.some.inj H
          go_wp2
          go_ret
          exact ⟨by first | rfl | (simp; done) | (simp [*]; done), by repeat (first | exact Drawn0.refl _ | apply Drawn0.step)⟩
        · rw [if_neg c9] at H
          have c9b0 := beq_eq_false_iff_ne.mpr c9; have c9b1 := bne_iff_ne.mpr c9; obtain rfl := Option.some.inj H
          go_wp2
          go_ret
          exact ⟨by first | rfl | (simp; done) | (simp [*]; done), by repeat (first | exact Drawn0.refl _ | apply Drawn0.step)⟩
def nameR (s : ByteArray) : Bool := (ns s).all (fun c => decide (33 ≤ c ∧ c ≤ 126)) && decide (1 ≤ s.size ∧ s.size ≤ 64)
def okAt (kind : Int) (data : ByteArray) (i : Nat) : Bool :=
  if kind = 9 then decide (bt data i ≤ 1) else if kind = 14 then (readR (data.extract (8 * i) (8 * i + 8))).2.2 == 0 else true
def chkR (name : ByteArray) (kind : Int) (dims : List Int) (data : ByteArray) : Int :=
  if nameR name = true then
    if sizeK kind = 0 then 5
    else if (sizeS dims).2 = 0 then
      if (data.size : Int) = (sizeS dims).1 * sizeK kind then
        if (List.range (sizeS dims).1.toNat).all (okAt kind data) = true then 0 else 17
      else 19
    else (sizeS dims).2
  else 8
theorem sizeL_bound (l : List Int) : ∀ (n : Int) (z : Bool), 0 ≤ n → (∀ x ∈ l, 0 ≤ x) → (sizeL l n z).2 = 0 → 0 ≤ (sizeL l n z).1 ∧ (sizeL l n z).1 ≤ 65536 := by
  induction l with
  | nil =>
    intro n z hn _ h
    rw [sizeL] at h ⊢
    by_cases hz : z = true
    · rw [if_pos hz]; exact ⟨Int.le_refl _, by decide⟩
    · rw [if_neg hz] at h ⊢
      by_cases h6 : n > 65536
      · rw [if_pos h6] at h; exact absurd h (by decide)
      · rw [if_neg h6]; exact ⟨hn, by omega⟩
  | cons d l ih =>
    intro n z hn hl h
    have hd := hl d (List.mem_cons_self ..)
    have hl' : ∀ x ∈ l, 0 ≤ x := fun x hx => hl x (List.mem_cons_of_mem _ hx)
    rw [sizeL] at h ⊢
    by_cases h6 : d > 65536
    · rw [if_pos h6] at h; exact absurd h (by decide)
    · rw [if_neg h6] at h ⊢
      by_cases h0 : d = 0
      · rw [if_pos h0] at h ⊢; exact ih n true hn hl' h
      · rw [if_neg h0] at h ⊢
        refine ih _ z ?_ hl' h
        split
        · decide
        · exact Int.mul_nonneg hn hd
theorem sizeS_bound {l : List Int} (h : (sizeS l).2 = 0) : 0 ≤ (sizeS l).1 ∧ (sizeS l).1 ≤ 65536 := by
  unfold sizeS at h ⊢
  by_cases h8 : l.length > 8
  · rw [if_pos h8] at h; exact absurd h (by decide)
  · rw [if_neg h8] at h ⊢
    by_cases hn : (l.any fun x => decide (x < 0)) = true
    · rw [if_pos hn] at h; exact absurd h (by decide)
    · rw [if_neg hn] at h ⊢
      refine sizeL_bound l 1 false (by decide) ?_ h
      intro x hx
      have : ¬ x < 0 := by
        intro hlt
        exact hn (List.any_eq_true.2 ⟨x, hx, decide_eq_true hlt⟩)
      omega
theorem sizeK_cases (k : Int) : sizeK k = 0 ∨ sizeK k = 1 ∨ sizeK k = 4 ∨ sizeK k = 8 := by
  unfold sizeK
  by_cases h1 : k = 1
  · rw [if_pos h1]; exact .inr (.inr (.inl rfl))
  rw [if_neg h1]
  by_cases h2 : k = 2
  · rw [if_pos h2]; exact .inr (.inl rfl)
  rw [if_neg h2]
  by_cases h7 : k = 7
  · rw [if_pos h7]; exact .inr (.inr (.inr rfl))
  rw [if_neg h7]
  by_cases h9 : k = 9
  · rw [if_pos h9]; exact .inr (.inl rfl)
  rw [if_neg h9]
  by_cases h14 : k = 14
  · rw [if_pos h14]; exact .inr (.inr (.inr rfl))
  rw [if_neg h14]
  exact .inl rfl
theorem bt_extract (b : ByteArray) (i j : Nat) (m : Nat) (h : m < j - i) (hj : j ≤ b.size) : bt (b.extract i j) (m : Int) = bt b ((i + m : Nat) : Int) := by
  have h1 : m < (b.extract i j).size := by rw [ByteArray.size_extract, Nat.min_eq_left hj]; exact h
  rw [bt_ns _ _ h1, bt_ns _ _ (show i + m < b.size by omega)]
  have := ns_get (b.extract i j) m h1
  have e2 := ns_get b (i + m) (by omega)
  rw [← this, ← e2]
  have e3 : ns (b.extract i j) = ((ns b).drop i).take (j - i) := ns_extract b i j
  have : (((ns (b.extract i j))[m]'(by rw [ns_length]; exact h1) : Nat) : Int) = ((((ns b).drop i).take (j - i))[m]'(by rw [← e3, ns_length]; exact h1) : Nat) := by
    congr 1
    exact getElem_congr_coll e3
  rw [this, List.getElem_take, List.getElem_drop]
theorem all_from (p : Nat → Bool) (n i : Nat) (h : i < n) : ((List.range n).drop i).all p = (p i && ((List.range n).drop (i + 1)).all p) := by
  rw [List.drop_eq_getElem_cons (by simpa using h), List.all_cons, List.getElem_range]
def sameR (n0 : ByteArray) (k0 : Int) (d0 : List Int) (b0 : ByteArray) (n1 : ByteArray) (k1 : Int) (d1 : List Int) (b1 : ByteArray) : Bool := decide (n0 = n1 ∧ k0 = k1 ∧ d0 = d1 ∧ b0 = b1)
def tensor_Name_s.f (a0 : ByteArray) : Option Bool := if a0.size ≤ 140737488351232 then some (nameR a0) else none
theorem tensor_Name_eval (s : ByteArray) (hs : s.size ≤ 140737488351232) (d : Nat) : ∀ (k i : Nat), s.size - i = d → i ≤ s.size → d < k →
    tensor_Name.l0 k s (s.size : Int) (i : Int) = some (((ns s).drop i).all (fun c => decide (33 ≤ c ∧ c ≤ 126)) && decide (1 ≤ s.size ∧ s.size ≤ 64)) := by
  induction d with
  | zero =>
    intro k i hd hi hk
    obtain ⟨k, rfl⟩ : ∃ m, k = m + 1 := ⟨k - 1, by omega⟩
    simp only [tensor_Name.l0]
    rw [if_neg (by omega), ns_drop_end s i (by omega)]
    by_cases h0 : s.size = 0
    · rw [if_pos (toList_nil.2 h0), h0]; rfl
    · rw [if_neg (fun h => h0 (toList_nil.1 h))]
      simp only [List.all_nil, Bool.true_and]
      congr 1
      exact decide_eq_decide.2 ⟨fun h => ⟨by omega, by omega⟩, fun h => by omega⟩
  | succ d ih =>
    intro k i hd hi hk
    obtain ⟨k, rfl⟩ : ∃ m, k = m + 1 := ⟨k - 1, by omega⟩
    have hlt : i < s.size := by omega
    have hb : bt s (i : Int) = ((s[i]'hlt).toNat : Int) := bt_ns s i hlt
    simp only [tensor_Name.l0]
    rw [if_pos (by omega), if_pos (by omega), if_pos (by omega), hb, ns_drop s i hlt, List.all_cons]
    by_cases h1 : ((s[i]'hlt).toNat : Int) < 33
    · rw [if_pos h1, show decide (33 ≤ (s[i]'hlt).toNat ∧ (s[i]'hlt).toNat ≤ 126) = false from decide_eq_false (by omega)]; rfl
    · rw [if_neg h1]
      by_cases h2 : ((s[i]'hlt).toNat : Int) > 126
      · rw [if_pos h2, show decide (33 ≤ (s[i]'hlt).toNat ∧ (s[i]'hlt).toNat ≤ 126) = false from decide_eq_false (by omega)]; rfl
      · rw [if_neg h2, show decide (33 ≤ (s[i]'hlt).toNat ∧ (s[i]'hlt).toNat ≤ 126) = true from decide_eq_true (by omega), Bool.true_and, wrap64_id (by omega) (by omega)]
        exact ih k (i + 1) (by omega) (by omega) (by omega)
theorem tensor_Name_s.ev (a0 : ByteArray) (r) (h : tensor_Name_s.f a0 = some r) : ∃ k, tensor_Name.f k a0 = some r := by
  unfold tensor_Name_s.f at h
  split at h
  · rename_i hs
    have := tensor_Name_eval a0 hs a0.size (a0.size + 1) 0 (by omega) (by omega) (by omega)
    rw [List.drop_zero] at this
    exact ⟨a0.size + 1, this.trans h⟩
  · cases h
set_option maxHeartbeats 1000000 in
theorem tensor_Name_s.calls (a0 : ByteArray) (r : Bool) (w : World) (h : tensor_Name_s.f a0 = some r) :
    Calls Tryz.prog 55 #[.string a0] w fun e w' => e = .returned (.bool r) ∧ Drawn0 w w' := by
  obtain ⟨k, hk⟩ := tensor_Name_s.ev a0 _ h
  exact tensor_Name.calls k a0 r w hk
def tensor_Tensor_Check.l0 : Nat → Int → Int → ByteArray → Int → List Int → ByteArray → Option (Int)
 | 0, _, _, _, _, _, _ => none
 | k + 1, x34, x35, x102000, x102001, x102002, x102003 => if x35 < x34 then ((tensor_Tensor_Elem.f x102000 x102001 x102002 x102003 x35).bind fun t107 => ((tensor_Tensor_value.f x102000 x102001 x102002 x102003 t107).bind fun t108 => (if t108 = true then (tensor_Tensor_Check.l0 k x34 (wrap64 (x35 + 1)) x102000 x102001 x102002 x102003) else (some 17)))) else (some 0)
def tensor_Tensor_Check.f (k : Nat) (a0_0 : ByteArray) (a0_1 : Int) (l0_2 : List Int) (a0_3 : ByteArray) : Option (Int) := (tensor_Name_s.f a0_0).bind fun t102 => (if t102 = true then ((kind_Kind_Size.f a0_1).bind fun t103 => (if t103 = 0 then (some 5) else ((shape_Size_s.f l0_2).bind fun bt104 => (if bt104.2 = 0 then ((kind_Kind_Size.f a0_1).bind fun t106 => (if (a0_3.size : Int) = (wrap64 (bt104.1 * t106)) then (tensor_Tensor_Check.l0 k bt104.1 0 a0_0 a0_1 l0_2 a0_3) else (some 19))) else (some bt104.2))))) else (some 8))
def tensor_Tensor_Check.T8 : Bool × List (List Nat × List Nat) := (true, [([], []), ([0], [0]), ([1], [1]), ([], []), ([], []), ([4], [4]), ([5], [5]), ([3, 6], [3, 6]), ([2, 7], [2, 7]), ([8, 6], [8])])
def tensor_Tensor_Check.B8 : List Nat := [0, 1, 3, 0, 0, 16, 48, 120, 255, 511]
theorem tensor_Tensor_Check.tab8 : rtab .any (opsOf Tryz.f34 8) = tensor_Tensor_Check.T8 := by kernel_rfl
theorem tensor_Tensor_Check.bits8 : waitsOk tensor_Tensor_Check.T8.2 tensor_Tensor_Check.B8 = true := by kernel_rfl
set_option maxHeartbeats 8000000 in
set_option maxRecDepth 100000 in
theorem tensor_Tensor_Check.calls (k : Nat) (a0_0 : ByteArray) (a0_1 : Int) (A0_2 : Option Addr) (c0_2 : Nat) (l0_2 : List Int) (a0_3 : ByteArray) (r : Int) (w : World) (hr0_2 : Kd.C (Kd.int .i64) w A0_2 l0_2.length l0_2) (hc0_2 : l0_2.length ≤ c0_2) (h : tensor_Tensor_Check.f k a0_0 a0_1 l0_2 a0_3 = some r) :
  Calls Tryz.prog 34 #[.agg #[.string a0_0, .int .i64 a0_1, .slice A0_2 l0_2.length c0_2, .string a0_3]] w fun e w' => e = .returned (.int .i64 r) ∧ Below w.heap.size w w' := by
 have hu33 := Tryz.underlying33; have HR0_2 := mk0 hr0_2; have HC0_2 := mk0 hc0_2; clear hr0_2 hc0_2; have HB := mk0 (Below.refl w.heap.size w); have H : ((tensor_Name_s.f a0_0).bind fun t102 => (if t102 = true then ((kind_Kind_Size.f a0_1).bind fun t103 => (if t103 = 0 then (some 5) else ((shape_Size_s.f l0_2).bind fun bt104 => (if bt104.2 = 0 then ((kind_Kind_Size.f a0_1).bind fun t106 => (if (a0_3.size : Int) = (wrap64 (bt104.1 * t106)) then (tensor_Tensor_Check.l0 k bt104.1 0 a0_0 a0_1 l0_2 a0_3) else (some 19))) else (some bt104.2))))) else (some 8))) = some r := h; clear h; replace H := bnd H; obtain ⟨t102, A2, H⟩ := H
 by_cases c3 : t102 = true
 ·
  subst c3; have H1 : ((kind_Kind_Size.f a0_1).bind fun t103 => (if t103 = 0 then (some 5) else ((shape_Size_s.f l0_2).bind fun bt104 => (if bt104.2 = 0 then ((kind_Kind_Size.f a0_1).bind fun t106 => (if (a0_3.size : Int) = (wrap64 (bt104.1 * t106)) then (tensor_Tensor_Check.l0 k bt104.1 0 a0_0 a0_1 l0_2 a0_3) else (some 19))) else (some bt104.2))))) = some r := by rw [if_pos rfl] at H; exact H
  clear H; have H := H1; clear H1; replace H := bnd H; obtain ⟨t103, A4, H⟩ := H
  by_cases c5 : t103 = 0
  ·
   rw [if_pos c5] at H; have c5b0 := beq_iff_eq.mpr c5; have c5b1 := bne_eq_false_iff_eq.mpr c5; clear c5; obtain rfl := Option.some.inj H
   go_enter Tryz.func34, Tryz.ntmps34
   go_wp2_with (first | ((with_reducible refine gate_dst (N := 1) rfl ?_); refine boxE (N := 1) (cs := #[.string a0_0, .int .i64 a0_1, .slice A0_2 l0_2.length c0_2, .string a0_3]) (t := 33) ?_; intro gb101 hg w6 hbox hb; have BK101 := mk0 hbox; have GW101 := gwS HB hg; have GE101 := gwS HB hg; replace HB := hbS HB hb; clear hb hbox hg; obtain ⟨hcz7_0, hcz7_1, hcz7_2, hcz7_3⟩ := cz4 BK101) | ((with_reducible refine gate_callee (f := 55) rfl ?_); refine glE (some 8) rfl rfl Tryz.func55 (by kernel_rfl) rfl #[.string a0_0] rfl ?_; (with_reducible refine (tensor_Name_s.calls a0_0 true _ A2.out).mono ?_); rintro e w' ⟨rfl, ⟨nd, rfl⟩⟩; refine ⟨_, rfl, ?_⟩) | ((with_reducible refine gate_callee (f := 56) rfl ?_); refine glE (some 12) rfl rfl Tryz.func56 (by kernel_rfl) rfl #[.int .i64 a0_1] rfl ?_; (with_reducible refine (kind_Kind_Size.calls a0_1 t103 _ A4.out).mono ?_); rintro e w8 ⟨rfl, hb⟩; refine ⟨_, rfl, ?_⟩; replace BK101 := bkS BK101 hb; replace HB := hbS HB hb; (try clear hb)))
   go_ret
   exact ⟨cl3, hbA HB⟩
  ·
   rw [if_neg c5] at H; have c5b0 := beq_eq_false_iff_ne.mpr c5; have c5b1 := bne_iff_ne.mpr c5; replace H := Option.bind_eq_some_iff.mp H; obtain ⟨⟨t104, t105⟩, A90, H⟩ := H; replace H : (if t105 = 0 then ((kind_Kind_Size.f a0_1).bind fun t106 => (if (a0_3.size : Int) = (wrap64 (t104 * t106)) then (tensor_Tensor_Check.l0 k t104 0 a0_0 a0_1 l0_2 a0_3) else (some 19))) else (some t105)) = some r := H; have A9 := mk0 A90; clear A90
   by_cases c10 : t105 = 0
   ·
    rw [if_pos c10] at H; have c10b0 := beq_iff_eq.mpr c10; have c10b1 := bne_eq_false_iff_eq.mpr c10; clear c10; replace H := bnd H; obtain ⟨t106, A11, H⟩ := H
    by_cases c12 : (a0_3.size : Int) = (wrap64 (t104 * t106))
    ·
     rw [if_pos c12] at H; have c12b0 := beq_iff_eq.mpr c12; have c12b1 := bne_eq_false_iff_eq.mpr c12; clear c12; have H' := mk0 H; clear H
     go_enter Tryz.func34, Tryz.ntmps34
     try go_wp2_with (first | ((with_reducible refine gate_dst (N := 1) rfl ?_); refine boxE (N := 1) (cs := #[.string a0_0, .int .i64 a0_1, .slice A0_2 l0_2.length c0_2, .string a0_3]) (t := 33) ?_; intro gb101 hg w13 hbox hb; have BK101 := mk0 hbox; have GW101 := gwS HB hg; have GE101 := gwS HB hg; replace HB := hbS HB hb; clear hb hbox hg; obtain ⟨hcz14_0, hcz14_1, hcz14_2, hcz14_3⟩ := cz4 BK101) | ((with_reducible refine gate_callee (f := 55) rfl ?_); refine glE (some 8) rfl rfl Tryz.func55 (by kernel_rfl) rfl #[.string a0_0] rfl ?_; (with_reducible refine (tensor_Name_s.calls a0_0 true _ A2.out).mono ?_); rintro e w' ⟨rfl, ⟨nd, rfl⟩⟩; refine ⟨_, rfl, ?_⟩) | ((with_reducible refine gate_callee (f := 56) rfl ?_); refine glE (some 12) rfl rfl Tryz.func56 (by kernel_rfl) rfl #[.int .i64 a0_1] rfl ?_; (with_reducible refine (kind_Kind_Size.calls a0_1 t103 _ A4.out).mono ?_); rintro e w15 ⟨rfl, hb⟩; refine ⟨_, rfl, ?_⟩; replace BK101 := bkS BK101 hb; replace HB := hbS HB hb; (try clear hb); obtain ⟨hcz16_0, hcz16_1, hcz16_2, hcz16_3⟩ := cz4 BK101) | ((with_reducible refine gate_callee (f := 57) rfl ?_); refine glE (some 17) rfl rfl Tryz.func57 (by kernel_rfl) rfl #[.slice A0_2 l0_2.length c0_2] rfl ?_; (with_reducible refine (shape_Size_s.calls _ _ l0_2 t104 t105 _ ?side1 ?side2 A9.out).mono ?_); (case side1 => repeat (first | exact (Kd.C_below HR0_2.out HB.out) | (with_reducible refine Kd.C_alloc ?_ _) | (with_reducible refine Kd.C_drewN ?_ _) | (with_reducible refine Kd.C_drew ?_))); (case side2 => exact HC0_2.out); rintro e w17 ⟨rfl, hb⟩; refine ⟨_, rfl, ?_⟩; replace BK101 := bkS BK101 hb; replace HB := hbS HB hb; (try clear hb))); replace BK101 := mk0 (blk_drew BK101.out); replace HB := mk0 (below_drew1 HB.out)
     refine start_ (n := 10) (S := fun w' => w'.cell? ⟨gb101, 0, none⟩ = some (.string a0_0) ∧ w'.cell? ⟨gb101, 1, none⟩ = some (.int .i64 a0_1) ∧ w'.cell? ⟨gb101, 2, none⟩ = some (.slice A0_2 l0_2.length c0_2) ∧ w'.cell? ⟨gb101, 3, none⟩ = some (.string a0_3)) (ds := []) (bA 10 0) (by kernel_rfl) rfl rfl ⟨bcA BK101 0, bcA BK101 1, bcA BK101 2, bcA BK101 3⟩ (fun hHeld => ?_); refine with_tabW tensor_Tensor_Check.tab8 tensor_Tensor_Check.bits8 (fun HT_ HW_ => ?_)
     generalize w17.drew = w18 at BK101 HB hHeld ⊢
     refine puE (i := 0) (N := some 25) (bA 10 1) HT_ ?_
     refine puE (i := 3) (N := some 28) (bA 10 9) HT_ ?_
     refine puE (i := 4) (N := some 29) (bA 10 25) HT_ ?_
     refine taE (i := 1) (N := some 26) (bA 10 27) HT_ HW_ hHeld ?_
     refine puE (i := 2) (N := some 27) (bA 10 31) HT_ ?_
     refine taE (i := 5) (N := some 30) (bA 10 63) HT_ HW_ hHeld ?_
     refine one_ (i := 6) (N := some 31) (bA 10 127) rfl rfl (one_of HT_.out (by kernel_rfl)) (by decide) (fun K hK => ?_)
     refine goE Tryz.func56 (by kernel_rfl) rfl #[.int .i64 a0_1] (by rfl) rfl rfl ?_
     with_reducible refine (kind_Kind_Size.calls a0_1 t106 _ A11.out).mono ?_
     rintro e w19 ⟨rfl, hb⟩
     refine ⟨_, rfl, ?_⟩
     replace BK101 := bkS BK101 hb; replace HB := hbS HB hb; try clear hb
     refine hK.out _ _ ⟨bcA BK101 0, bcA BK101 1, bcA BK101 2, bcA BK101 3⟩ (fun hHeld => ?_)
     clear hK K
     refine noE 31 ?_
     refine puE (i := 7) (N := some 32) (bA 10 255) HT_ ?_
     refine puE (i := 8) (N := some 33) (bA 10 511) HT_ ?_
     refine puE (i := 9) (N := some 24) (bA 10 1023) HT_ ?_
     refine done_ (done_of HT_.out (by kernel_rfl)) ?_
     try go_wp2
     go_loopg [35] k (fun kq v35 w' => ∃ (x35_1 : Int), v35 = .int .i64 x35_1 ∧ Aside0 (tensor_Tensor_Check.l0 kq t104 x35_1 a0_0 a0_1 l0_2 a0_3 = some r) ∧ Aside0 (kq ≤ k) ∧ Aside0 (w'.heap[gb101]? = some (.cells #[.string a0_0, .int .i64 a0_1, (.slice A0_2 l0_2.length c0_2), .string a0_3] 33 (0, 0))) ∧ Aside0 (Below w.heap.size w w'))
     case atStart => exact ⟨(0), cl0, H', ⟨Nat.le_refl _⟩, ⟨bkA BK101⟩, ⟨hbA HB⟩⟩
     case round =>
      clear H'; obtain ⟨x35_1, rfl, HA, HK1, BK101, HB⟩ := hrel
      cases gk with
      | zero => exact absurd HA.out (by simp [tensor_Tensor_Check.l0])
      | succ k1 =>
       have H := HA.out; clear HA
       simp only [tensor_Tensor_Check.l0] at H
       by_cases c20 : x35_1 < t104
       ·
        rw [if_pos c20] at H; have c20b0 := decide_eq_true c20; clear c20; replace H := bnd H; obtain ⟨t107, A21, H⟩ := H; replace H := bnd H; obtain ⟨t108, A22, H⟩ := H
        by_cases c23 : t108 = true
        ·
         subst c23; have H1 : (tensor_Tensor_Check.l0 k1 t104 (wrap64 (x35_1 + 1)) a0_0 a0_1 l0_2 a0_3) = some r := by rw [if_pos rfl] at H; exact H
         clear H; have H := H1; clear H1; have H' := mk0 H; clear H
         try go_wp2
         replace BK101 := mk0 (blk_drew BK101.out); replace HB := mk0 (below_drew1 HB.out)
         refine start_ (n := 6) (S := fun w' => w'.cell? ⟨gb101, 0, none⟩ = some (.string a0_0) ∧ w'.cell? ⟨gb101, 1, none⟩ = some (.int .i64 a0_1) ∧ w'.cell? ⟨gb101, 2, none⟩ = some (.slice A0_2 l0_2.length c0_2) ∧ w'.cell? ⟨gb101, 3, none⟩ = some (.string a0_3)) (ds := []) (bA 6 0) (by kernel_rfl) rfl rfl ⟨bcA BK101 0, bcA BK101 1, bcA BK101 2, bcA BK101 3⟩ (fun hHeld => ?_)
         generalize wr.drew = w24 at BK101 HB hHeld ⊢
         refine pure_ (i := 2) (N := some 40) (v := ?_) (a' := ?_) (bA 6 4) rfl rfl (by kernel_rfl) (fun _ _ _ h => h) (Or.inl ⟨by rfl, ?_⟩) ?_ ?_
         rotate_left
         ·
          intro w'
          go_simp
          with_reducible rfl
         rotate_left
         ·
          simp only [Act.put, List.setIfInBounds_toArray, List.set_cons_zero, List.set_cons_succ, i64_w, i32_w]
          rfl
         refine take_ (i := 0) (N := some 38) (v := ?_) (a' := ?_) (bA 6 5) rfl rfl (by kernel_rfl) (fun _ _ _ h => h) (Or.inl ⟨by rfl, ?_⟩) hHeld ?_ ?_
         rotate_left
         ·
          rintro w' ⟨s0, s1, s2, s3⟩
          go_simp
          with_reducible rfl
         rotate_left
         ·
          simp only [Act.put, List.setIfInBounds_toArray, List.set_cons_zero, List.set_cons_succ, i64_w, i32_w]
          rfl
         refine take_ (i := 1) (N := some 39) (v := ?_) (a' := ?_) (bA 6 7) rfl rfl (by kernel_rfl) (fun _ _ _ h => h) (Or.inl ⟨by rfl, ?_⟩) hHeld ?_ ?_
         rotate_left
         ·
          rintro w' ⟨s0, s1, s2, s3⟩
          go_simp
          with_reducible rfl
         rotate_left
         ·
          simp only [Act.put, List.setIfInBounds_toArray, List.set_cons_zero, List.set_cons_succ, i64_w, i32_w]
          rfl
         refine one_ (i := 3) (N := some 41) (bA 6 15) rfl rfl (by kernel_rfl) (by decide) (fun K hK => ?_)
         refine goE Tryz.func70 (by kernel_rfl) rfl #[.agg #[.string a0_0, .int .i64 a0_1, .slice A0_2 l0_2.length c0_2, .string a0_3], .int .i64 x35_1] (by rfl) rfl rfl ?_
         with_reducible refine (tensor_Tensor_Elem.calls a0_0 a0_1 _ _ l0_2 a0_3 x35_1 t107 _ ?side1 ?side2 A21.out).mono ?_
         (case side1 => repeat (first | exact (Kd.C_below HR0_2.out HB.out) | (with_reducible refine Kd.C_alloc ?_ _) | (with_reducible refine Kd.C_drewN ?_ _) | (with_reducible refine Kd.C_drew ?_)))
         (case side2 => exact HC0_2.out)
         rintro e w25 ⟨rfl, hb⟩
         refine ⟨_, rfl, ?_⟩
         replace BK101 := bkS BK101 hb; replace HB := hbS HB hb; try clear hb
         refine hK.out _ _ ⟨bcA BK101 0, bcA BK101 1, bcA BK101 2, bcA BK101 3⟩ (fun hHeld => ?_)
         clear hK K
         refine noE 41 ?_
         refine one_ (i := 4) (N := some 42) (bA 6 31) rfl rfl (by kernel_rfl) (by decide) (fun K hK => ?_)
         refine goE Tryz.func69 (by kernel_rfl) rfl #[.agg #[.string a0_0, .int .i64 a0_1, .slice A0_2 l0_2.length c0_2, .string a0_3], .string t107] (by rfl) rfl rfl ?_
         with_reducible refine (tensor_Tensor_value.calls a0_0 a0_1 _ _ l0_2 a0_3 t107 true _ ?side1 ?side2 A22.out).mono ?_
         (case side1 => repeat (first | exact (Kd.C_below HR0_2.out HB.out) | (with_reducible refine Kd.C_alloc ?_ _) | (with_reducible refine Kd.C_drewN ?_ _) | (with_reducible refine Kd.C_drew ?_)))
         (case side2 => exact HC0_2.out)
         rintro e w26 ⟨rfl, hb⟩
         refine ⟨_, rfl, ?_⟩
         replace BK101 := bkS BK101 hb; replace HB := hbS HB hb; try clear hb
         refine hK.out _ _ ⟨bcA BK101 0, bcA BK101 1, bcA BK101 2, bcA BK101 3⟩ (fun hHeld => ?_)
         clear hK K
         refine noE 42 ?_
         refine pure_ (i := 5) (N := some 43) (v := ?_) (a' := ?_) (bA 6 63) rfl rfl (by kernel_rfl) (fun _ _ _ h => h) (Or.inl ⟨by rfl, ?_⟩) ?_ ?_
         rotate_left
         ·
          intro w'
          go_simp
          with_reducible rfl
         rotate_left
         ·
          simp only [Act.put, List.setIfInBounds_toArray, List.set_cons_zero, List.set_cons_succ, i64_w, i32_w]
          rfl
         refine done_ (by kernel_rfl) ?_
         try go_wp2
         go_roundg k1
         case measure => have := HK1.out; omega
         case rel => exact ⟨(wrap64 (x35_1 + 1)), cl0, H', cl2 HK1, ⟨bkA BK101⟩, ⟨hbA HB⟩⟩
        ·
         replace c23 := Bool.eq_false_iff.mpr c23; subst c23; have H1 : (some 17) = some r := by rw [if_neg (show ¬ (false = true) by decide)] at H; exact H
         clear H; have H := H1; clear H1; obtain rfl := Option.some.inj H
         try go_wp2
         replace BK101 := mk0 (blk_drew BK101.out); replace HB := mk0 (below_drew1 HB.out)
         refine start_ (n := 6) (S := fun w' => w'.cell? ⟨gb101, 0, none⟩ = some (.string a0_0) ∧ w'.cell? ⟨gb101, 1, none⟩ = some (.int .i64 a0_1) ∧ w'.cell? ⟨gb101, 2, none⟩ = some (.slice A0_2 l0_2.length c0_2) ∧ w'.cell? ⟨gb101, 3, none⟩ = some (.string a0_3)) (ds := []) (bA 6 0) (by kernel_rfl) rfl rfl ⟨bcA BK101 0, bcA BK101 1, bcA BK101 2, bcA BK101 3⟩ (fun hHeld => ?_)
         generalize wr.drew = w27 at BK101 HB hHeld ⊢
         refine pure_ (i := 2) (N := some 40) (v := ?_) (a' := ?_) (bA 6 4) rfl rfl (by kernel_rfl) (fun _ _ _ h => h) (Or.inl ⟨by rfl, ?_⟩) ?_ ?_
         rotate_left
         ·
          intro w'
          go_simp
          with_reducible rfl
         rotate_left
         ·
          simp only [Act.put, List.setIfInBounds_toArray, List.set_cons_zero, List.set_cons_succ, i64_w, i32_w]
          rfl
         refine take_ (i := 0) (N := some 38) (v := ?_) (a' := ?_) (bA 6 5) rfl rfl (by kernel_rfl) (fun _ _ _ h => h) (Or.inl ⟨by rfl, ?_⟩) hHeld ?_ ?_
         rotate_left
         ·
          rintro w' ⟨s0, s1, s2, s3⟩
          go_simp
          with_reducible rfl
         rotate_left
         ·
          simp only [Act.put, List.setIfInBounds_toArray, List.set_cons_zero, List.set_cons_succ, i64_w, i32_w]
          rfl
         refine take_ (i := 1) (N := some 39) (v := ?_) (a' := ?_) (bA 6 7) rfl rfl (by kernel_rfl) (fun _ _ _ h => h) (Or.inl ⟨by rfl, ?_⟩) hHeld ?_ ?_
         rotate_left
         ·
          rintro w' ⟨s0, s1, s2, s3⟩
          go_simp
          with_reducible rfl
         rotate_left
         ·
          simp only [Act.put, List.setIfInBounds_toArray, List.set_cons_zero, List.set_cons_succ, i64_w, i32_w]
          rfl
         refine one_ (i := 3) (N := some 41) (bA 6 15) rfl rfl (by kernel_rfl) (by decide) (fun K hK => ?_)
         refine goE Tryz.func70 (by kernel_rfl) rfl #[.agg #[.string a0_0, .int .i64 a0_1, .slice A0_2 l0_2.length c0_2, .string a0_3], .int .i64 x35_1] (by rfl) rfl rfl ?_
         with_reducible refine (tensor_Tensor_Elem.calls a0_0 a0_1 _ _ l0_2 a0_3 x35_1 t107 _ ?side1 ?side2 A21.out).mono ?_
         (case side1 => repeat (first | exact (Kd.C_below HR0_2.out HB.out) | (with_reducible refine Kd.C_alloc ?_ _) | (with_reducible refine Kd.C_drewN ?_ _) | (with_reducible refine Kd.C_drew ?_)))
         (case side2 => exact HC0_2.out)
         rintro e w28 ⟨rfl, hb⟩
         refine ⟨_, rfl, ?_⟩
         replace BK101 := bkS BK101 hb; replace HB := hbS HB hb; try clear hb
         refine hK.out _ _ ⟨bcA BK101 0, bcA BK101 1, bcA BK101 2, bcA BK101 3⟩ (fun hHeld => ?_)
         clear hK K
         refine noE 41 ?_
         refine one_ (i := 4) (N := some 42) (bA 6 31) rfl rfl (by kernel_rfl) (by decide) (fun K hK => ?_)
         refine goE Tryz.func69 (by kernel_rfl) rfl #[.agg #[.string a0_0, .int .i64 a0_1, .slice A0_2 l0_2.length c0_2, .string a0_3], .string t107] (by rfl) rfl rfl ?_
         with_reducible refine (tensor_Tensor_value.calls a0_0 a0_1 _ _ l0_2 a0_3 t107 false _ ?side1 ?side2 A22.out).mono ?_
         (case side1 => repeat (first | exact (Kd.C_below HR0_2.out HB.out) | (with_reducible refine Kd.C_alloc ?_ _) | (with_reducible refine Kd.C_drewN ?_ _) | (with_reducible refine Kd.C_drew ?_)))
         (case side2 => exact HC0_2.out)
         rintro e w29 ⟨rfl, hb⟩
         refine ⟨_, rfl, ?_⟩
         replace BK101 := bkS BK101 hb; replace HB := hbS HB hb; try clear hb
         refine hK.out _ _ ⟨bcA BK101 0, bcA BK101 1, bcA BK101 2, bcA BK101 3⟩ (fun hHeld => ?_)
         clear hK K
         refine noE 42 ?_
         refine pure_ (i := 5) (N := some 43) (v := ?_) (a' := ?_) (bA 6 63) rfl rfl (by kernel_rfl) (fun _ _ _ h => h) (Or.inl ⟨by rfl, ?_⟩) ?_ ?_
         rotate_left
         ·
          intro w'
          go_simp
          with_reducible rfl
         rotate_left
         ·
          simp only [Act.put, List.setIfInBounds_toArray, List.set_cons_zero, List.set_cons_succ, i64_w, i32_w]
          rfl
         refine done_ (by kernel_rfl) ?_
         try go_wp2
         go_ret
         exact ⟨cl3, hbA HB⟩
       ·
        rw [if_neg c20] at H; have c20b0 := decide_eq_false c20; clear c20; obtain rfl := Option.some.inj H
        go_wp2
        go_ret
        exact ⟨cl3, hbA HB⟩
    ·
     rw [if_neg c12] at H; have c12b0 := beq_eq_false_iff_ne.mpr c12; have c12b1 := bne_iff_ne.mpr c12; obtain rfl := Option.some.inj H
     go_enter Tryz.func34, Tryz.ntmps34
     try go_wp2_with (first | ((with_reducible refine gate_dst (N := 1) rfl ?_); refine boxE (N := 1) (cs := #[.string a0_0, .int .i64 a0_1, .slice A0_2 l0_2.length c0_2, .string a0_3]) (t := 33) ?_; intro gb101 hg w30 hbox hb; have BK101 := mk0 hbox; have GW101 := gwS HB hg; have GE101 := gwS HB hg; replace HB := hbS HB hb; clear hb hbox hg; obtain ⟨hcz31_0, hcz31_1, hcz31_2, hcz31_3⟩ := cz4 BK101) | ((with_reducible refine gate_callee (f := 55) rfl ?_); refine glE (some 8) rfl rfl Tryz.func55 (by kernel_rfl) rfl #[.string a0_0] rfl ?_; (with_reducible refine (tensor_Name_s.calls a0_0 true _ A2.out).mono ?_); rintro e w' ⟨rfl, ⟨nd, rfl⟩⟩; refine ⟨_, rfl, ?_⟩) | ((with_reducible refine gate_callee (f := 56) rfl ?_); refine glE (some 12) rfl rfl Tryz.func56 (by kernel_rfl) rfl #[.int .i64 a0_1] rfl ?_; (with_reducible refine (kind_Kind_Size.calls a0_1 t103 _ A4.out).mono ?_); rintro e w32 ⟨rfl, hb⟩; refine ⟨_, rfl, ?_⟩; replace BK101 := bkS BK101 hb; replace HB := hbS HB hb; (try clear hb); obtain ⟨hcz33_0, hcz33_1, hcz33_2, hcz33_3⟩ := cz4 BK101) | ((with_reducible refine gate_callee (f := 57) rfl ?_); refine glE (some 17) rfl rfl Tryz.func57 (by kernel_rfl) rfl #[.slice A0_2 l0_2.length c0_2] rfl ?_; (with_reducible refine (shape_Size_s.calls _ _ l0_2 t104 t105 _ ?side1 ?side2 A9.out).mono ?_); (case side1 => repeat (first | exact (Kd.C_below HR0_2.out HB.out) | (with_reducible refine Kd.C_alloc ?_ _) | (with_reducible refine Kd.C_drewN ?_ _) | (with_reducible refine Kd.C_drew ?_))); (case side2 => exact HC0_2.out); rintro e w34 ⟨rfl, hb⟩; refine ⟨_, rfl, ?_⟩; replace BK101 := bkS BK101 hb; replace HB := hbS HB hb; (try clear hb))); replace BK101 := mk0 (blk_drew BK101.out); replace HB := mk0 (below_drew1 HB.out)
     refine start_ (n := 10) (S := fun w' => w'.cell? ⟨gb101, 0, none⟩ = some (.string a0_0) ∧ w'.cell? ⟨gb101, 1, none⟩ = some (.int .i64 a0_1) ∧ w'.cell? ⟨gb101, 2, none⟩ = some (.slice A0_2 l0_2.length c0_2) ∧ w'.cell? ⟨gb101, 3, none⟩ = some (.string a0_3)) (ds := []) (bA 10 0) (by kernel_rfl) rfl rfl ⟨bcA BK101 0, bcA BK101 1, bcA BK101 2, bcA BK101 3⟩ (fun hHeld => ?_); refine with_tabW tensor_Tensor_Check.tab8 tensor_Tensor_Check.bits8 (fun HT_ HW_ => ?_)
     generalize w34.drew = w35 at BK101 HB hHeld ⊢
     refine puE (i := 0) (N := some 25) (bA 10 1) HT_ ?_
     refine puE (i := 3) (N := some 28) (bA 10 9) HT_ ?_
     refine puE (i := 4) (N := some 29) (bA 10 25) HT_ ?_
     refine taE (i := 1) (N := some 26) (bA 10 27) HT_ HW_ hHeld ?_
     refine puE (i := 2) (N := some 27) (bA 10 31) HT_ ?_
     refine taE (i := 5) (N := some 30) (bA 10 63) HT_ HW_ hHeld ?_
     refine one_ (i := 6) (N := some 31) (bA 10 127) rfl rfl (one_of HT_.out (by kernel_rfl)) (by decide) (fun K hK => ?_)
     refine goE Tryz.func56 (by kernel_rfl) rfl #[.int .i64 a0_1] (by rfl) rfl rfl ?_
     with_reducible refine (kind_Kind_Size.calls a0_1 t106 _ A11.out).mono ?_
     rintro e w36 ⟨rfl, hb⟩
     refine ⟨_, rfl, ?_⟩
     replace BK101 := bkS BK101 hb; replace HB := hbS HB hb; try clear hb
     refine hK.out _ _ ⟨bcA BK101 0, bcA BK101 1, bcA BK101 2, bcA BK101 3⟩ (fun hHeld => ?_)
     clear hK K
     refine noE 31 ?_
     refine puE (i := 7) (N := some 32) (bA 10 255) HT_ ?_
     refine puE (i := 8) (N := some 33) (bA 10 511) HT_ ?_
     refine puE (i := 9) (N := some 24) (bA 10 1023) HT_ ?_
     refine done_ (done_of HT_.out (by kernel_rfl)) ?_
     try go_wp2
     go_ret
     exact ⟨cl3, hbA HB⟩
   ·
    rw [if_neg c10] at H; have c10b0 := beq_eq_false_iff_ne.mpr c10; have c10b1 := bne_iff_ne.mpr c10; obtain rfl := Option.some.inj H
    go_enter Tryz.func34, Tryz.ntmps34
    go_wp2_with (first | ((with_reducible refine gate_dst (N := 1) rfl ?_); refine boxE (N := 1) (cs := #[.string a0_0, .int .i64 a0_1, .slice A0_2 l0_2.length c0_2, .string a0_3]) (t := 33) ?_; intro gb101 hg w37 hbox hb; have BK101 := mk0 hbox; have GW101 := gwS HB hg; have GE101 := gwS HB hg; replace HB := hbS HB hb; clear hb hbox hg; obtain ⟨hcz38_0, hcz38_1, hcz38_2, hcz38_3⟩ := cz4 BK101) | ((with_reducible refine gate_callee (f := 55) rfl ?_); refine glE (some 8) rfl rfl Tryz.func55 (by kernel_rfl) rfl #[.string a0_0] rfl ?_; (with_reducible refine (tensor_Name_s.calls a0_0 true _ A2.out).mono ?_); rintro e w' ⟨rfl, ⟨nd, rfl⟩⟩; refine ⟨_, rfl, ?_⟩) | ((with_reducible refine gate_callee (f := 56) rfl ?_); refine glE (some 12) rfl rfl Tryz.func56 (by kernel_rfl) rfl #[.int .i64 a0_1] rfl ?_; (with_reducible refine (kind_Kind_Size.calls a0_1 t103 _ A4.out).mono ?_); rintro e w39 ⟨rfl, hb⟩; refine ⟨_, rfl, ?_⟩; replace BK101 := bkS BK101 hb; replace HB := hbS HB hb; (try clear hb); obtain ⟨hcz40_0, hcz40_1, hcz40_2, hcz40_3⟩ := cz4 BK101) | ((with_reducible refine gate_callee (f := 57) rfl ?_); refine glE (some 17) rfl rfl Tryz.func57 (by kernel_rfl) rfl #[.slice A0_2 l0_2.length c0_2] rfl ?_; (with_reducible refine (shape_Size_s.calls _ _ l0_2 t104 t105 _ ?side1 ?side2 A9.out).mono ?_); (case side1 => repeat (first | exact (Kd.C_below HR0_2.out HB.out) | (with_reducible refine Kd.C_alloc ?_ _) | (with_reducible refine Kd.C_drewN ?_ _) | (with_reducible refine Kd.C_drew ?_))); (case side2 => exact HC0_2.out); rintro e w41 ⟨rfl, hb⟩; refine ⟨_, rfl, ?_⟩; replace BK101 := bkS BK101 hb; replace HB := hbS HB hb; (try clear hb)))
    go_ret
    exact ⟨cl3, hbA HB⟩
 ·
  replace c3 := Bool.eq_false_iff.mpr c3; subst c3; have H1 : (some 8) = some r := by rw [if_neg (show ¬ (false = true) by decide)] at H; exact H
  clear H; have H := H1; clear H1; obtain rfl := Option.some.inj H
  go_enter Tryz.func34, Tryz.ntmps34
  go_wp2_with (first | ((with_reducible refine gate_dst (N := 1) rfl ?_); refine boxE (N := 1) (cs := #[.string a0_0, .int .i64 a0_1, .slice A0_2 l0_2.length c0_2, .string a0_3]) (t := 33) ?_; intro gb101 hg w42 hbox hb; have BK101 := mk0 hbox; have GW101 := gwS HB hg; have GE101 := gwS HB hg; replace HB := hbS HB hb; clear hb hbox hg; obtain ⟨hcz43_0, hcz43_1, hcz43_2, hcz43_3⟩ := cz4 BK101) | ((with_reducible refine gate_callee (f := 55) rfl ?_); refine glE (some 8) rfl rfl Tryz.func55 (by kernel_rfl) rfl #[.string a0_0] rfl ?_; (with_reducible refine (tensor_Name_s.calls a0_0 false _ A2.out).mono ?_); rintro e w' ⟨rfl, ⟨nd, rfl⟩⟩; refine ⟨_, rfl, ?_⟩))
  go_ret
  exact ⟨cl3, hbA HB⟩
end Go.Proofs.YtgmggompdidcoaaGreatDoor.X
