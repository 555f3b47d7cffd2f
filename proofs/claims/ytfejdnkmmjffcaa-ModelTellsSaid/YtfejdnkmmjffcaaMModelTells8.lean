import Derived.Test.YtfejdnkmmjffcaaMModelTells3
import Derived.Test.YtfejdnkmmjffcaaMModelTells7
import Derived.Test.YtfejdnkmmjffcaaMModelTells4
import Derived.Test.YtfejdnkmmjffcaaMModelTells6
import Derived.Test.YtfejdnkmmjffcaaMModelTells5
namespace Go.Proofs.Ytfejdnkmmjffcaa.X
open Go.RowKit Go.Proofs.YtfejdnkmmjffcaaW.PrintWords Go.Proofs.YtfejdnkmmjffcaaW.PrintLast Go.Proofs.YtfejdnkmmjffcaaW.PrintMore
attribute [local go_sem] max2_int min2_int max_two min_two max_three min_three max_four min_four
set_option linter.unusedVariables false
set_option linter.unusedSimpArgs false
def tensor_Tensor_value.f (a0_0 : ByteArray) (a0_1 : Int) (l0_2 : List Int) (a0_3 a1 : ByteArray) : Option Bool := if a0_1 = 9 then (if 0 < a1.size then some (decide (bt a1 0 ≤ 1)) else none) else if a0_1 = 14 then some ((readR a1).2.2 == 0) else some true
set_option maxHeartbeats 8000000 in
set_option maxRecDepth 100000 in
theorem tensor_Tensor_value.calls (a0_0 : ByteArray) (a0_1 : Int) (A0_2 : Option Addr) (c0_2 : Nat) (l0_2 : List Int) (a0_3 : ByteArray) (a1 : ByteArray) (r : Bool) (w : World) (hr0_2 : Kd.C (Kd.int .i64) w A0_2 l0_2.length l0_2) (hc0_2 : l0_2.length ≤ c0_2) (h : tensor_Tensor_value.f a0_0 a0_1 l0_2 a0_3 a1 = some r) :
    Calls Try.prog 57 #[.agg #[.string a0_0, .int .i64 a0_1, .slice A0_2 l0_2.length c0_2, .string a0_3], .string a1] w fun e w' => e = .returned (.bool r) ∧ Below w.heap.size w w' := by
  have hu := Try.underlying42
  clear hr0_2 hc0_2
  unfold tensor_Tensor_value.f at h
  by_cases h9 : a0_1 = 9
  · subst h9
    rw [if_pos rfl] at h
    by_cases hs : 0 < a1.size
    · rw [if_pos hs] at h
      obtain rfl := Option.some.inj h
      have hb := bt_at a1 0 (by simpa using hs)
      have q1 : (0 < (a1.size : Int)) = True := eq_true (by omega)
      clear h
      go_enter Try.func57, Try.ntmps57
      go_wp2
      go_ret
      exact ⟨by rw [← hb]; rfl, below_alloc (Below.refl _ _) _⟩
    · rw [if_neg hs] at h; cases h
  · rw [if_neg h9] at h
    have h9b : (a0_1 == 9) = false := beq_eq_false_iff_ne.2 h9
    by_cases h14 : a0_1 = 14
    · subst h14
      rw [if_pos rfl] at h
      obtain rfl := Option.some.inj h
      clear h h9 h9b
      go_enter Try.func57, Try.ntmps57
      go_wp2_with (first | (fail))
      refine (gauss_Read.calls a1 _).mono ?_
      rintro e w1 ⟨rfl, hb⟩
      have HB := Aside0.mk (below_step (below_alloc (Below.refl w.heap.size w) _) hb)
      rw [show (readF a1).2.2 = (readR a1).2.2 from rfl]
      clear hb
      go_wp2_with (first | (fail))
      go_ret
      exact ⟨rfl, HB.out⟩
    · rw [if_neg h14] at h
      obtain rfl := Option.some.inj h
      have h14b : (a0_1 == 14) = false := beq_eq_false_iff_ne.2 h14
      clear h h9 h14
      go_enter Try.func57, Try.ntmps57
      go_wp2
      go_ret
      exact ⟨rfl, below_alloc (Below.refl _ _) _⟩
def tensor_Name.l0 : Nat → ByteArray → Int → Int → Option (Bool)
  | 0, _, _, _ => none
  | k + 1, x0, x5, x6 => if x6 < x5 then (if 0 ≤ x6 then (if x6 < (x0.size : Int) then (if (bt x0 x6) < 33 then (some false) else (if (bt x0 x6) > 126 then (some false) else (tensor_Name.l0 k x0 x5 (wrap64 (x6 + 1))))) else (none)) else (none)) else (if x0.toList = ([] : List UInt8) then (some false) else (some (decide ((x0.size : Int) ≤ 64))))
def tensor_Name.f (k : Nat) (a0 : ByteArray) : Option (Bool) := tensor_Name.l0 k a0 (a0.size : Int) 0
set_option maxHeartbeats 8000000 in
set_option maxRecDepth 100000 in
theorem tensor_Name.calls (k : Nat) (a0 : ByteArray) (r : Bool) (w : World) (h : tensor_Name.f k a0 = some r) :
    Calls Try.prog 55 #[.string a0] w fun e w' => e = .returned (.bool r) ∧ Drawn0 w w' := by
  have H : (tensor_Name.l0 k a0 (a0.size : Int) 0) = some r := h; clear h; have H' := mk0 H; clear H
  go_enter Try.func55, Try.ntmps55
  go_wp2
  go_loopg [6] k (fun kq v6 w' => ∃ (x6_1 : Int), v6 = .int .i64 x6_1 ∧ Aside0 (tensor_Name.l0 kq a0 (a0.size : Int) x6_1 = some r) ∧ Aside0 (kq ≤ k) ∧ Drawn0 w w')
  case atStart => exact ⟨(0), cl0, H', ⟨Nat.le_refl _⟩, by repeat (first | exact Drawn0.refl _ | apply Drawn0.step)⟩
  case round =>
    clear H'; obtain ⟨x6_1, rfl, HA, HK1, ⟨m1, rfl⟩⟩ := hrel
    cases gk with
    | zero => exact absurd HA.out (by simp [tensor_Name.l0])
    | succ k1 =>
      have H := HA.out; clear HA
      simp only [tensor_Name.l0] at H
      by_cases c2 : x6_1 < (a0.size : Int)
      · rw [if_pos c2] at H
        have c2b0 := decide_eq_true c2; clear c2
        by_cases c3 : 0 ≤ x6_1
        · rw [if_pos c3] at H
          have c3b0 := decide_eq_true c3; clear c3
          by_cases c4 : x6_1 < (a0.size : Int)
          · rw [if_pos c4] at H
            have c4b0 := decide_eq_true c4; clear c4
            by_cases c6 : (bt a0 x6_1) < 33
            · rw [if_pos c6] at H
              have c6b0 := decide_eq_true c6; clear c6; obtain rfl := Option.some.inj H; have p5 : 0 ≤ (x6_1 : Int) := ofd; have q5 : x6_1 < (a0.size : Int) := ofd; have hx5 := bt_at a0 x6_1; replace p5 := eq_true p5; replace q5 := eq_true q5
              go_wp2
              go_ret
              exact ⟨by first | rfl | (simp; done) | (simp [*]; done), by repeat (first | exact Drawn0.refl _ | apply Drawn0.step)⟩
            · rw [if_neg c6] at H
              have c6b0 := decide_eq_false c6; clear c6
              by_cases c8 : (bt a0 x6_1) > 126
              · rw [if_pos c8] at H
                have c8b0 := decide_eq_true c8; clear c8; obtain rfl := Option.some.inj H; have p5 : 0 ≤ (x6_1 : Int) := ofd; have q5 : x6_1 < (a0.size : Int) := ofd; have hx5 := bt_at a0 x6_1; replace p5 := eq_true p5; replace q5 := eq_true q5; have p7 : 0 ≤ (x6_1 : Int) := ofd; have q7 : x6_1 < (a0.size : Int) := ofd; have hx7 := bt_at a0 x6_1; replace p7 := eq_true p7; replace q7 := eq_true q7
                go_wp2
                go_ret
                exact ⟨by first | rfl | (simp; done) | (simp [*]; done), by repeat (first | exact Drawn0.refl _ | apply Drawn0.step)⟩
              · rw [if_neg c8] at H
                have c8b0 := decide_eq_false c8; clear c8; have H' := mk0 H; clear H; have p5 : 0 ≤ (x6_1 : Int) := ofd; have q5 : x6_1 < (a0.size : Int) := ofd; have hx5 := bt_at a0 x6_1; replace p5 := eq_true p5; replace q5 := eq_true q5; have p7 : 0 ≤ (x6_1 : Int) := ofd; have q7 : x6_1 < (a0.size : Int) := ofd; have hx7 := bt_at a0 x6_1; replace p7 := eq_true p7; replace q7 := eq_true q7
                go_wp2
                go_roundg k1
                case measure => have := HK1.out; omega
                case rel => exact ⟨(wrap64 (x6_1 + 1)), cl0, H', cl2 HK1, by repeat (first | exact Drawn0.refl _ | apply Drawn0.step)⟩
          · rw [if_neg c4] at H; exact ne0 H
        · rw [if_neg c3] at H; exact ne0 H
      · rw [if_neg c2] at H
        have c2b0 := decide_eq_false c2; clear c2
        by_cases c9 : a0.toList = ([] : List UInt8)
        · rw [if_pos c9] at H
          have c9b0 := beq_iff_eq.mpr c9; have c9b1 := bne_eq_false_iff_eq.mpr c9; clear c9; obtain rfl := Option.some.inj H
          go_wp2
          go_ret
          exact ⟨by first | rfl | (simp; done) | (simp [*]; done), by repeat (first | exact Drawn0.refl _ | apply Drawn0.step)⟩
        · rw [if_neg c9] at H
          have c9b0 := beq_eq_false_iff_ne.mpr c9; have c9b1 := bne_iff_ne.mpr c9; obtain rfl := Option.some.inj H
          go_wp2
          go_ret
          exact ⟨by first | rfl | (simp; done) | (simp [*]; done), by repeat (first | exact Drawn0.refl _ | apply Drawn0.step)⟩

theorem toList_nil {b : ByteArray} : b.toList = [] ↔ b.size = 0 := by
  rw [ByteArray.toList_eq]
  constructor
  · intro h; have := congrArg List.length h; simpa using this
  · intro h; exact List.eq_nil_of_length_eq_zero (by simpa using h)
theorem toList_inj {a b : ByteArray} : a.toList = b.toList ↔ a = b := by
  rw [ByteArray.toList_eq, ByteArray.toList_eq]
  constructor
  · intro h; cases a; cases b; simp_all
  · intro h; rw [h]
def nameR (s : ByteArray) : Bool := (ns s).all (fun c => decide (33 ≤ c ∧ c ≤ 126)) && decide (1 ≤ s.size ∧ s.size ≤ 64)
def sameR (n0 : ByteArray) (k0 : Int) (d0 : List Int) (b0 : ByteArray) (n1 : ByteArray) (k1 : Int) (d1 : List Int) (b1 : ByteArray) : Bool := decide (n0 = n1 ∧ k0 = k1 ∧ d0 = d1 ∧ b0 = b1)
def tensor_Name_s.f (a0 : ByteArray) : Option Bool := if a0.size ≤ 140737488351232 then some (nameR a0) else none
theorem tensor_Name_eval (s : ByteArray) (hs : s.size ≤ 140737488351232) (d : Nat) : ∀ (k i : Nat), s.size - i = d → i ≤ s.size → d < k →
    tensor_Name.l0 k s (s.size : Int) (i : Int) = some (((ns s).drop i).all (fun c => decide (33 ≤ c ∧ c ≤ 126)) && decide (1 ≤ s.size ∧ s.size ≤ 64)) := by
  induction d with
  | zero =>
    intro k i hd hi hk
    obtain ⟨k, rfl⟩ : ∃ m, k = m + 1 := ⟨k - 1, by omega⟩
    simp only [tensor_Name.l0]
    rw [if_neg (by omega), ns_drop_end s i (by omega)]
    by_cases h0 : s.size = 0
    · rw [if_pos (toList_nil.2 h0), h0]; rfl
    · rw [if_neg (fun h => h0 (toList_nil.1 h))]
      simp only [List.all_nil, Bool.true_and]
      congr 1
      exact decide_eq_decide.2 ⟨fun h => ⟨by omega, by omega⟩, fun h => by omega⟩
  | succ d ih =>
    intro k i hd hi hk
    obtain ⟨k, rfl⟩ : ∃ m, k = m + 1 := ⟨k - 1, by omega⟩
    have hlt : i < s.size := by omega
    have hb : bt s (i : Int) = ((s[i]'hlt).toNat : Int) := bt_ns s i hlt
    simp only [tensor_Name.l0]
    rw [if_pos (by omega), if_pos (by omega), if_pos (by omega), hb, ns_drop s i hlt, List.all_cons]
    by_cases h1 : ((s[i]'hlt).toNat : Int) < 33
    · rw [if_pos h1, show decide (33 ≤ (s[i]'hlt).toNat ∧ (s[i]'hlt).toNat ≤ 126) = false from decide_eq_false (by omega)]; rfl
    · rw [if_neg h1]
      by_cases h2 : ((s[i]'hlt).toNat : Int) > 126
      · rw [if_pos h2, show decide (33 ≤ (s[i]'hlt).toNat ∧ (s[i]'hlt).toNat ≤ 126) = false from decide_eq_false (by omega)]; rfl
      · rw [if_neg h2, show decide (33 ≤ (s[i]'hlt).toNat ∧ (s[i]'hlt).toNat ≤ 126) = true from decide_eq_true (by omega), Bool.true_and, wrap64_id (by omega) (by omega)]
        exact ih k (i + 1) (by omega) (by omega) (by omega)
theorem tensor_Name_s.ev (a0 : ByteArray) (r) (h : tensor_Name_s.f a0 = some r) : ∃ k, tensor_Name.f k a0 = some r := by
  unfold tensor_Name_s.f at h
  split at h
  · rename_i hs
    have := tensor_Name_eval a0 hs a0.size (a0.size + 1) 0 (by omega) (by omega) (by omega)
    rw [List.drop_zero] at this
    exact ⟨a0.size + 1, this.trans h⟩
  · cases h
set_option maxHeartbeats 1000000 in
theorem tensor_Name_s.calls (a0 : ByteArray) (r : Bool) (w : World) (h : tensor_Name_s.f a0 = some r) :
    Calls Try.prog 55 #[.string a0] w fun e w' => e = .returned (.bool r) ∧ Drawn0 w w' := by
  obtain ⟨k, hk⟩ := tensor_Name_s.ev a0 _ h
  exact tensor_Name.calls k a0 r w hk
def tensor_Tensor_Check.l0 : Nat → Int → Int → ByteArray → Int → List Int → ByteArray → Option (Int)
 | 0, _, _, _, _, _, _ => none
 | k + 1, x34, x35, x102000, x102001, x102002, x102003 => if x35 < x34 then ((tensor_Tensor_Elem.f x102000 x102001 x102002 x102003 x35).bind fun t107 => ((tensor_Tensor_value.f x102000 x102001 x102002 x102003 t107).bind fun t108 => (if t108 = true then (tensor_Tensor_Check.l0 k x34 (wrap64 (x35 + 1)) x102000 x102001 x102002 x102003) else (some 17)))) else (some 0)
def tensor_Tensor_Check.f (k : Nat) (a0_0 : ByteArray) (a0_1 : Int) (l0_2 : List Int) (a0_3 : ByteArray) : Option (Int) := (tensor_Name_s.f a0_0).bind fun t102 => (if t102 = true then ((kind_Kind_Size.f a0_1).bind fun t103 => (if t103 = 0 then (some 5) else ((shape_Size_s.f l0_2).bind fun bt104 => (if bt104.2 = 0 then ((kind_Kind_Size.f a0_1).bind fun t106 => (if (a0_3.size : Int) = (wrap64 (bt104.1 * t106)) then (tensor_Tensor_Check.l0 k bt104.1 0 a0_0 a0_1 l0_2 a0_3) else (some 19))) else (some bt104.2))))) else (some 8))
def tensor_Tensor_Check.T8 : Bool × List (List Nat × List Nat) := (true, [([], []), ([0], [0]), ([1], [1]), ([], []), ([], []), ([4], [4]), ([5], [5]), ([3, 6], [3, 6]), ([2, 7], [2, 7]), ([8, 6], [8])])
def tensor_Tensor_Check.B8 : List Nat := [0, 1, 3, 0, 0, 16, 48, 120, 255, 511]
theorem tensor_Tensor_Check.tab8 : rtab .any (opsOf Try.f39 8) = tensor_Tensor_Check.T8 := by kernel_rfl
theorem tensor_Tensor_Check.bits8 : waitsOk tensor_Tensor_Check.T8.2 tensor_Tensor_Check.B8 = true := by kernel_rfl
set_option maxHeartbeats 8000000 in
set_option maxRecDepth 100000 in
theorem tensor_Tensor_Check.calls (k : Nat) (a0_0 : ByteArray) (a0_1 : Int) (A0_2 : Option Addr) (c0_2 : Nat) (l0_2 : List Int) (a0_3 : ByteArray) (r : Int) (w : World) (hr0_2 : Kd.C (Kd.int .i64) w A0_2 l0_2.length l0_2) (hc0_2 : l0_2.length ≤ c0_2) (h : tensor_Tensor_Check.f k a0_0 a0_1 l0_2 a0_3 = some r) :
  Calls Try.prog 39 #[.agg #[.string a0_0, .int .i64 a0_1, .slice A0_2 l0_2.length c0_2, .string a0_3]] w fun e w' => e = .returned (.int .i64 r) ∧ Below w.heap.size w w' := by
 have hu42 := Try.underlying42; have HR0_2 := mk0 hr0_2; have HC0_2 := mk0 hc0_2; clear hr0_2 hc0_2; have HB := mk0 (Below.refl w.heap.size w); have H : ((tensor_Name_s.f a0_0).bind fun t102 => (if t102 = true then ((kind_Kind_Size.f a0_1).bind fun t103 => (if t103 = 0 then (some 5) else ((shape_Size_s.f l0_2).bind fun bt104 => (if bt104.2 = 0 then ((kind_Kind_Size.f a0_1).bind fun t106 => (if (a0_3.size : Int) = (wrap64 (bt104.1 * t106)) then (tensor_Tensor_Check.l0 k bt104.1 0 a0_0 a0_1 l0_2 a0_3) else (some 19))) else (some bt104.2))))) else (some 8))) = some r := h; clear h; replace H := bnd H; obtain ⟨t102, A2, H⟩ := H
 by_cases c3 : t102 = true
 ·
  subst c3; have H1 : ((kind_Kind_Size.f a0_1).bind fun t103 => (if t103 = 0 then (some 5) else ((shape_Size_s.f l0_2).bind fun bt104 => (if bt104.2 = 0 then ((kind_Kind_Size.f a0_1).bind fun t106 => (if (a0_3.size : Int) = (wrap64 (bt104.1 * t106)) then (tensor_Tensor_Check.l0 k bt104.1 0 a0_0 a0_1 l0_2 a0_3) else (some 19))) else (some bt104.2))))) = some r := by rw [if_pos rfl] at H; exact H
  clear H; have H := H1; clear H1; replace H := bnd H; obtain ⟨t103, A4, H⟩ := H
  by_cases c5 : t103 = 0
  ·
   rw [if_pos c5] at H; have c5b0 := beq_iff_eq.mpr c5; have c5b1 := bne_eq_false_iff_eq.mpr c5; clear c5; obtain rfl := Option.some.inj H
   go_enter Try.func39, Try.ntmps39
   go_wp2_with (first | ((with_reducible refine gate_dst (N := 1) rfl ?_); refine boxE (N := 1) (cs := #[.string a0_0, .int .i64 a0_1, .slice A0_2 l0_2.length c0_2, .string a0_3]) (t := 42) ?_; intro gb101 hg w6 hbox hb; have BK101 := mk0 hbox; have GW101 := gwS HB hg; have GE101 := gwS HB hg; replace HB := hbS HB hb; clear hb hbox hg; obtain ⟨hcz7_0, hcz7_1, hcz7_2, hcz7_3⟩ := cz4 BK101) | ((with_reducible refine gate_callee (f := 55) rfl ?_); refine glE (some 8) rfl rfl Try.func55 (by kernel_rfl) rfl #[.string a0_0] rfl ?_; (with_reducible refine (tensor_Name_s.calls a0_0 true _ A2.out).mono ?_); rintro e w' ⟨rfl, ⟨nd, rfl⟩⟩; refine ⟨_, rfl, ?_⟩) | ((with_reducible refine gate_callee (f := 49) rfl ?_); refine glE (some 12) rfl rfl Try.func49 (by kernel_rfl) rfl #[.int .i64 a0_1] rfl ?_; (with_reducible refine (kind_Kind_Size.calls a0_1 t103 _ A4.out).mono ?_); rintro e w8 ⟨rfl, hb⟩; refine ⟨_, rfl, ?_⟩; replace BK101 := bkS BK101 hb; replace HB := hbS HB hb; (try clear hb)))
   go_ret
   exact ⟨cl3, hbA HB⟩
  ·
   rw [if_neg c5] at H; have c5b0 := beq_eq_false_iff_ne.mpr c5; have c5b1 := bne_iff_ne.mpr c5; replace H := Option.bind_eq_some_iff.mp H; obtain ⟨⟨t104, t105⟩, A90, H⟩ := H; replace H : (if t105 = 0 then ((kind_Kind_Size.f a0_1).bind fun t106 => (if (a0_3.size : Int) = (wrap64 (t104 * t106)) then (tensor_Tensor_Check.l0 k t104 0 a0_0 a0_1 l0_2 a0_3) else (some 19))) else (some t105)) = some r := H; have A9 := mk0 A90; clear A90
   by_cases c10 : t105 = 0
   ·
    rw [if_pos c10] at H; have c10b0 := beq_iff_eq.mpr c10; have c10b1 := bne_eq_false_iff_eq.mpr c10; clear c10; replace H := bnd H; obtain ⟨t106, A11, H⟩ := H
    by_cases c12 : (a0_3.size : Int) = (wrap64 (t104 * t106))
    ·
     rw [if_pos c12] at H; have c12b0 := beq_iff_eq.mpr c12; have c12b1 := bne_eq_false_iff_eq.mpr c12; clear c12; have H' := mk0 H; clear H
     go_enter Try.func39, Try.ntmps39
     try go_wp2_with (first | ((with_reducible refine gate_dst (N := 1) rfl ?_); refine boxE (N := 1) (cs := #[.string a0_0, .int .i64 a0_1, .slice A0_2 l0_2.length c0_2, .string a0_3]) (t := 42) ?_; intro gb101 hg w13 hbox hb; have BK101 := mk0 hbox; have GW101 := gwS HB hg; have GE101 := gwS HB hg; replace HB := hbS HB hb; clear hb hbox hg; obtain ⟨hcz14_0, hcz14_1, hcz14_2, hcz14_3⟩ := cz4 BK101) | ((with_reducible refine gate_callee (f := 55) rfl ?_); refine glE (some 8) rfl rfl Try.func55 (by kernel_rfl) rfl #[.string a0_0] rfl ?_; (with_reducible refine (tensor_Name_s.calls a0_0 true _ A2.out).mono ?_); rintro e w' ⟨rfl, ⟨nd, rfl⟩⟩; refine ⟨_, rfl, ?_⟩) | ((with_reducible refine gate_callee (f := 49) rfl ?_); refine glE (some 12) rfl rfl Try.func49 (by kernel_rfl) rfl #[.int .i64 a0_1] rfl ?_; (with_reducible refine (kind_Kind_Size.calls a0_1 t103 _ A4.out).mono ?_); rintro e w15 ⟨rfl, hb⟩; refine ⟨_, rfl, ?_⟩; replace BK101 := bkS BK101 hb; replace HB := hbS HB hb; (try clear hb); obtain ⟨hcz16_0, hcz16_1, hcz16_2, hcz16_3⟩ := cz4 BK101) | ((with_reducible refine gate_callee (f := 56) rfl ?_); refine glE (some 17) rfl rfl Try.func56 (by kernel_rfl) rfl #[.slice A0_2 l0_2.length c0_2] rfl ?_; (with_reducible refine (shape_Size_s.calls _ _ l0_2 t104 t105 _ ?side1 ?side2 A9.out).mono ?_); (case side1 => repeat (first | exact (Kd.C_below HR0_2.out HB.out) | (with_reducible refine Kd.C_alloc ?_ _) | (with_reducible refine Kd.C_drewN ?_ _) | (with_reducible refine Kd.C_drew ?_))); (case side2 => exact HC0_2.out); rintro e w17 ⟨rfl, hb⟩; refine ⟨_, rfl, ?_⟩; replace BK101 := bkS BK101 hb; replace HB := hbS HB hb; (try clear hb))); replace BK101 := mk0 (blk_drew BK101.out); replace HB := mk0 (below_drew1 HB.out)
     refine start_ (n := 10) (S := fun w' => w'.cell? ⟨gb101, 0, none⟩ = some (.string a0_0) ∧ w'.cell? ⟨gb101, 1, none⟩ = some (.int .i64 a0_1) ∧ w'.cell? ⟨gb101, 2, none⟩ = some (.slice A0_2 l0_2.length c0_2) ∧ w'.cell? ⟨gb101, 3, none⟩ = some (.string a0_3)) (ds := []) (bA 10 0) (by kernel_rfl) rfl rfl ⟨bcA BK101 0, bcA BK101 1, bcA BK101 2, bcA BK101 3⟩ (fun hHeld => ?_); refine with_tabW tensor_Tensor_Check.tab8 tensor_Tensor_Check.bits8 (fun HT_ HW_ => ?_)
     generalize w17.drew = w18 at BK101 HB hHeld ⊢
     refine puE (i := 0) (N := some 25) (bA 10 1) HT_ ?_
     refine puE (i := 3) (N := some 28) (bA 10 9) HT_ ?_
     refine puE (i := 4) (N := some 29) (bA 10 25) HT_ ?_
     refine taE (i := 1) (N := some 26) (bA 10 27) HT_ HW_ hHeld ?_
     refine puE (i := 2) (N := some 27) (bA 10 31) HT_ ?_
     refine taE (i := 5) (N := some 30) (bA 10 63) HT_ HW_ hHeld ?_
     refine one_ (i := 6) (N := some 31) (bA 10 127) rfl rfl (one_of HT_.out (by kernel_rfl)) (by decide) (fun K hK => ?_)
     refine goE Try.func49 (by kernel_rfl) rfl #[.int .i64 a0_1] (by rfl) rfl rfl ?_
     with_reducible refine (kind_Kind_Size.calls a0_1 t106 _ A11.out).mono ?_
     rintro e w19 ⟨rfl, hb⟩
     refine ⟨_, rfl, ?_⟩
     replace BK101 := bkS BK101 hb; replace HB := hbS HB hb; try clear hb
     refine hK.out _ _ ⟨bcA BK101 0, bcA BK101 1, bcA BK101 2, bcA BK101 3⟩ (fun hHeld => ?_)
     clear hK K
     refine noE 31 ?_
     refine puE (i := 7) (N := some 32) (bA 10 255) HT_ ?_
     refine puE (i := 8) (N := some 33) (bA 10 511) HT_ ?_
     refine puE (i := 9) (N := some 24) (bA 10 1023) HT_ ?_
     refine done_ (done_of HT_.out (by kernel_rfl)) ?_
     try go_wp2
     go_loopg [35] k (fun kq v35 w' => ∃ (x35_1 : Int), v35 = .int .i64 x35_1 ∧ Aside0 (tensor_Tensor_Check.l0 kq t104 x35_1 a0_0 a0_1 l0_2 a0_3 = some r) ∧ Aside0 (kq ≤ k) ∧ Aside0 (w'.heap[gb101]? = some (.cells #[.string a0_0, .int .i64 a0_1, (.slice A0_2 l0_2.length c0_2), .string a0_3] 42 (0, 0))) ∧ Aside0 (Below w.heap.size w w'))
     case atStart => exact ⟨(0), cl0, H', ⟨Nat.le_refl _⟩, ⟨bkA BK101⟩, ⟨hbA HB⟩⟩
     case round =>
      clear H'; obtain ⟨x35_1, rfl, HA, HK1, BK101, HB⟩ := hrel
      cases gk with
      | zero => exact absurd HA.out (by simp [tensor_Tensor_Check.l0])
      | succ k1 =>
       have H := HA.out; clear HA
       simp only [tensor_Tensor_Check.l0] at H
       by_cases c20 : x35_1 < t104
       ·
        rw [if_pos c20] at H; have c20b0 := decide_eq_true c20; clear c20; replace H := bnd H; obtain ⟨t107, A21, H⟩ := H; replace H := bnd H; obtain ⟨t108, A22, H⟩ := H
        by_cases c23 : t108 = true
        ·
         subst c23; have H1 : (tensor_Tensor_Check.l0 k1 t104 (wrap64 (x35_1 + 1)) a0_0 a0_1 l0_2 a0_3) = some r := by rw [if_pos rfl] at H; exact H
         clear H; have H := H1; clear H1; have H' := mk0 H; clear H
         try go_wp2
         replace BK101 := mk0 (blk_drew BK101.out); replace HB := mk0 (below_drew1 HB.out)
         refine start_ (n := 6) (S := fun w' => w'.cell? ⟨gb101, 0, none⟩ = some (.string a0_0) ∧ w'.cell? ⟨gb101, 1, none⟩ = some (.int .i64 a0_1) ∧ w'.cell? ⟨gb101, 2, none⟩ = some (.slice A0_2 l0_2.length c0_2) ∧ w'.cell? ⟨gb101, 3, none⟩ = some (.string a0_3)) (ds := []) (bA 6 0) (by kernel_rfl) rfl rfl ⟨bcA BK101 0, bcA BK101 1, bcA BK101 2, bcA BK101 3⟩ (fun hHeld => ?_)
         generalize wr.drew = w24 at BK101 HB hHeld ⊢
         refine pure_ (i := 2) (N := some 40) (v := ?_) (a' := ?_) (bA 6 4) rfl rfl (by kernel_rfl) (fun _ _ _ h => h) (Or.inl ⟨by rfl, ?_⟩) ?_ ?_
         rotate_left
         ·
          intro w'
          go_simp
          with_reducible rfl
         rotate_left
         ·
          simp only [Act.put, List.setIfInBounds_toArray, List.set_cons_zero, List.set_cons_succ, i64_w, i32_w]
          rfl
         refine take_ (i := 0) (N := some 38) (v := ?_) (a' := ?_) (bA 6 5) rfl rfl (by kernel_rfl) (fun _ _ _ h => h) (Or.inl ⟨by rfl, ?_⟩) hHeld ?_ ?_
         rotate_left
         ·
          rintro w' ⟨s0, s1, s2, s3⟩
          go_simp
          with_reducible rfl
         rotate_left
         ·
          simp only [Act.put, List.setIfInBounds_toArray, List.set_cons_zero, List.set_cons_succ, i64_w, i32_w]
          rfl
         refine take_ (i := 1) (N := some 39) (v := ?_) (a' := ?_) (bA 6 7) rfl rfl (by kernel_rfl) (fun _ _ _ h => h) (Or.inl ⟨by rfl, ?_⟩) hHeld ?_ ?_
         rotate_left
         ·
          rintro w' ⟨s0, s1, s2, s3⟩
          go_simp
          with_reducible rfl
         rotate_left
         ·
          simp only [Act.put, List.setIfInBounds_toArray, List.set_cons_zero, List.set_cons_succ, i64_w, i32_w]
          rfl
         refine one_ (i := 3) (N := some 41) (bA 6 15) rfl rfl (by kernel_rfl) (by decide) (fun K hK => ?_)
         refine goE Try.func58 (by kernel_rfl) rfl #[.agg #[.string a0_0, .int .i64 a0_1, .slice A0_2 l0_2.length c0_2, .string a0_3], .int .i64 x35_1] (by rfl) rfl rfl ?_
         with_reducible refine (tensor_Tensor_Elem.calls a0_0 a0_1 _ _ l0_2 a0_3 x35_1 t107 _ ?side1 ?side2 A21.out).mono ?_
         (case side1 => repeat (first | exact (Kd.C_below HR0_2.out HB.out) | (with_reducible refine Kd.C_alloc ?_ _) | (with_reducible refine Kd.C_drewN ?_ _) | (with_reducible refine Kd.C_drew ?_)))
         (case side2 => exact HC0_2.out)
         rintro e w25 ⟨rfl, hb⟩
         refine ⟨_, rfl, ?_⟩
         replace BK101 := bkS BK101 hb; replace HB := hbS HB hb; try clear hb
         refine hK.out _ _ ⟨bcA BK101 0, bcA BK101 1, bcA BK101 2, bcA BK101 3⟩ (fun hHeld => ?_)
         clear hK K
         refine noE 41 ?_
         refine one_ (i := 4) (N := some 42) (bA 6 31) rfl rfl (by kernel_rfl) (by decide) (fun K hK => ?_)
         refine goE Try.func57 (by kernel_rfl) rfl #[.agg #[.string a0_0, .int .i64 a0_1, .slice A0_2 l0_2.length c0_2, .string a0_3], .string t107] (by rfl) rfl rfl ?_
         with_reducible refine (tensor_Tensor_value.calls a0_0 a0_1 _ _ l0_2 a0_3 t107 true _ ?side1 ?side2 A22.out).mono ?_
         (case side1 => repeat (first | exact (Kd.C_below HR0_2.out HB.out) | (with_reducible refine Kd.C_alloc ?_ _) | (with_reducible refine Kd.C_drewN ?_ _) | (with_reducible refine Kd.C_drew ?_)))
         (case side2 => exact HC0_2.out)
         rintro e w26 ⟨rfl, hb⟩
         refine ⟨_, rfl, ?_⟩
         replace BK101 := bkS BK101 hb; replace HB := hbS HB hb; try clear hb
         refine hK.out _ _ ⟨bcA BK101 0, bcA BK101 1, bcA BK101 2, bcA BK101 3⟩ (fun hHeld => ?_)
         clear hK K
         refine noE 42 ?_
         refine pure_ (i := 5) (N := some 43) (v := ?_) (a' := ?_) (bA 6 63) rfl rfl (by kernel_rfl) (fun _ _ _ h => h) (Or.inl ⟨by rfl, ?_⟩) ?_ ?_
         rotate_left
         ·
          intro w'
          go_simp
          with_reducible rfl
         rotate_left
         ·
          simp only [Act.put, List.setIfInBounds_toArray, List.set_cons_zero, List.set_cons_succ, i64_w, i32_w]
          rfl
         refine done_ (by kernel_rfl) ?_
         try go_wp2
         go_roundg k1
         case measure => have := HK1.out; omega
         case rel => exact ⟨(wrap64 (x35_1 + 1)), cl0, H', cl2 HK1, ⟨bkA BK101⟩, ⟨hbA HB⟩⟩
        ·
         replace c23 := Bool.eq_false_iff.mpr c23; subst c23; have H1 : (some 17) = some r := by rw [if_neg (show ¬ (false = true) by decide)] at H; exact H
         clear H; have H := H1; clear H1; obtain rfl := Option.some.inj H
         try go_wp2
         replace BK101 := mk0 (blk_drew BK101.out); replace HB := mk0 (below_drew1 HB.out)
         refine start_ (n := 6) (S := fun w' => w'.cell? ⟨gb101, 0, none⟩ = some (.string a0_0) ∧ w'.cell? ⟨gb101, 1, none⟩ = some (.int .i64 a0_1) ∧ w'.cell? ⟨gb101, 2, none⟩ = some (.slice A0_2 l0_2.length c0_2) ∧ w'.cell? ⟨gb101, 3, none⟩ = some (.string a0_3)) (ds := []) (bA 6 0) (by kernel_rfl) rfl rfl ⟨bcA BK101 0, bcA BK101 1, bcA BK101 2, bcA BK101 3⟩ (fun hHeld => ?_)
         generalize wr.drew = w27 at BK101 HB hHeld ⊢
         refine pure_ (i := 2) (N := some 40) (v := ?_) (a' := ?_) (bA 6 4) rfl rfl (by kernel_rfl) (fun _ _ _ h => h) (Or.inl ⟨by rfl, ?_⟩) ?_ ?_
         rotate_left
         ·
          intro w'
          go_simp
          with_reducible rfl
         rotate_left
         ·
          simp only [Act.put, List.setIfInBounds_toArray, List.set_cons_zero, List.set_cons_succ, i64_w, i32_w]
          rfl
         refine take_ (i := 0) (N := some 38) (v := ?_) (a' := ?_) (bA 6 5) rfl rfl (by kernel_rfl) (fun _ _ _ h => h) (Or.inl ⟨by rfl, ?_⟩) hHeld ?_ ?_
         rotate_left
         ·
          rintro w' ⟨s0, s1, s2, s3⟩
          go_simp
          with_reducible rfl
         rotate_left
         ·
          simp only [Act.put, List.setIfInBounds_toArray, List.set_cons_zero, List.set_cons_succ, i64_w, i32_w]
          rfl
         refine take_ (i := 1) (N := some 39) (v := ?_) (a' := ?_) (bA 6 7) rfl rfl (by kernel_rfl) (fun _ _ _ h => h) (Or.inl ⟨by rfl, ?_⟩) hHeld ?_ ?_
         rotate_left
         ·
          rintro w' ⟨s0, s1, s2, s3⟩
          go_simp
          with_reducible rfl
         rotate_left
         ·
          simp only [Act.put, List.setIfInBounds_toArray, List.set_cons_zero, List.set_cons_succ, i64_w, i32_w]
          rfl
         refine one_ (i := 3) (N := some 41) (bA 6 15) rfl rfl (by kernel_rfl) (by decide) (fun K hK => ?_)
         refine goE Try.func58 (by kernel_rfl) rfl #[.agg #[.string a0_0, .int .i64 a0_1, .slice A0_2 l0_2.length c0_2, .string a0_3], .int .i64 x35_1] (by rfl) rfl rfl ?_
         with_reducible refine (tensor_Tensor_Elem.calls a0_0 a0_1 _ _ l0_2 a0_3 x35_1 t107 _ ?side1 ?side2 A21.out).mono ?_
         (case side1 => repeat (first | exact (Kd.C_below HR0_2.out HB.out) | (with_reducible refine Kd.C_alloc ?_ _) | (with_reducible refine Kd.C_drewN ?_ _) | (with_reducible refine Kd.C_drew ?_)))
         (case side2 => exact HC0_2.out)
         rintro e w28 ⟨rfl, hb⟩
         refine ⟨_, rfl, ?_⟩
         replace BK101 := bkS BK101 hb; replace HB := hbS HB hb; try clear hb
         refine hK.out _ _ ⟨bcA BK101 0, bcA BK101 1, bcA BK101 2, bcA BK101 3⟩ (fun hHeld => ?_)
         clear hK K
         refine noE 41 ?_
         refine one_ (i := 4) (N := some 42) (bA 6 31) rfl rfl (by kernel_rfl) (by decide) (fun K hK => ?_)
         refine goE Try.func57 (by kernel_rfl) rfl #[.agg #[.string a0_0, .int .i64 a0_1, .slice A0_2 l0_2.length c0_2, .string a0_3], .string t107] (by rfl) rfl rfl ?_
         with_reducible refine (tensor_Tensor_value.calls a0_0 a0_1 _ _ l0_2 a0_3 t107 false _ ?side1 ?side2 A22.out).mono ?_
         (case side1 => repeat (first | exact (Kd.C_below HR0_2.out HB.out) | (with_reducible refine Kd.C_alloc ?_ _) | (with_reducible refine Kd.C_drewN ?_ _) | (with_reducible refine Kd.C_drew ?_)))
         (case side2 => exact HC0_2.out)
         rintro e w29 ⟨rfl, hb⟩
         refine ⟨_, rfl, ?_⟩
         replace BK101 := bkS BK101 hb; replace HB := hbS HB hb; try clear hb
         refine hK.out _ _ ⟨bcA BK101 0, bcA BK101 1, bcA BK101 2, bcA BK101 3⟩ (fun hHeld => ?_)
         clear hK K
         refine noE 42 ?_
         refine pure_ (i := 5) (N := some 43) (v := ?_) (a' := ?_) (bA 6 63) rfl rfl (by kernel_rfl) (fun _ _ _ h => h) (Or.inl ⟨by rfl, ?_⟩) ?_ ?_
         rotate_left
         ·
          intro w'
          go_simp
          with_reducible rfl
         rotate_left
         ·
          simp only [Act.put, List.setIfInBounds_toArray, List.set_cons_zero, List.set_cons_succ, i64_w, i32_w]
          rfl
         refine done_ (by kernel_rfl) ?_
         try go_wp2
         go_ret
         exact ⟨cl3, hbA HB⟩
       ·
        rw [if_neg c20] at H; have c20b0 := decide_eq_false c20; clear c20; obtain rfl := Option.some.inj H
        go_wp2
        go_ret
        exact ⟨cl3, hbA HB⟩
    ·
     rw [if_neg c12] at H; have c12b0 := beq_eq_false_iff_ne.mpr c12; have c12b1 := bne_iff_ne.mpr c12; obtain rfl := Option.some.inj H
     go_enter Try.func39, Try.ntmps39
     try go_wp2_with (first | ((with_reducible refine gate_dst (N := 1) rfl ?_); refine boxE (N := 1) (cs := #[.string a0_0, .int .i64 a0_1, .slice A0_2 l0_2.length c0_2, .string a0_3]) (t := 42) ?_; intro gb101 hg w30 hbox hb; have BK101 := mk0 hbox; have GW101 := gwS HB hg; have GE101 := gwS HB hg; replace HB := hbS HB hb; clear hb hbox hg; obtain ⟨hcz31_0, hcz31_1, hcz31_2, hcz31_3⟩ := cz4 BK101) | ((with_reducible refine gate_callee (f := 55) rfl ?_); refine glE (some 8) rfl rfl Try.func55 (by kernel_rfl) rfl #[.string a0_0] rfl ?_; (with_reducible refine (tensor_Name_s.calls a0_0 true _ A2.out).mono ?_); rintro e w' ⟨rfl, ⟨nd, rfl⟩⟩; refine ⟨_, rfl, ?_⟩) | ((with_reducible refine gate_callee (f := 49) rfl ?_); refine glE (some 12) rfl rfl Try.func49 (by kernel_rfl) rfl #[.int .i64 a0_1] rfl ?_; (with_reducible refine (kind_Kind_Size.calls a0_1 t103 _ A4.out).mono ?_); rintro e w32 ⟨rfl, hb⟩; refine ⟨_, rfl, ?_⟩; replace BK101 := bkS BK101 hb; replace HB := hbS HB hb; (try clear hb); obtain ⟨hcz33_0, hcz33_1, hcz33_2, hcz33_3⟩ := cz4 BK101) | ((with_reducible refine gate_callee (f := 56) rfl ?_); refine glE (some 17) rfl rfl Try.func56 (by kernel_rfl) rfl #[.slice A0_2 l0_2.length c0_2] rfl ?_; (with_reducible refine (shape_Size_s.calls _ _ l0_2 t104 t105 _ ?side1 ?side2 A9.out).mono ?_); (case side1 => repeat (first | exact (Kd.C_below HR0_2.out HB.out) | (with_reducible refine Kd.C_alloc ?_ _) | (with_reducible refine Kd.C_drewN ?_ _) | (with_reducible refine Kd.C_drew ?_))); (case side2 => exact HC0_2.out); rintro e w34 ⟨rfl, hb⟩; refine ⟨_, rfl, ?_⟩; replace BK101 := bkS BK101 hb; replace HB := hbS HB hb; (try clear hb))); replace BK101 := mk0 (blk_drew BK101.out); replace HB := mk0 (below_drew1 HB.out)
     refine start_ (n := 10) (S := fun w' => w'.cell? ⟨gb101, 0, none⟩ = some (.string a0_0) ∧ w'.cell? ⟨gb101, 1, none⟩ = some (.int .i64 a0_1) ∧ w'.cell? ⟨gb101, 2, none⟩ = some (.slice A0_2 l0_2.length c0_2) ∧ w'.cell? ⟨gb101, 3, none⟩ = some (.string a0_3)) (ds := []) (bA 10 0) (by kernel_rfl) rfl rfl ⟨bcA BK101 0, bcA BK101 1, bcA BK101 2, bcA BK101 3⟩ (fun hHeld => ?_); refine with_tabW tensor_Tensor_Check.tab8 tensor_Tensor_Check.bits8 (fun HT_ HW_ => ?_)
     generalize w34.drew = w35 at BK101 HB hHeld ⊢
     refine puE (i := 0) (N := some 25) (bA 10 1) HT_ ?_
     refine puE (i := 3) (N := some 28) (bA 10 9) HT_ ?_
     refine puE (i := 4) (N := some 29) (bA 10 25) HT_ ?_
     refine taE (i := 1) (N := some 26) (bA 10 27) HT_ HW_ hHeld ?_
     refine puE (i := 2) (N := some 27) (bA 10 31) HT_ ?_
     refine taE (i := 5) (N := some 30) (bA 10 63) HT_ HW_ hHeld ?_
     refine one_ (i := 6) (N := some 31) (bA 10 127) rfl rfl (one_of HT_.out (by kernel_rfl)) (by decide) (fun K hK => ?_)
     refine goE Try.func49 (by kernel_rfl) rfl #[.int .i64 a0_1] (by rfl) rfl rfl ?_
     with_reducible refine (kind_Kind_Size.calls a0_1 t106 _ A11.out).mono ?_
     rintro e w36 ⟨rfl, hb⟩
     refine ⟨_, rfl, ?_⟩
     replace BK101 := bkS BK101 hb; replace HB := hbS HB hb; try clear hb
     refine hK.out _ _ ⟨bcA BK101 0, bcA BK101 1, bcA BK101 2, bcA BK101 3⟩ (fun hHeld => ?_)
     clear hK K
     refine noE 31 ?_
     refine puE (i := 7) (N := some 32) (bA 10 255) HT_ ?_
     refine puE (i := 8) (N := some 33) (bA 10 511) HT_ ?_
     refine puE (i := 9) (N := some 24) (bA 10 1023) HT_ ?_
     refine done_ (done_of HT_.out (by kernel_rfl)) ?_
     try go_wp2
     go_ret
     exact ⟨cl3, hbA HB⟩
   ·
    rw [if_neg c10] at H; have c10b0 := beq_eq_false_iff_ne.mpr c10; have c10b1 := bne_iff_ne.mpr c10; obtain rfl := Option.some.inj H
    go_enter Try.func39, Try.ntmps39
    go_wp2_with (first | ((with_reducible refine gate_dst (N := 1) rfl ?_); refine boxE (N := 1) (cs := #[.string a0_0, .int .i64 a0_1, .slice A0_2 l0_2.length c0_2, .string a0_3]) (t := 42) ?_; intro gb101 hg w37 hbox hb; have BK101 := mk0 hbox; have GW101 := gwS HB hg; have GE101 := gwS HB hg; replace HB := hbS HB hb; clear hb hbox hg; obtain ⟨hcz38_0, hcz38_1, hcz38_2, hcz38_3⟩ := cz4 BK101) | ((with_reducible refine gate_callee (f := 55) rfl ?_); refine glE (some 8) rfl rfl Try.func55 (by kernel_rfl) rfl #[.string a0_0] rfl ?_; (with_reducible refine (tensor_Name_s.calls a0_0 true _ A2.out).mono ?_); rintro e w' ⟨rfl, ⟨nd, rfl⟩⟩; refine ⟨_, rfl, ?_⟩) | ((with_reducible refine gate_callee (f := 49) rfl ?_); refine glE (some 12) rfl rfl Try.func49 (by kernel_rfl) rfl #[.int .i64 a0_1] rfl ?_; (with_reducible refine (kind_Kind_Size.calls a0_1 t103 _ A4.out).mono ?_); rintro e w39 ⟨rfl, hb⟩; refine ⟨_, rfl, ?_⟩; replace BK101 := bkS BK101 hb; replace HB := hbS HB hb; (try clear hb); obtain ⟨hcz40_0, hcz40_1, hcz40_2, hcz40_3⟩ := cz4 BK101) | ((with_reducible refine gate_callee (f := 56) rfl ?_); refine glE (some 17) rfl rfl Try.func56 (by kernel_rfl) rfl #[.slice A0_2 l0_2.length c0_2] rfl ?_; (with_reducible refine (shape_Size_s.calls _ _ l0_2 t104 t105 _ ?side1 ?side2 A9.out).mono ?_); (case side1 => repeat (first | exact (Kd.C_below HR0_2.out HB.out) | (with_reducible refine Kd.C_alloc ?_ _) | (with_reducible refine Kd.C_drewN ?_ _) | (with_reducible refine Kd.C_drew ?_))); (case side2 => exact HC0_2.out); rintro e w41 ⟨rfl, hb⟩; refine ⟨_, rfl, ?_⟩; replace BK101 := bkS BK101 hb; replace HB := hbS HB hb; (try clear hb)))
    go_ret
    exact ⟨cl3, hbA HB⟩
 ·
  replace c3 := Bool.eq_false_iff.mpr c3; subst c3; have H1 : (some 8) = some r := by rw [if_neg (show ¬ (false = true) by decide)] at H; exact H
  clear H; have H := H1; clear H1; obtain rfl := Option.some.inj H
  go_enter Try.func39, Try.ntmps39
  go_wp2_with (first | ((with_reducible refine gate_dst (N := 1) rfl ?_); refine boxE (N := 1) (cs := #[.string a0_0, .int .i64 a0_1, .slice A0_2 l0_2.length c0_2, .string a0_3]) (t := 42) ?_; intro gb101 hg w42 hbox hb; have BK101 := mk0 hbox; have GW101 := gwS HB hg; have GE101 := gwS HB hg; replace HB := hbS HB hb; clear hb hbox hg; obtain ⟨hcz43_0, hcz43_1, hcz43_2, hcz43_3⟩ := cz4 BK101) | ((with_reducible refine gate_callee (f := 55) rfl ?_); refine glE (some 8) rfl rfl Try.func55 (by kernel_rfl) rfl #[.string a0_0] rfl ?_; (with_reducible refine (tensor_Name_s.calls a0_0 false _ A2.out).mono ?_); rintro e w' ⟨rfl, ⟨nd, rfl⟩⟩; refine ⟨_, rfl, ?_⟩))
  go_ret
  exact ⟨cl3, hbA HB⟩
def agatelaw07_Awake.f : Option Bool := some true
theorem awake07_check : tensor_Tensor_Check.f 20 ⟨#[97]⟩ 7 [2] (catLaid [1, -1]) = some 0 := by decide +kernel
theorem awake07_size : (catLaid [1, -1]).size = 16 := catLaid_size _
theorem set4_C {w : World} {A : Option Addr} {n g : Nat} {xs : List Int} {cs : Array Value} (h : Kd.C (Kd.int .i64) w A n xs) (hb : w.heap[g]? = some (.cells cs 42 (0, 0))) (hfar : ∀ ad, A = some ad → 0 < n → ad.block ≠ g) (a b c d : Value) : Kd.C (Kd.int .i64) ((((w.setCell ⟨g, 0, none⟩ a).setCell ⟨g, 1, none⟩ b).setCell ⟨g, 2, none⟩ c).setCell ⟨g, 3, none⟩ d) A n xs := by
  have h0 := Kd.reads_of_C (enc := Value.int .i64) (d := (0 : Int)) (h1 := fun _ => rfl) h
  refine Kd.C_of_reads (d := (0 : Int)) (h1 := fun _ => rfl) ⟨h0.1, h0.2.1, fun hn => ?_⟩
  obtain ⟨ad, e, hc⟩ := h0.2.2 hn
  refine ⟨ad, e, fun j hj => ?_⟩
  have hne := hfar ad e hn
  have hb2 : (ad.add j).block = ad.block := by unfold Addr.add; split <;> rfl
  rw [World.cell?_setCell_other _ _ _ _ (by intro he; exact hne (by rw [← hb2, ← he])), World.cell?_setCell_other _ _ _ _ (by intro he; exact hne (by rw [← hb2, ← he])), World.cell?_setCell_other _ _ _ _ (by intro he; exact hne (by rw [← hb2, ← he])), World.cell?_setCell_other _ _ _ _ (by intro he; exact hne (by rw [← hb2, ← he]))]
  exact hc j hj
set_option maxHeartbeats 8000000 in
set_option maxRecDepth 100000 in
theorem agatelaw07_Awake.calls (r : Bool) (w : World) (h : agatelaw07_Awake.f = some r) :
    Calls Try.prog 11 #[] w fun e w' => e = .returned (.bool r) ∧ Below w.heap.size w w' := by
  obtain rfl := Option.some.inj h
  clear h
  go_enter Try.func11, Try.ntmps11
  go_wp2_with (first | (fail))
  have hb0 : ((w.alloc (Obj.cells #[Value.int IntKind.i64 2] 2)).alloc (Obj.cells #[Value.int IntKind.i64 1, Value.int IntKind.i64 (-1)] 2)).heap[w.heap.size]? = some (Obj.cells #[Value.int IntKind.i64 2] 2) := blk_alloc (blk_new w _) _
  have hb1 : ((w.alloc (Obj.cells #[Value.int IntKind.i64 2] 2)).alloc (Obj.cells #[Value.int IntKind.i64 1, Value.int IntKind.i64 (-1)] 2)).heap[w.heap.size + 1]? = some (Obj.cells #[Value.int IntKind.i64 1, Value.int IntKind.i64 (-1)] 2) := by
    have h := blk_new (w.alloc (Obj.cells #[Value.int IntKind.i64 2] 2)) (Obj.cells #[Value.int IntKind.i64 1, Value.int IntKind.i64 (-1)] 2)
    rw [alloc_size] at h; exact h
  have r0 : Kd.C (Kd.int .i64) ((w.alloc (Obj.cells #[Value.int IntKind.i64 2] 2)).alloc (Obj.cells #[Value.int IntKind.i64 1, Value.int IntKind.i64 (-1)] 2)) (some ⟨w.heap.size, 0, none⟩) ([2] : List Int).length [2] := Kd.C_of_reads (d := (0 : Int)) (h1 := fun _ => rfl) ⟨rfl, by decide, fun _ => ⟨_, rfl, fun j hj => by
    have hj0 : j = 0 := by simp at hj; omega
    subst hj0
    exact (blk_cell hb0 0).trans rfl⟩⟩
  have r1 : Kd.C (Kd.int .i64) ((w.alloc (Obj.cells #[Value.int IntKind.i64 2] 2)).alloc (Obj.cells #[Value.int IntKind.i64 1, Value.int IntKind.i64 (-1)] 2)) (some ⟨w.heap.size + 1, 0, none⟩) ([1, -1] : List Int).length [1, -1] := Kd.C_of_reads (d := (0 : Int)) (h1 := fun _ => rfl) ⟨rfl, by decide, fun _ => ⟨_, rfl, fun j hj => by
    have hj0 : j = 0 ∨ j = 1 := by simp at hj; omega
    rcases hj0 with rfl | rfl
    · exact (blk_cell hb1 0).trans rfl
    · exact (blk_cell hb1 1).trans rfl⟩⟩
  have HB := Aside0.mk (below_alloc (below_alloc (Below.refl w.heap.size w) (Obj.cells #[Value.int IntKind.i64 2] 2)) (Obj.cells #[Value.int IntKind.i64 1, Value.int IntKind.i64 (-1)] 2))
  clear hb0 hb1
  refine (tensor_OfInts0.calls ⟨#[97]⟩ _ 1 [2] _ 2 [1, -1] _ r0 (Nat.le_refl _) r1 (Nat.le_refl _) (by decide) (by decide) (by simp)).mono ?_
  rintro e w1 ⟨v2, rfl, hR, hb⟩
  obtain ⟨A2, cp2, rfl⟩ := Kd.R_slice hR
  have n0_ := Aside0.mk (below_step HB.out hb)
  obtain ⟨A3, c3, he, hc3, hC⟩ := Kd.R_reads hR
  cases he
  have HC := Aside0.mk hC
  have HCC := Aside0.mk hc3
  have HF := Aside0.mk (show ∀ ad, A2 = some ad → ad.block < w1.heap.size from fun ad e => by
    obtain ⟨ad2, e2, h2⟩ := (Kd.reads_of_C (enc := Value.int .i64) (d := (0 : Int)) (h1 := fun _ => rfl) hC).2.2 (by decide)
    rw [e] at e2; cases e2
    exact World.block_lt_of_cell? w1 _ (h2 0 (by decide)))
  clear HB hb hR hC hc3 r0 r1
  have HB := n0_
  clear n0_
  have hsz := Aside0.mk awake07_size
  generalize hdd : catLaid [1, -1] = dd at hsz ⊢
  have HD := Aside0.mk hdd
  clear hdd
  go_wp2_with (first | ((with_reducible refine gate_dst (N := 1) rfl ?_); refine box_event ?hg (N := 1) ?hd (cs := #[.string (⟨#[]⟩ : ByteArray), .int .i64 0, .slice none 0 0, .string (⟨#[]⟩ : ByteArray)]) (t := 42) ?hr ?_; (case hd => rfl); (case hg => rfl); (case hr => first | (go_simp; done) | (go_simp; rfl)); intro gT hg wT hbox hb; have m0_ := Aside0.mk (below_step HB.out hb); have m1_ := Aside0.mk hbox; have m2_ := Aside0.mk (by rw [hg]; exact below_size HB.out : w.heap.size ≤ gT); have m3_ := Aside0.mk (Kd.C_below HC.out hb); clear HB HC; have HB := m0_; have BKT := m1_; have GWT := m2_; have HC := m3_; clear m0_ m1_ m2_ m3_; have HN := Aside0.mk (show ∀ ad, A2 = some ad → 0 < ([2] : List Int).length → ad.block ≠ gT from fun ad e _ => by have := HF.out ad e; omega); clear hb hbox hg; have c0 : wT.cell? ⟨gT, 0, none⟩ = some (.string (⟨#[]⟩ : ByteArray)) := (blk_cell BKT.out 0).trans rfl; have f0 := blk_frozen BKT.out 0; have c1 : wT.cell? ⟨gT, 1, none⟩ = some (.int .i64 0) := (blk_cell BKT.out 1).trans rfl; have f1 := blk_frozen BKT.out 1; have c2 : wT.cell? ⟨gT, 2, none⟩ = some (.slice none 0 0) := (blk_cell BKT.out 2).trans rfl; have f2 := blk_frozen BKT.out 2; have c3 : wT.cell? ⟨gT, 3, none⟩ = some (.string (⟨#[]⟩ : ByteArray)) := (blk_cell BKT.out 3).trans rfl; have f3 := blk_frozen BKT.out 3) | (fail))
  refine (agatelaw04_Awake.calls true _ rfl).mono ?_
  rintro e w4 ⟨rfl, hb⟩
  have n0_ := Aside0.mk (below_step (below_set (below_set (below_set (below_set HB.out GWT.out) GWT.out) GWT.out) GWT.out) hb)
  have n1_ := Aside0.mk (show w4.heap[gT]? = some (.cells #[.string ⟨#[97]⟩, .int .i64 7, .slice A2 ([2] : List Int).length cp2, .string dd] 42 (0, 0)) from blk_below (blk_put (blk_put (blk_put (blk_put BKT.out 0 _ rfl) 1 _ rfl) 2 _ rfl) 3 _ rfl) hb)
  have n2_ := Aside0.mk (Kd.C_below (set4_C HC.out BKT.out HN.out _ _ _ _) hb)
  clear HB BKT HC hb
  have HB := n0_
  have BKT := n1_
  have HC := n2_
  clear n0_ n1_ n2_
  have c0w4 : w4.cell? ⟨gT, 0, none⟩ = some (.string ⟨#[97]⟩) := (blk_cell BKT.out 0).trans rfl
  have f0w4 := blk_frozen BKT.out 0
  have c1w4 : w4.cell? ⟨gT, 1, none⟩ = some (.int .i64 7) := (blk_cell BKT.out 1).trans rfl
  have f1w4 := blk_frozen BKT.out 1
  have c2w4 : w4.cell? ⟨gT, 2, none⟩ = some (.slice A2 ([2] : List Int).length cp2) := (blk_cell BKT.out 2).trans rfl
  have f2w4 := blk_frozen BKT.out 2
  have c3w4 : w4.cell? ⟨gT, 3, none⟩ = some (.string dd) := (blk_cell BKT.out 3).trans rfl
  have f3w4 := blk_frozen BKT.out 3
  go_wp2_with (first | (fail))
  refine (agatelaw05_Awake.calls true _ rfl).mono ?_
  rintro e w5 ⟨rfl, hb⟩
  have n0_ := Aside0.mk (below_step (HB.out) hb)
  have n1_ := Aside0.mk (show w5.heap[gT]? = some (.cells #[.string ⟨#[97]⟩, .int .i64 7, .slice A2 ([2] : List Int).length cp2, .string dd] 42 (0, 0)) from blk_below BKT.out hb)
  have n2_ := Aside0.mk (Kd.C_below (HC.out) hb)
  clear HB BKT HC hb
  have HB := n0_
  have BKT := n1_
  have HC := n2_
  clear n0_ n1_ n2_
  have c0w5 : w5.cell? ⟨gT, 0, none⟩ = some (.string ⟨#[97]⟩) := (blk_cell BKT.out 0).trans rfl
  have f0w5 := blk_frozen BKT.out 0
  have c1w5 : w5.cell? ⟨gT, 1, none⟩ = some (.int .i64 7) := (blk_cell BKT.out 1).trans rfl
  have f1w5 := blk_frozen BKT.out 1
  have c2w5 : w5.cell? ⟨gT, 2, none⟩ = some (.slice A2 ([2] : List Int).length cp2) := (blk_cell BKT.out 2).trans rfl
  have f2w5 := blk_frozen BKT.out 2
  have c3w5 : w5.cell? ⟨gT, 3, none⟩ = some (.string dd) := (blk_cell BKT.out 3).trans rfl
  have f3w5 := blk_frozen BKT.out 3
  go_wp2_with (first | (fail))
  refine (agatelaw06_Awake.calls true _ rfl).mono ?_
  rintro e w6 ⟨rfl, hb⟩
  have n0_ := Aside0.mk (below_step (HB.out) hb)
  have n1_ := Aside0.mk (show w6.heap[gT]? = some (.cells #[.string ⟨#[97]⟩, .int .i64 7, .slice A2 ([2] : List Int).length cp2, .string dd] 42 (0, 0)) from blk_below BKT.out hb)
  have n2_ := Aside0.mk (Kd.C_below (HC.out) hb)
  clear HB BKT HC hb
  have HB := n0_
  have BKT := n1_
  have HC := n2_
  clear n0_ n1_ n2_
  have c0w6 : w6.cell? ⟨gT, 0, none⟩ = some (.string ⟨#[97]⟩) := (blk_cell BKT.out 0).trans rfl
  have f0w6 := blk_frozen BKT.out 0
  have c1w6 : w6.cell? ⟨gT, 1, none⟩ = some (.int .i64 7) := (blk_cell BKT.out 1).trans rfl
  have f1w6 := blk_frozen BKT.out 1
  have c2w6 : w6.cell? ⟨gT, 2, none⟩ = some (.slice A2 ([2] : List Int).length cp2) := (blk_cell BKT.out 2).trans rfl
  have f2w6 := blk_frozen BKT.out 2
  have c3w6 : w6.cell? ⟨gT, 3, none⟩ = some (.string dd) := (blk_cell BKT.out 3).trans rfl
  have f3w6 := blk_frozen BKT.out 3
  have q16 : ((dd.size : Int) == 16) = true := beq_iff_eq.2 (by have := hsz.out; omega)
  have q17 := hsz.out
  go_wp2_with (first | (fail))
  refine (tensor_Tensor_Check.calls 20 ⟨#[97]⟩ 7 A2 cp2 [2] dd 0 _ HC.out HCC.out (by rw [← HD.out]; exact awake07_check)).mono ?_
  rintro e w7 ⟨rfl, hb⟩
  have n0_ := Aside0.mk (below_step HB.out hb)
  clear HB hb
  have HB := n0_
  go_wp2_with (first | (fail))
  go_ret
  exact ⟨rfl, HB.out⟩
end Go.Proofs.Ytfejdnkmmjffcaa.X
