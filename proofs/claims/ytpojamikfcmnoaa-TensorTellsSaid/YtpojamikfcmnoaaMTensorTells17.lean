import Derived.Test.YtpojamikfcmnoaaMTensorTells2
import Derived.Test.YtpojamikfcmnoaaMTensorTells16
import Derived.Test.YtpojamikfcmnoaaMTensorTells14
import Derived.Test.YtpojamikfcmnoaaMTensorTells15
import Derived.Test.YtpojamikfcmnoaaMTensorTells3
import Derived.Test.YtpojamikfcmnoaaMTensorTells4
import Derived.Test.YtpojamikfcmnoaaMTensorTells5
namespace Go.Proofs.Ytpojamikfcmnoaa.X
open Go.RowKit Go.Proofs.YtpojamikfcmnoaaW.PrintWords Go.Proofs.YtpojamikfcmnoaaW.PrintLast Go.Proofs.YtpojamikfcmnoaaW.PrintMore
attribute [local go_sem] max2_int min2_int max_two min_two max_three min_three max_four min_four
set_option linter.unusedVariables false
set_option linter.unusedSimpArgs false
def agateref07_Check_s.f (a0_0 : ByteArray) (a0_1 : Int) (l0_2 : List Int) (a0_3 : ByteArray) : Option Int := if a0_0.size ≤ 140737488351232 ∧ a0_3.size ≤ 140737488351232 then some (chkR a0_0 a0_1 l0_2 a0_3) else none
theorem refCheck_eval (name : ByteArray) (kind : Int) (dims : List Int) (data : ByteArray) (n q : Nat) (hq : sizeK kind = (q : Int)) (hq0 : 0 < q) (hd : data.size ≤ 140737488351232) (hn : data.size = n * q) (d : Nat) : ∀ (k i : Nat), n - i = d → i ≤ n → 2 * d + 1 < k →
    agateref07_Check.l0 k (n : Int) (i : Int) name kind dims data = some (if ((List.range n).drop i).all (okAt kind data) = true then 0 else 17) := by
  have hnle : n ≤ data.size := by rw [hn]; exact Nat.le_mul_of_pos_right n hq0
  induction d with
  | zero =>
    intro k i hdd hi hk
    obtain ⟨k, rfl⟩ : ∃ m, k = m + 1 := ⟨k - 1, by omega⟩
    simp only [agateref07_Check.l0]
    rw [if_neg (by omega), List.drop_of_length_le (by simp; omega)]; rfl
  | succ d ih =>
    intro k i hdd hi hk
    obtain ⟨k, rfl⟩ : ∃ m, k = m + 2 := ⟨k - 2, by omega⟩
    have hlt : i < n := by omega
    have hi2 : (i + 1) * q ≤ data.size := by rw [hn]; exact Nat.mul_le_mul_right q hlt
    have hm : (i + 1) * q = i * q + q := Nat.succ_mul i q
    have ih' := ih k (i + 1) (by omega) (by omega) (by omega)
    rw [show k + 2 = (k + 1) + 1 from rfl]
    simp only [agateref07_Check.l0]
    rw [if_pos (by omega), all_from _ n i hlt]
    by_cases h9 : kind = 9
    · subst h9
      obtain rfl : q = 1 := by have : sizeK 9 = 1 := rfl; omega
      rw [if_pos rfl, if_pos (by omega), if_pos (by omega)]
      simp only [agateref07_Check.j1]
      have e : okAt 9 data i = decide (bt data i ≤ 1) := by unfold okAt; rw [if_pos rfl]
      rw [e]
      by_cases hb : bt data (i : Int) ≤ 1
      · rw [show decide (bt data (i : Int) > 1) = false from decide_eq_false (by omega), if_neg (by simp), if_neg (by decide), decide_eq_true hb, Bool.true_and, wrap64_id (by omega) (by omega)]
        exact ih'
      · rw [show decide (bt data (i : Int) > 1) = true from decide_eq_true (by omega), if_pos rfl, decide_eq_false hb]; rfl
    · rw [if_neg h9]
      simp only [agateref07_Check.j1]
      rw [if_neg (by simp)]
      by_cases h14 : kind = 14
      · subst h14
        obtain rfl : q = 8 := by have : sizeK 14 = 8 := rfl; omega
        have e1 : wrap64 (8 * (i : Int)) = ((8 * i : Nat) : Int) := by
          rw [show (8 * (i : Int)) = ((8 * i : Nat) : Int) by simp]; exact wrap64_id (by omega) (by omega)
        have e2 : wrap64 (((8 * i : Nat) : Int) + 8) = ((8 * i + 8 : Nat) : Int) := by
          rw [show (((8 * i : Nat) : Int) + 8) = ((8 * i + 8 : Nat) : Int) by omega]; exact wrap64_id (by omega) (by omega)
        rw [if_pos rfl, e1, e2, if_pos (by omega), if_pos (by omega), if_pos (by omega), Int.toNat_natCast, Int.toNat_natCast]
        have e : okAt 14 data i = ((readR (data.extract (8 * i) (8 * i + 8))).2.2 == 0) := by unfold okAt; rw [if_neg (by decide), if_pos rfl]
        rw [e, show agateref06_Read_s.f (data.extract (8 * i) (8 * i + 8)) = some (readR (data.extract (8 * i) (8 * i + 8))) from rfl, Option.bind_some]
        by_cases hz : (readR (data.extract (8 * i) (8 * i + 8))).2.2 = 0
        · rw [if_pos hz, show ((readR (data.extract (8 * i) (8 * i + 8))).2.2 == 0) = true from beq_iff_eq.2 hz, Bool.true_and, wrap64_id (by omega) (by omega)]
          exact ih'
        · rw [if_neg hz, show ((readR (data.extract (8 * i) (8 * i + 8))).2.2 == 0) = false from beq_eq_false_iff_ne.2 hz]; rfl
      · have e : okAt kind data i = true := by unfold okAt; rw [if_neg h9, if_neg h14]
        rw [if_neg h14, e, Bool.true_and, wrap64_id (by omega) (by omega)]
        exact ih'
theorem agateref07_Check_s.ev (a0_0 : ByteArray) (a0_1 : Int) (l0_2 : List Int) (a0_3 : ByteArray) (r) (h : agateref07_Check_s.f a0_0 a0_1 l0_2 a0_3 = some r) : ∃ k, agateref07_Check.f k a0_0 a0_1 l0_2 a0_3 = some r := by
  unfold agateref07_Check_s.f at h
  split at h
  case isFalse => cases h
  rename_i hs
  rw [← Option.some.inj h]
  unfold chkR agateref07_Check.f agateref07_Name_s.f
  rw [if_pos hs.1]
  simp only [Option.bind_some, show agateref04_Size_s.f a0_1 = some (sizeK a0_1) from rfl, show agateref05_Size_s.f l0_2 = some (sizeS l0_2) from rfl]
  by_cases hn : nameR a0_0 = true
  case neg => exact ⟨0, by rw [if_neg hn, if_neg hn]⟩
  rw [if_pos hn]
  by_cases hk : sizeK a0_1 = 0
  · exact ⟨0, by rw [if_pos hn, if_pos hk, if_pos hk]⟩
  rw [if_neg hk]
  by_cases hz : (sizeS l0_2).2 = 0
  case neg => exact ⟨0, by rw [if_pos hn, if_neg hk, if_neg hz, if_neg hz]⟩
  rw [if_pos hz]
  have hb := sizeS_bound hz
  obtain ⟨q, hq⟩ := Int.eq_ofNat_of_zero_le (show 0 ≤ sizeK a0_1 by rcases sizeK_cases a0_1 with h | h | h | h <;> omega)
  have hq8 : 0 < q ∧ q ≤ 8 := by rcases sizeK_cases a0_1 with h | h | h | h <;> omega
  obtain ⟨n, hn2⟩ := Int.eq_ofNat_of_zero_le hb.1
  have hle : n * q ≤ 65536 * 8 := Nat.mul_le_mul (by omega) hq8.2
  have hw : wrap64 ((sizeS l0_2).1 * sizeK a0_1) = (sizeS l0_2).1 * sizeK a0_1 := by
    rw [hq, hn2, show ((n : Int) * (q : Int)) = ((n * q : Nat) : Int) by simp]
    exact wrap64_id (by omega) (by omega)
  by_cases hd : (a0_3.size : Int) = (sizeS l0_2).1 * sizeK a0_1
  case neg => exact ⟨0, by rw [if_pos hn, if_neg hk, if_pos hz, hw, if_neg hd, if_neg hd]⟩
  have hd2 : a0_3.size = n * q := by rw [hq, hn2] at hd; exact_mod_cast hd
  have := refCheck_eval a0_0 a0_1 l0_2 a0_3 n q hq hq8.1 hs.2 hd2 n (2 * n + 2) 0 (by omega) (by omega) (by omega)
  rw [List.drop_zero] at this
  refine ⟨2 * n + 2, ?_⟩
  rw [if_pos hn, if_neg hk, if_pos hz, hw, if_pos hd, if_pos hd, hn2, Int.toNat_natCast]
  exact this
set_option maxHeartbeats 1000000 in
theorem agateref07_Check_s.calls (a0_0 : ByteArray) (a0_1 : Int) (A0_2 : Option Addr) (c0_2 : Nat) (l0_2 : List Int) (a0_3 : ByteArray) (r : Int) (w : World) (hr0_2 : Kd.C (Kd.int .i64) w A0_2 l0_2.length l0_2) (hc0_2 : l0_2.length ≤ c0_2) (h : agateref07_Check_s.f a0_0 a0_1 l0_2 a0_3 = some r) :
    Calls Try.prog 37 #[.agg #[.string a0_0, .int .i64 a0_1, .slice A0_2 l0_2.length c0_2, .string a0_3]] w fun e w' => e = .returned (.int .i64 r) ∧ Below w.heap.size w w' := by
  obtain ⟨k, hk⟩ := agateref07_Check_s.ev a0_0 a0_1 l0_2 a0_3 _ h
  exact agateref07_Check.calls k a0_0 a0_1 A0_2 c0_2 l0_2 a0_3 r w hr0_2 hc0_2 hk
end Go.Proofs.Ytpojamikfcmnoaa.X
namespace Go.Proofs.Ytpojamikfcmnoaa.X
open Go.RowKit Go.Proofs.YtpojamikfcmnoaaW.PrintWords Go.Proofs.YtpojamikfcmnoaaW.PrintLast Go.Proofs.YtpojamikfcmnoaaW.PrintMore
attribute [local go_sem] max2_int min2_int max_two min_two max_three min_three max_four min_four
set_option linter.unusedVariables false
set_option linter.unusedSimpArgs false
def agateref07_Int.l0 : Nat → ByteArray → Int → Int → Option (Int)
  | 0, _, _, _ => none
  | k + 1, x0, x3, x4 => if x4 ≥ 0 then (if 0 ≤ x4 then (if x4 < (x0.size : Int) then (agateref07_Int.l0 k x0 (IntKind.u64.wrap ((IntKind.u64.wrap (x3 * 256)) + (IntKind.u64.wrap (bt x0 x4)))) (wrap64 (x4 - 1))) else (none)) else (none)) else (some (wrap64 (x3)))
def agateref07_Int.f (k : Nat) (a0 : ByteArray) : Option (Int) := agateref07_Int.l0 k a0 0 7
set_option maxHeartbeats 8000000 in
set_option maxRecDepth 100000 in
theorem agateref07_Int.calls (k : Nat) (a0 : ByteArray) (r : Int) (w : World) (h : agateref07_Int.f k a0 = some r) :
    Calls Try.prog 75 #[.string a0] w fun e w' => e = .returned (.int .i64 r) ∧ Drawn0 w w' := by
  have H : (agateref07_Int.l0 k a0 0 7) = some r := h
  clear h
  have H' := Aside0.mk H
  clear H
  go_enter Try.func75, Try.ntmps75
  go_wp2
  go_loopg [3, 4] k (fun kq v3 v4 w' => ∃ (x3_1 : Int) (x4_1 : Int), v3 = .int .u64 x3_1 ∧ v4 = .int .i64 x4_1 ∧ Aside0 (agateref07_Int.l0 kq a0 x3_1 x4_1 = some r) ∧ Aside0 (kq ≤ k) ∧ Drawn0 w w')
  case atStart => exact ⟨(0), (7), (by first | rfl | (simp; done) | (simp [*]; done)), (by first | rfl | (simp; done) | (simp [*]; done)), H', ⟨Nat.le_refl _⟩, by repeat (first | exact Drawn0.refl _ | apply Drawn0.step)⟩
  case round =>
    clear H'
    obtain ⟨x3_1, x4_1, rfl, rfl, HA, HK1, ⟨m1, rfl⟩⟩ := hrel
    cases gk with
    | zero => exact absurd HA.out (by simp [agateref07_Int.l0])
    | succ k1 =>
      have H := HA.out
      clear HA
      simp only [agateref07_Int.l0] at H
      by_cases c2 : x4_1 ≥ 0
      · rw [if_pos c2] at H
        have c2b0 : decide (0 ≤ x4_1) = true := decide_eq_true c2
        clear c2
        by_cases c3 : 0 ≤ x4_1
        · rw [if_pos c3] at H
          have c3b0 : decide (0 ≤ x4_1) = true := decide_eq_true c3
          clear c3
          by_cases c4 : x4_1 < (a0.size : Int)
          · rw [if_pos c4] at H
            have c4b0 : decide (x4_1 < (a0.size : Int)) = true := decide_eq_true c4
            clear c4
            have H' := Aside0.mk H
            clear H
            have p5 : 0 ≤ (x4_1 : Int) := of_decide_eq_true (by first | (with_reducible assumption) | assumption)
            have q5 : x4_1 < (a0.size : Int) := of_decide_eq_true (by first | (with_reducible assumption) | assumption)
            have hx5 := bt_at a0 x4_1
            replace p5 := eq_true p5
            replace q5 := eq_true q5
            go_wp2
            go_roundg k1
            case measure => have := HK1.out; omega
            case rel => exact ⟨(IntKind.u64.wrap ((IntKind.u64.wrap (x3_1 * 256)) + (IntKind.u64.wrap (bt a0 x4_1)))), (wrap64 (x4_1 - 1)), (by first | rfl | (simp; done) | (simp [*]; done)), (by first | rfl | (simp; done) | (simp [*]; done)), H', ⟨by have := HK1.out; omega⟩, by repeat (first | exact Drawn0.refl _ | apply Drawn0.step)⟩
          · rw [if_neg c4] at H
            exact absurd H (by simp)
        · rw [if_neg c3] at H
          exact absurd H (by simp)
      · rw [if_neg c2] at H
        have c2b0 : decide (0 ≤ x4_1) = false := decide_eq_false c2
        clear c2
        obtain rfl := Option.some.inj H
        go_wp2
        go_ret
        exact ⟨by first | rfl | (simp; done) | (simp [*]; done), by repeat (first | exact Drawn0.refl _ | apply Drawn0.step)⟩
end Go.Proofs.Ytpojamikfcmnoaa.X
namespace Go.Proofs.Ytpojamikfcmnoaa.X
open Go.RowKit Go.Proofs.YtpojamikfcmnoaaW.PrintWords Go.Proofs.YtpojamikfcmnoaaW.PrintLast Go.Proofs.YtpojamikfcmnoaaW.PrintMore
attribute [local go_sem] max2_int min2_int max_two min_two max_three min_three max_four min_four
set_option linter.unusedVariables false
set_option linter.unusedSimpArgs false
def agateref07_Int_s.f (a0 : ByteArray) : Option Int := if a0.size = 8 then some (wholeR a0) else none
theorem agateref07_Int_eval (s : ByteArray) (hs : s.size = 8) (i : Nat) : ∀ (k : Nat), i ≤ s.size → i < k →
    agateref07_Int.l0 k s (lowS ((ns s).drop i) : Nat) ((i : Int) - 1) = some (wholeR s) := by
  induction i with
  | zero =>
    intro k hi hk
    obtain ⟨k, rfl⟩ : ∃ m, k = m + 1 := ⟨k - 1, by omega⟩
    simp only [agateref07_Int.l0]
    rw [if_neg (by omega), List.drop_zero]; rfl
  | succ i ih =>
    intro k hi hk
    obtain ⟨k, rfl⟩ : ∃ m, k = m + 1 := ⟨k - 1, by omega⟩
    have hlt : i < s.size := by omega
    have hb : bt s (i : Int) = ((s[i]'hlt).toNat : Int) := bt_ns s i hlt
    have hv := lowS_lt ((ns s).drop (i + 1)) (fun c hc => ns_lt s c (List.mem_of_mem_drop hc))
    rw [List.length_drop, ns_length] at hv
    have h1 : 256 ^ (s.size - (i + 1)) ≤ 256 ^ 7 := Nat.pow_le_pow_right (by decide) (by omega)
    have hc := (s[i]'hlt).toNat_lt
    simp only [agateref07_Int.l0]
    rw [show (((i + 1 : Nat) : Int) - 1) = (i : Int) by omega, if_pos (by omega), if_pos (by omega), if_pos (by omega), hb]
    have e : IntKind.u64.wrap (IntKind.u64.wrap ((lowS ((ns s).drop (i + 1)) : Nat) * 256) + IntKind.u64.wrap ((s[i]'hlt).toNat : Int)) = (lowS ((ns s).drop i) : Nat) := by
      rw [ns_drop s i hlt, lowS]
      generalize lowS ((ns s).drop (i + 1)) = x at *
      rw [u64_id (x := (x : Int) * 256) (by omega) (by omega), u64_id (x := ((s[i]'hlt).toNat : Int)) (by omega) (by omega), u64_id (by omega) (by omega)]
      omega
    rw [e, wrap64_id (by omega) (by omega)]
    exact ih k (by omega) (by omega)
theorem agateref07_Int_s.ev (a0 : ByteArray) (r) (h : agateref07_Int_s.f a0 = some r) : ∃ k, agateref07_Int.f k a0 = some r := by
  unfold agateref07_Int_s.f at h
  split at h
  · rename_i hs
    have := agateref07_Int_eval a0 hs 8 9 (by omega) (by omega)
    rw [List.drop_of_length_le (by rw [ns_length]; omega)] at this
    exact ⟨9, this.trans h⟩
  · cases h
set_option maxHeartbeats 1000000 in
theorem agateref07_Int_s.calls (a0 : ByteArray) (r : Int) (w : World) (h : agateref07_Int_s.f a0 = some r) :
    Calls Try.prog 75 #[.string a0] w fun e w' => e = .returned (.int .i64 r) ∧ Drawn0 w w' := by
  obtain ⟨k, hk⟩ := agateref07_Int_s.ev a0 _ h
  exact agateref07_Int.calls k a0 r w hk
end Go.Proofs.Ytpojamikfcmnoaa.X
namespace Go.Proofs.Ytpojamikfcmnoaa.X
open Go.RowKit Go.Proofs.YtpojamikfcmnoaaW.PrintWords Go.Proofs.YtpojamikfcmnoaaW.PrintLast Go.Proofs.YtpojamikfcmnoaaW.PrintMore
attribute [local go_sem] max2_int min2_int max_two min_two max_three min_three max_four min_four
set_option linter.unusedVariables false
set_option linter.unusedSimpArgs false
def agateref07_Ints.l0 : Nat → List Int → Int → ByteArray → Int → List Int → ByteArray → Option (List Int)
 | 0, _, _, _, _, _, _ => none
 | k + 1, x3, x4, x102000, x102001, x102002, x102003 => if (wrap64 (x4 + 8)) ≤ (x102003.size : Int) then (if 0 ≤ x4 then (if x4 ≤ (wrap64 (x4 + 8)) then ((agateref07_Int_s.f (x102003.extract (x4 : Int).toNat ((wrap64 (x4 + 8)) : Int).toNat)).bind fun t102 => (if x3.length < 17592186044416 then (agateref07_Ints.l0 k (x3 ++ [t102]) (wrap64 (x4 + 8)) x102000 x102001 x102002 x102003) else (none))) else (none)) else (none)) else (some x3)
def agateref07_Ints.f (k : Nat) (a0_0 : ByteArray) (a0_1 : Int) (l0_2 : List Int) (a0_3 : ByteArray) : Option (List Int) := agateref07_Ints.l0 k ([] : List Int) 0 a0_0 a0_1 l0_2 a0_3
set_option maxHeartbeats 8000000 in
set_option maxRecDepth 100000 in
theorem agateref07_Ints.calls (k : Nat) (a0_0 : ByteArray) (a0_1 : Int) (A0_2 : Option Addr) (c0_2 : Nat) (l0_2 : List Int) (a0_3 : ByteArray) (r : List Int) (w : World) (hr0_2 : Kd.C (Kd.int .i64) w A0_2 l0_2.length l0_2) (hc0_2 : l0_2.length ≤ c0_2) (h : agateref07_Ints.f k a0_0 a0_1 l0_2 a0_3 = some r) :
  Calls Try.prog 48 #[.agg #[.string a0_0, .int .i64 a0_1, .slice A0_2 l0_2.length c0_2, .string a0_3]] w fun e w' => ∃ v0_ : Value, e = .returned (v0_) ∧ Kd.R (Kd.int .i64) 2 w' w.heap.size (fun _ => True) v0_ r ∧ Below w.heap.size w w' := by
 have hu64 := Try.underlying64
 have HR0_2 := Aside0.mk hr0_2
 have HC0_2 := Aside0.mk hc0_2
 clear hr0_2 hc0_2
 have HB := Aside0.mk (Below.refl w.heap.size w)
 have H : (agateref07_Ints.l0 k ([] : List Int) 0 a0_0 a0_1 l0_2 a0_3) = some r := h
 clear h
 have H' := Aside0.mk H
 clear H
 go_enter Try.func48, Try.ntmps48
 go_wp2_with (first | ((with_reducible refine gate_dst (N := 1) rfl ?_); refine box_event ?hg (N := 1) ?hd (cs := #[.string a0_0, .int .i64 a0_1, .slice A0_2 l0_2.length c0_2, .string a0_3]) (t := 64) ?hr ?_; (case hd => rfl); (case hg => rfl); (case hr => first | (go_simp; done) | (go_simp; rfl)); intro gb101 hg w2 hbox hb; have n0_ := Aside0.mk (below_step (hbA HB) hb); have n1_ := Aside0.mk (hbox); have n2_ := Aside0.mk ((by rw [hg]; exact (below_size (hbA HB)) : w.heap.size ≤ gb101)); have n3_ := Aside0.mk ((by rw [hg]; exact (below_size (hbA HB)) : w.heap.size ≤ gb101)); clear HB; have HB := n0_; have BK101 := n1_; have GW101 := n2_; have GE101 := n3_; clear n0_ n1_ n2_ n3_; clear hb hbox hg))
 go_loopg [3, 4] k (fun kq v3 v4 w' => ∃ (x3_1 : List Int) (x4_1 : Int), v4 = .int .i64 x4_1 ∧ Aside0 (agateref07_Ints.l0 kq x3_1 x4_1 a0_0 a0_1 l0_2 a0_3 = some r) ∧ Aside0 (kq ≤ k) ∧ Aside0 (Kd.R (Kd.int .i64) 2 w' w.heap.size (fun _ => True) v3 x3_1) ∧ Aside0 (w'.heap[gb101]? = some (.cells #[.string a0_0, .int .i64 a0_1, (.slice A0_2 l0_2.length c0_2), .string a0_3] 64 (0, 0))) ∧ Aside0 (Below w.heap.size w w'))
 case atStart => exact ⟨(([] : List Int)), (0), (by first | rfl | (simp; done) | (simp [*]; done)), H', ⟨Nat.le_refl _⟩, ⟨by first | exact Kd.R_nil _ _ _ _ _ | exact Kd.N_nil _ _ _ _ _ | exact Kd.V_nil _ _ _ _ _ | exact Kd.Q_nil _ _ _ _ _ | exact Kd.S_nil _ _ _ _ _⟩, ⟨bkA BK101⟩, ⟨hbA HB⟩⟩
 case round =>
  clear H'
  obtain ⟨x3_1, x4_1, rfl, HA, HK1, HO_3, BK101, HB⟩ := hrel
  cases gk with
  | zero => exact absurd HA.out (by simp [agateref07_Ints.l0])
  | succ k1 =>
   have H := HA.out; clear HA
   simp only [agateref07_Ints.l0] at H
   by_cases c3 : (wrap64 (x4_1 + 8)) ≤ (a0_3.size : Int)
   ·
    rw [if_pos c3] at H
    have c3b0 : decide ((wrap64 (x4_1 + 8)) ≤ (a0_3.size : Int)) = true := decide_eq_true c3
    clear c3
    by_cases c4 : 0 ≤ x4_1
    ·
     rw [if_pos c4] at H
     have c4b0 := eq_true c4
     have c4b1 : decide (0 ≤ x4_1) = true := decide_eq_true c4
     clear c4
     by_cases c5 : x4_1 ≤ (wrap64 (x4_1 + 8))
     ·
      rw [if_pos c5] at H
      have c5b0 := eq_true c5
      have c5b1 : decide (x4_1 ≤ (wrap64 (x4_1 + 8))) = true := decide_eq_true c5
      have c6b0 := eq_true (of_decide_eq_true (by first | (with_reducible assumption) | assumption) : (wrap64 (x4_1 + 8)) ≤ (a0_3.size : Int))
      replace H := Option.bind_eq_some_iff.mp H
      obtain ⟨t102, A70, H⟩ := H
      replace H : (if x3_1.length < 17592186044416 then (agateref07_Ints.l0 k1 (x3_1 ++ [t102]) (wrap64 (x4_1 + 8)) a0_0 a0_1 l0_2 a0_3) else (none)) = some r := H
      have A7 := Aside0.mk A70
      clear A70
      by_cases c8 : x3_1.length < 17592186044416
      ·
       rw [if_pos c8] at H
       have LMc8 := Aside0.mk c8
       clear c8
       obtain ⟨y103, hy103⟩ : ∃ y_ : List Int, y_ = (x3_1 ++ [t102]) := ⟨_, rfl⟩
       replace H : (agateref07_Ints.l0 k1 y103 (wrap64 (x4_1 + 8)) a0_0 a0_1 l0_2 a0_3) = some r := by first | (rw [hy103]; with_reducible exact H) | (have H2_ := (Option.bind_some _ _).symm.trans H; rw [hy103]; with_reducible exact H2_) | (have H2_ := (Option.bind_some _ _).symm.trans H; with_reducible exact H2_) | with_reducible exact H | (rw [hy103]; exact H) | exact H
       have Ny103 := Aside0.mk hy103
       clear hy103
       have H' := Aside0.mk H
       clear H; have hcz9_0 : wr.cell? ⟨gb101, 0, none⟩ = some (.string a0_0) := bcA BK101 0; have hcz9_1 : wr.cell? ⟨gb101, 1, none⟩ = some (.int .i64 a0_1) := bcA BK101 1; have hcz9_2 : wr.cell? ⟨gb101, 2, none⟩ = some (.slice A0_2 l0_2.length c0_2) := bcA BK101 2; have hcz9_3 : wr.cell? ⟨gb101, 3, none⟩ = some (.string a0_3) := bcA BK101 3; have hfz9_0 := blk_frozen BK101.out 0; have hfz9_1 := blk_frozen BK101.out 1; have hfz9_2 := blk_frozen BK101.out 2; have hfz9_3 := blk_frozen BK101.out 3
       go_wp2_with (first | ((with_reducible refine gate_callee (f := 75) rfl ?_); refine goesL_ (some 20) rfl rfl Try.func75 (by kernel_rfl) rfl #[.string (a0_3.extract (x4_1 : Int).toNat ((wrap64 (x4_1 + 8)) : Int).toNat)] rfl (by (try simp only [List.map_toArray, List.map_cons, List.map_nil]); first | done | rfl | (simp only [List.length_drop, List.length_take]; rfl)) ?_; (with_reducible refine (agateref07_Int_s.calls (a0_3.extract (x4_1 : Int).toNat ((wrap64 (x4_1 + 8)) : Int).toNat) t102 _ A7.out).mono ?_); rintro e w' ⟨rfl, ⟨nd, rfl⟩⟩; refine ⟨_, rfl, ?_⟩) | ((with_reducible refine gate_builtin (b := .append) (xs := #[.tmp 13, .tmp 21]) rfl ?_); at_builtin; refine Kd.R_append (Kd.int .i64) (w0 := w) w.heap.size rfl (.tmp 13) (.tmp 21) 39 2 (.int .i64 0) 8 rfl Try.underlying39 info2 rfl (by decide) (by omega) u3 x3_1 t102 [.int .i64 t102] (fun _ => True) (fun _ => False) rfl rfl ?aP (fun _ hk => hk.elim) ?aF ?aO ?aB ?aS ?aL ?_; (case aP => exact rfl); (case aB => exact (hbA HB)); (case aF => exact (fun _ _ => trivial)); (case aO => exact (krA HO_3)); (case aS => exact (below_size (hbA HB))); (case aL => have := LMc8.out; omega); intro v104 w10 ho hb hg hat; rw [← Ny103.out] at ho; have n0_ := Aside0.mk (blk_grown (g := gb101) (bkA BK101) hg (Kd.R_ne HO_3.out BK101.out (by decide))); have n1_ := Aside0.mk (hb); have n2_ := Aside0.mk (ho); clear BK101; clear HB; clear HO_3; have BK101 := n0_; have HB := n1_; have HO105 := n2_; clear n0_ n1_ n2_; clear ho hb hg hat))
       go_roundg k1
       case measure => have := HK1.out; omega
       case rel => exact ⟨(y103), (wrap64 (x4_1 + 8)), (by first | rfl | (simp; done) | (simp [*]; done)), H', ⟨by have := HK1.out; omega⟩, ⟨krA HO105⟩, ⟨bkA BK101⟩, ⟨hbA HB⟩⟩
      ·
       rw [if_neg c8] at H
       exact absurd H (by simp)
     ·
      rw [if_neg c5] at H
      exact absurd H (by simp)
    ·
     rw [if_neg c4] at H
     exact absurd H (by simp)
   ·
    rw [if_neg c3] at H
    have c3b0 : decide ((wrap64 (x4_1 + 8)) ≤ (a0_3.size : Int)) = false := decide_eq_false c3
    clear c3
    obtain rfl := Option.some.inj H
    have hcz11_0 : wr.cell? ⟨gb101, 0, none⟩ = some (.string a0_0) := bcA BK101 0; have hcz11_1 : wr.cell? ⟨gb101, 1, none⟩ = some (.int .i64 a0_1) := bcA BK101 1; have hcz11_2 : wr.cell? ⟨gb101, 2, none⟩ = some (.slice A0_2 l0_2.length c0_2) := bcA BK101 2; have hcz11_3 : wr.cell? ⟨gb101, 3, none⟩ = some (.string a0_3) := bcA BK101 3; have hfz11_0 := blk_frozen BK101.out 0; have hfz11_1 := blk_frozen BK101.out 1; have hfz11_2 := blk_frozen BK101.out 2; have hfz11_3 := blk_frozen BK101.out 3
    go_wp2
    go_ret
    exact ⟨_, by first | rfl | (simp [errW_none, errW_some] <;> rfl) | (simp [*, errW_none, errW_some] <;> rfl), krA HO_3, hbA HB⟩
end Go.Proofs.Ytpojamikfcmnoaa.X
namespace Go.Proofs.Ytpojamikfcmnoaa.X
open Go.RowKit Go.Proofs.YtpojamikfcmnoaaW.PrintWords Go.Proofs.YtpojamikfcmnoaaW.PrintLast Go.Proofs.YtpojamikfcmnoaaW.PrintMore
attribute [local go_sem] max2_int min2_int max_two min_two max_three min_three max_four min_four
set_option linter.unusedVariables false
set_option linter.unusedSimpArgs false
def agateref07_Ints_s.f (a0_0 : ByteArray) (a0_1 : Int) (l0_2 : List Int) (a0_3 : ByteArray) : Option (List Int) := if a0_3.size ≤ 1000000 then some ((elemsOf a0_3 8).map wholeR) else none
theorem agateref07_Ints_eval (name : ByteArray) (kind : Int) (dims : List Int) (data : ByteArray) (hd : data.size ≤ 1000000) (d : Nat) : ∀ (k i : Nat), data.size / 8 - i = d → i ≤ data.size / 8 → d < k →
    agateref07_Ints.l0 k (((elemsOf data 8).map wholeR).take i) ((8 * i : Nat) : Int) name kind dims data = some ((elemsOf data 8).map wholeR) := by
  have hlen : ((elemsOf data 8).map wholeR).length = data.size / 8 := by rw [List.length_map, elemsOf_length]
  induction d with
  | zero =>
    intro k i hdd hi hk
    obtain ⟨k, rfl⟩ : ∃ m, k = m + 1 := ⟨k - 1, by omega⟩
    simp only [agateref07_Ints.l0]
    rw [wrap64_id (by omega) (by omega), if_neg (by omega), List.take_of_length_le (by rw [hlen]; omega)]
  | succ d ih =>
    intro k i hdd hi hk
    obtain ⟨k, rfl⟩ : ∃ m, k = m + 1 := ⟨k - 1, by omega⟩
    have hlt : i < data.size / 8 := by omega
    have ih' := ih k (i + 1) (by omega) (by omega) (by omega)
    have hx : data.extract (8 * i) (8 * i + 8) = (elemsOf data 8)[i]'(by rw [elemsOf_length]; exact hlt) := by
      rw [elemsOf_get data 8 i hlt, Nat.mul_comm]
    have hsz : (data.extract (8 * i) (8 * i + 8)).size = 8 := by rw [hx]; exact elemsOf_size data 8 (by decide) _ (List.getElem_mem _)
    simp only [agateref07_Ints.l0]
    rw [show wrap64 (((8 * i : Nat) : Int) + 8) = ((8 * i + 8 : Nat) : Int) by rw [wrap64_id (by omega) (by omega)]; omega]
    rw [if_pos (by omega), if_pos (by omega), if_pos (by omega), Int.toNat_natCast, Int.toNat_natCast]
    rw [show agateref07_Int_s.f (data.extract (8 * i) (8 * i + 8)) = some (wholeR (data.extract (8 * i) (8 * i + 8))) from if_pos hsz, Option.bind_some, if_pos (by rw [List.length_take]; omega)]
    rw [List.take_succ_eq_append_getElem (by rw [hlen]; exact hlt), List.getElem_map, ← hx] at ih'
    exact ih'
theorem agateref07_Ints_s.ev (a0_0 : ByteArray) (a0_1 : Int) (l0_2 : List Int) (a0_3 : ByteArray) (r) (h : agateref07_Ints_s.f a0_0 a0_1 l0_2 a0_3 = some r) : ∃ k, agateref07_Ints.f k a0_0 a0_1 l0_2 a0_3 = some r := by
  unfold agateref07_Ints_s.f at h
  split at h
  case isFalse => cases h
  rename_i hs
  rw [← h]
  exact ⟨a0_3.size / 8 + 1, agateref07_Ints_eval a0_0 a0_1 l0_2 a0_3 hs (a0_3.size / 8) (a0_3.size / 8 + 1) 0 (by omega) (by omega) (by omega)⟩
set_option maxHeartbeats 1000000 in
theorem agateref07_Ints_s.calls (a0_0 : ByteArray) (a0_1 : Int) (A0_2 : Option Addr) (c0_2 : Nat) (l0_2 : List Int) (a0_3 : ByteArray) (r : List Int) (w : World) (hr0_2 : Kd.C (Kd.int .i64) w A0_2 l0_2.length l0_2) (hc0_2 : l0_2.length ≤ c0_2) (h : agateref07_Ints_s.f a0_0 a0_1 l0_2 a0_3 = some r) :
    Calls Try.prog 48 #[.agg #[.string a0_0, .int .i64 a0_1, .slice A0_2 l0_2.length c0_2, .string a0_3]] w fun e w' => ∃ v0_ : Value, e = .returned (v0_) ∧ Kd.R (Kd.int .i64) 2 w' w.heap.size (fun _ => True) v0_ r ∧ Below w.heap.size w w' := by
  obtain ⟨k, hk⟩ := agateref07_Ints_s.ev a0_0 a0_1 l0_2 a0_3 _ h
  exact agateref07_Ints.calls k a0_0 a0_1 A0_2 c0_2 l0_2 a0_3 r w hr0_2 hc0_2 hk
end Go.Proofs.Ytpojamikfcmnoaa.X
namespace Go.Proofs.Ytpojamikfcmnoaa.X
open Go.RowKit Go.Proofs.YtpojamikfcmnoaaW.PrintWords Go.Proofs.YtpojamikfcmnoaaW.PrintLast Go.Proofs.YtpojamikfcmnoaaW.PrintMore
attribute [local go_sem] max2_int min2_int max_two min_two max_three min_three max_four min_four
set_option linter.unusedVariables false
set_option linter.unusedSimpArgs false
mutual
def agateref07_Same.j0 : Nat → Bool → ByteArray → Int → List Int → ByteArray → ByteArray → Int → List Int → ByteArray → Option (Bool)
 | 0, _, _, _, _, _, _, _, _, _ => none
 | k + 1, x33, x102000, x102001, x102002, x102003, x103000, x103001, x103002, x103003 => if x33 = true then (some false) else (agateref07_Same.l0 k 0 x102000 x102001 x102002 x102003 x103000 x103001 x103002 x103003)
def agateref07_Same.l0 : Nat → Int → ByteArray → Int → List Int → ByteArray → ByteArray → Int → List Int → ByteArray → Option (Bool)
 | 0, _, _, _, _, _, _, _, _, _ => none
 | k + 1, x5, x102000, x102001, x102002, x102003, x103000, x103001, x103002, x103003 => if x5 < (x102002.length : Int) then (if 0 ≤ x5 then (if x5 < (x103002.length : Int) then (if (rd x102002 x5) = (rd x103002 x5) then (agateref07_Same.l0 k (wrap64 (x5 + 1)) x102000 x102001 x102002 x102003 x103000 x103001 x103002 x103003) else (some false)) else (none)) else (none)) else (some true)
end
def agateref07_Same.f (k : Nat) (a0_0 : ByteArray) (a0_1 : Int) (l0_2 : List Int) (a0_3 : ByteArray) (a1_0 : ByteArray) (a1_1 : Int) (l1_2 : List Int) (a1_3 : ByteArray) : Option (Bool) := if a0_0.toList = a1_0.toList then (if a0_1 = a1_1 then (if a0_3.toList = a1_3.toList then (agateref07_Same.j0 k ((l0_2.length : Int) != (l1_2.length : Int)) a0_0 a0_1 l0_2 a0_3 a1_0 a1_1 l1_2 a1_3) else (agateref07_Same.j0 k true a0_0 a0_1 l0_2 a0_3 a1_0 a1_1 l1_2 a1_3)) else (agateref07_Same.j0 k true a0_0 a0_1 l0_2 a0_3 a1_0 a1_1 l1_2 a1_3)) else (agateref07_Same.j0 k true a0_0 a0_1 l0_2 a0_3 a1_0 a1_1 l1_2 a1_3)
set_option maxHeartbeats 8000000 in
set_option maxRecDepth 100000 in
theorem agateref07_Same.calls (k : Nat) (a0_0 : ByteArray) (a0_1 : Int) (A0_2 : Option Addr) (c0_2 : Nat) (l0_2 : List Int) (a0_3 : ByteArray) (a1_0 : ByteArray) (a1_1 : Int) (A1_2 : Option Addr) (c1_2 : Nat) (l1_2 : List Int) (a1_3 : ByteArray) (r : Bool) (w : World) (hr0_2 : Kd.C (Kd.int .i64) w A0_2 l0_2.length l0_2) (hc0_2 : l0_2.length ≤ c0_2) (hr1_2 : Kd.C (Kd.int .i64) w A1_2 l1_2.length l1_2) (hc1_2 : l1_2.length ≤ c1_2) (h : agateref07_Same.f k a0_0 a0_1 l0_2 a0_3 a1_0 a1_1 l1_2 a1_3 = some r) :
  Calls Try.prog 40 #[.agg #[.string a0_0, .int .i64 a0_1, .slice A0_2 l0_2.length c0_2, .string a0_3], .agg #[.string a1_0, .int .i64 a1_1, .slice A1_2 l1_2.length c1_2, .string a1_3]] w fun e w' => e = .returned (.bool r) ∧ Below w.heap.size w w' := by
 have hu64 := Try.underlying64
 have HR0_2 := Aside0.mk hr0_2
 have HC0_2 := Aside0.mk hc0_2
 clear hr0_2 hc0_2
 have HR1_2 := Aside0.mk hr1_2
 have HC1_2 := Aside0.mk hc1_2
 clear hr1_2 hc1_2
 have HB := Aside0.mk (Below.refl w.heap.size w)
 have H : (if a0_0.toList = a1_0.toList then (if a0_1 = a1_1 then (if a0_3.toList = a1_3.toList then (agateref07_Same.j0 k ((l0_2.length : Int) != (l1_2.length : Int)) a0_0 a0_1 l0_2 a0_3 a1_0 a1_1 l1_2 a1_3) else (agateref07_Same.j0 k true a0_0 a0_1 l0_2 a0_3 a1_0 a1_1 l1_2 a1_3)) else (agateref07_Same.j0 k true a0_0 a0_1 l0_2 a0_3 a1_0 a1_1 l1_2 a1_3)) else (agateref07_Same.j0 k true a0_0 a0_1 l0_2 a0_3 a1_0 a1_1 l1_2 a1_3)) = some r := h
 clear h
 have HC3 := Aside0.mk H
 clear H
 go_enter Try.func40, Try.ntmps40
 go_upto_region 1 with (first | ((with_reducible refine gate_dst (N := 2) rfl ?_); (try (refine gate_guard (by rfl) ?_; dsimp only)); refine box_event ?hg (N := 2) ?hd (cs := #[.string a0_0, .int .i64 a0_1, .slice A0_2 l0_2.length c0_2, .string a0_3]) (t := 64) ?hr ?_; (case hd => rfl); (case hg => rfl); (case hr => first | (go_simp; done) | (go_simp; rfl)); intro gb101 hg w4 hbox hb; have n0_ := Aside0.mk (below_step (hbA HB) hb); have n1_ := Aside0.mk (hbox); have n2_ := Aside0.mk ((by rw [hg]; exact (below_size (hbA HB)) : w.heap.size ≤ gb101)); have n3_ := Aside0.mk ((by rw [hg]; exact (below_size (hbA HB)) : w.heap.size ≤ gb101)); clear HB; have HB := n0_; have BK101 := n1_; have GW101 := n2_; have GE101 := n3_; clear n0_ n1_ n2_ n3_; clear hb hbox hg) | ((with_reducible refine gate_dst (N := 3) rfl ?_); (try (refine gate_guard (by rfl) ?_; dsimp only)); refine box_event ?hg (N := 3) ?hd (cs := #[.string a1_0, .int .i64 a1_1, .slice A1_2 l1_2.length c1_2, .string a1_3]) (t := 64) ?hr ?_; (case hd => rfl); (case hg => rfl); (case hr => first | (go_simp; done) | (go_simp; rfl)); intro gb102 hg w5 hbox hb; have n0_ := Aside0.mk (blk_below (g := gb101) (bkA BK101) hb); have n1_ := Aside0.mk (below_step (hbA HB) hb); have n2_ := Aside0.mk (hbox); have n3_ := Aside0.mk ((by rw [hg]; exact (below_size (hbA HB)) : w.heap.size ≤ gb102)); have n4_ := Aside0.mk ((by rw [hg]; exact (below_size (hbA HB)) : w.heap.size ≤ gb102)); have n5_ := Aside0.mk ((by rw [hg]; exact Nat.ne_of_lt (blk_lt (g := gb101) (bkA BK101)) : gb101 ≠ gb102)); have n6_ := Aside0.mk ((by rw [hg]; exact Nat.ne_of_gt (blk_lt (g := gb101) (bkA BK101)) : gb102 ≠ gb101)); clear BK101; clear HB; have BK101 := n0_; have HB := n1_; have BK102 := n2_; have GW102 := n3_; have GE102 := n4_; have NB101_102 := n5_; have NB102_101 := n6_; clear n0_ n1_ n2_ n3_ n4_ n5_ n6_; clear hb hbox hg))
 repeat (go_quiet (first | ((with_reducible refine gate_dst (N := 2) rfl ?_); (try (refine gate_guard (by rfl) ?_; dsimp only)); refine box_event ?hg (N := 2) ?hd (cs := #[.string a0_0, .int .i64 a0_1, .slice A0_2 l0_2.length c0_2, .string a0_3]) (t := 64) ?hr ?_; (case hd => rfl); (case hg => rfl); (case hr => first | (go_simp; done) | (go_simp; rfl)); intro gb101 hg w4 hbox hb; have n0_ := Aside0.mk (below_step (hbA HB) hb); have n1_ := Aside0.mk (hbox); have n2_ := Aside0.mk ((by rw [hg]; exact (below_size (hbA HB)) : w.heap.size ≤ gb101)); have n3_ := Aside0.mk ((by rw [hg]; exact (below_size (hbA HB)) : w.heap.size ≤ gb101)); clear HB; have HB := n0_; have BK101 := n1_; have GW101 := n2_; have GE101 := n3_; clear n0_ n1_ n2_ n3_; clear hb hbox hg) | ((with_reducible refine gate_dst (N := 3) rfl ?_); (try (refine gate_guard (by rfl) ?_; dsimp only)); refine box_event ?hg (N := 3) ?hd (cs := #[.string a1_0, .int .i64 a1_1, .slice A1_2 l1_2.length c1_2, .string a1_3]) (t := 64) ?hr ?_; (case hd => rfl); (case hg => rfl); (case hr => first | (go_simp; done) | (go_simp; rfl)); intro gb102 hg w5 hbox hb; have n0_ := Aside0.mk (blk_below (g := gb101) (bkA BK101) hb); have n1_ := Aside0.mk (below_step (hbA HB) hb); have n2_ := Aside0.mk (hbox); have n3_ := Aside0.mk ((by rw [hg]; exact (below_size (hbA HB)) : w.heap.size ≤ gb102)); have n4_ := Aside0.mk ((by rw [hg]; exact (below_size (hbA HB)) : w.heap.size ≤ gb102)); have n5_ := Aside0.mk ((by rw [hg]; exact Nat.ne_of_lt (blk_lt (g := gb101) (bkA BK101)) : gb101 ≠ gb102)); have n6_ := Aside0.mk ((by rw [hg]; exact Nat.ne_of_gt (blk_lt (g := gb101) (bkA BK101)) : gb102 ≠ gb101)); clear BK101; clear HB; have BK101 := n0_; have HB := n1_; have BK102 := n2_; have GW102 := n3_; have GE102 := n4_; have NB101_102 := n5_; have NB102_101 := n6_; clear n0_ n1_ n2_ n3_ n4_ n5_ n6_; clear hb hbox hg)); go_upto_region 1 with (first | ((with_reducible refine gate_dst (N := 2) rfl ?_); (try (refine gate_guard (by rfl) ?_; dsimp only)); refine box_event ?hg (N := 2) ?hd (cs := #[.string a0_0, .int .i64 a0_1, .slice A0_2 l0_2.length c0_2, .string a0_3]) (t := 64) ?hr ?_; (case hd => rfl); (case hg => rfl); (case hr => first | (go_simp; done) | (go_simp; rfl)); intro gb101 hg w4 hbox hb; have n0_ := Aside0.mk (below_step (hbA HB) hb); have n1_ := Aside0.mk (hbox); have n2_ := Aside0.mk ((by rw [hg]; exact (below_size (hbA HB)) : w.heap.size ≤ gb101)); have n3_ := Aside0.mk ((by rw [hg]; exact (below_size (hbA HB)) : w.heap.size ≤ gb101)); clear HB; have HB := n0_; have BK101 := n1_; have GW101 := n2_; have GE101 := n3_; clear n0_ n1_ n2_ n3_; clear hb hbox hg) | ((with_reducible refine gate_dst (N := 3) rfl ?_); (try (refine gate_guard (by rfl) ?_; dsimp only)); refine box_event ?hg (N := 3) ?hd (cs := #[.string a1_0, .int .i64 a1_1, .slice A1_2 l1_2.length c1_2, .string a1_3]) (t := 64) ?hr ?_; (case hd => rfl); (case hg => rfl); (case hr => first | (go_simp; done) | (go_simp; rfl)); intro gb102 hg w5 hbox hb; have n0_ := Aside0.mk (blk_below (g := gb101) (bkA BK101) hb); have n1_ := Aside0.mk (below_step (hbA HB) hb); have n2_ := Aside0.mk (hbox); have n3_ := Aside0.mk ((by rw [hg]; exact (below_size (hbA HB)) : w.heap.size ≤ gb102)); have n4_ := Aside0.mk ((by rw [hg]; exact (below_size (hbA HB)) : w.heap.size ≤ gb102)); have n5_ := Aside0.mk ((by rw [hg]; exact Nat.ne_of_lt (blk_lt (g := gb101) (bkA BK101)) : gb101 ≠ gb102)); have n6_ := Aside0.mk ((by rw [hg]; exact Nat.ne_of_gt (blk_lt (g := gb101) (bkA BK101)) : gb102 ≠ gb101)); clear BK101; clear HB; have BK101 := n0_; have HB := n1_; have BK102 := n2_; have GW102 := n3_; have GE102 := n4_; have NB101_102 := n5_; have NB102_101 := n6_; clear n0_ n1_ n2_ n3_ n4_ n5_ n6_; clear hb hbox hg)))
 (try simp only [Act.put, List.setIfInBounds_toArray, List.set_cons_zero, List.set_cons_succ])
 go_cut [33] (fun v33 wc => ∃ (kq : Nat) (x33_2 : Bool), v33 = .bool x33_2 ∧ Aside0 (agateref07_Same.j0 kq x33_2 a0_0 a0_1 l0_2 a0_3 a1_0 a1_1 l1_2 a1_3 = some r) ∧ Aside0 (kq ≤ k) ∧ Aside0 (wc.heap[gb101]? = some (.cells #[.string a0_0, .int .i64 a0_1, (.slice A0_2 l0_2.length c0_2), .string a0_3] 64 (0, 0))) ∧ Aside0 (wc.heap[gb102]? = some (.cells #[.string a1_0, .int .i64 a1_1, (.slice A1_2 l1_2.length c1_2), .string a1_3] 64 (0, 0))) ∧ Aside0 (Below w.heap.size w wc))
 case first =>
  have H := HC3.out; clear HC3
  by_cases c6 : a0_0.toList = a1_0.toList
  ·
   rw [if_pos c6] at H
   have c6b0 : (a0_0.toList == a1_0.toList) = true := beq_iff_eq.mpr c6
   have c6b1 : (a0_0.toList != a1_0.toList) = false := bne_eq_false_iff_eq.mpr c6
   clear c6
   (first | rw [c6b0] | (simp only [i64_w, i32_w]; rw [c6b0]) | skip)
   by_cases c7 : a0_1 = a1_1
   ·
    rw [if_pos c7] at H
    have c7b0 : (a0_1 == a1_1) = true := beq_iff_eq.mpr c7
    have c7b1 : (a0_1 != a1_1) = false := bne_eq_false_iff_eq.mpr c7
    clear c7
    by_cases c8 : a0_3.toList = a1_3.toList
    ·
     rw [if_pos c8] at H
     have c8b0 : (a0_3.toList == a1_3.toList) = true := beq_iff_eq.mpr c8
     have c8b1 : (a0_3.toList != a1_3.toList) = false := bne_eq_false_iff_eq.mpr c8
     clear c8
     have H' := Aside0.mk H
     clear H; have hnb9 := NB101_102.out; have hnc9 := NB102_101.out; have hcz10_0 : w5.cell? ⟨gb101, 0, none⟩ = some (.string a0_0) := bcA BK101 0; have hcz10_1 : w5.cell? ⟨gb101, 1, none⟩ = some (.int .i64 a0_1) := bcA BK101 1; have hcz10_2 : w5.cell? ⟨gb101, 2, none⟩ = some (.slice A0_2 l0_2.length c0_2) := bcA BK101 2; have hcz10_3 : w5.cell? ⟨gb101, 3, none⟩ = some (.string a0_3) := bcA BK101 3; have hfz10_0 := blk_frozen BK101.out 0; have hfz10_1 := blk_frozen BK101.out 1; have hfz10_2 := blk_frozen BK101.out 2; have hfz10_3 := blk_frozen BK101.out 3; have hcz11_0 : w5.cell? ⟨gb102, 0, none⟩ = some (.string a1_0) := bcA BK102 0; have hcz11_1 : w5.cell? ⟨gb102, 1, none⟩ = some (.int .i64 a1_1) := bcA BK102 1; have hcz11_2 : w5.cell? ⟨gb102, 2, none⟩ = some (.slice A1_2 l1_2.length c1_2) := bcA BK102 2; have hcz11_3 : w5.cell? ⟨gb102, 3, none⟩ = some (.string a1_3) := bcA BK102 3; have hfz11_0 := blk_frozen BK102.out 0; have hfz11_1 := blk_frozen BK102.out 1; have hfz11_2 := blk_frozen BK102.out 2; have hfz11_3 := blk_frozen BK102.out 3
     go_wp2
     repeat (go_quiet (fail); try go_wp2)
     go_meet
     case rel => exact ⟨_, (((l0_2.length : Int) != (l1_2.length : Int))), (by first | rfl | (simp; done) | (simp [*]; done)), H', ⟨by first | omega | exact Nat.le_refl _⟩, ⟨bkA BK101⟩, ⟨bkA BK102⟩, ⟨hbA HB⟩⟩
    ·
     rw [if_neg c8] at H
     have c8b0 : (a0_3.toList == a1_3.toList) = false := beq_eq_false_iff_ne.mpr c8
     have c8b1 : (a0_3.toList != a1_3.toList) = true := bne_iff_ne.mpr c8
     have H' := Aside0.mk H
     clear H; have hnb12 := NB101_102.out; have hnc12 := NB102_101.out; have hcz13_0 : w5.cell? ⟨gb101, 0, none⟩ = some (.string a0_0) := bcA BK101 0; have hcz13_1 : w5.cell? ⟨gb101, 1, none⟩ = some (.int .i64 a0_1) := bcA BK101 1; have hcz13_2 : w5.cell? ⟨gb101, 2, none⟩ = some (.slice A0_2 l0_2.length c0_2) := bcA BK101 2; have hcz13_3 : w5.cell? ⟨gb101, 3, none⟩ = some (.string a0_3) := bcA BK101 3; have hfz13_0 := blk_frozen BK101.out 0; have hfz13_1 := blk_frozen BK101.out 1; have hfz13_2 := blk_frozen BK101.out 2; have hfz13_3 := blk_frozen BK101.out 3; have hcz14_0 : w5.cell? ⟨gb102, 0, none⟩ = some (.string a1_0) := bcA BK102 0; have hcz14_1 : w5.cell? ⟨gb102, 1, none⟩ = some (.int .i64 a1_1) := bcA BK102 1; have hcz14_2 : w5.cell? ⟨gb102, 2, none⟩ = some (.slice A1_2 l1_2.length c1_2) := bcA BK102 2; have hcz14_3 : w5.cell? ⟨gb102, 3, none⟩ = some (.string a1_3) := bcA BK102 3; have hfz14_0 := blk_frozen BK102.out 0; have hfz14_1 := blk_frozen BK102.out 1; have hfz14_2 := blk_frozen BK102.out 2; have hfz14_3 := blk_frozen BK102.out 3
     go_wp2
     repeat (go_quiet (fail); try go_wp2)
     go_meet
     case rel => exact ⟨_, (true), (by first | rfl | (simp; done) | (simp [*]; done)), H', ⟨by first | omega | exact Nat.le_refl _⟩, ⟨bkA BK101⟩, ⟨bkA BK102⟩, ⟨hbA HB⟩⟩
   ·
    rw [if_neg c7] at H
    have c7b0 : (a0_1 == a1_1) = false := beq_eq_false_iff_ne.mpr c7
    have c7b1 : (a0_1 != a1_1) = true := bne_iff_ne.mpr c7
    have H' := Aside0.mk H
    clear H; have hnb15 := NB101_102.out; have hnc15 := NB102_101.out; have hcz16_0 : w5.cell? ⟨gb101, 0, none⟩ = some (.string a0_0) := bcA BK101 0; have hcz16_1 : w5.cell? ⟨gb101, 1, none⟩ = some (.int .i64 a0_1) := bcA BK101 1; have hcz16_2 : w5.cell? ⟨gb101, 2, none⟩ = some (.slice A0_2 l0_2.length c0_2) := bcA BK101 2; have hcz16_3 : w5.cell? ⟨gb101, 3, none⟩ = some (.string a0_3) := bcA BK101 3; have hfz16_0 := blk_frozen BK101.out 0; have hfz16_1 := blk_frozen BK101.out 1; have hfz16_2 := blk_frozen BK101.out 2; have hfz16_3 := blk_frozen BK101.out 3; have hcz17_0 : w5.cell? ⟨gb102, 0, none⟩ = some (.string a1_0) := bcA BK102 0; have hcz17_1 : w5.cell? ⟨gb102, 1, none⟩ = some (.int .i64 a1_1) := bcA BK102 1; have hcz17_2 : w5.cell? ⟨gb102, 2, none⟩ = some (.slice A1_2 l1_2.length c1_2) := bcA BK102 2; have hcz17_3 : w5.cell? ⟨gb102, 3, none⟩ = some (.string a1_3) := bcA BK102 3; have hfz17_0 := blk_frozen BK102.out 0; have hfz17_1 := blk_frozen BK102.out 1; have hfz17_2 := blk_frozen BK102.out 2; have hfz17_3 := blk_frozen BK102.out 3
    go_wp2
    repeat (go_quiet (fail); try go_wp2)
    go_meet
    case rel => exact ⟨_, (true), (by first | rfl | (simp; done) | (simp [*]; done)), H', ⟨by first | omega | exact Nat.le_refl _⟩, ⟨bkA BK101⟩, ⟨bkA BK102⟩, ⟨hbA HB⟩⟩
  ·
   rw [if_neg c6] at H
   have c6b0 : (a0_0.toList == a1_0.toList) = false := beq_eq_false_iff_ne.mpr c6
   have c6b1 : (a0_0.toList != a1_0.toList) = true := bne_iff_ne.mpr c6
   (first | rw [c6b0] | (simp only [i64_w, i32_w]; rw [c6b0]) | skip)
   have H' := Aside0.mk H
   clear H; have hnb18 := NB101_102.out; have hnc18 := NB102_101.out; have hcz19_0 : w5.cell? ⟨gb101, 0, none⟩ = some (.string a0_0) := bcA BK101 0; have hcz19_1 : w5.cell? ⟨gb101, 1, none⟩ = some (.int .i64 a0_1) := bcA BK101 1; have hcz19_2 : w5.cell? ⟨gb101, 2, none⟩ = some (.slice A0_2 l0_2.length c0_2) := bcA BK101 2; have hcz19_3 : w5.cell? ⟨gb101, 3, none⟩ = some (.string a0_3) := bcA BK101 3; have hfz19_0 := blk_frozen BK101.out 0; have hfz19_1 := blk_frozen BK101.out 1; have hfz19_2 := blk_frozen BK101.out 2; have hfz19_3 := blk_frozen BK101.out 3; have hcz20_0 : w5.cell? ⟨gb102, 0, none⟩ = some (.string a1_0) := bcA BK102 0; have hcz20_1 : w5.cell? ⟨gb102, 1, none⟩ = some (.int .i64 a1_1) := bcA BK102 1; have hcz20_2 : w5.cell? ⟨gb102, 2, none⟩ = some (.slice A1_2 l1_2.length c1_2) := bcA BK102 2; have hcz20_3 : w5.cell? ⟨gb102, 3, none⟩ = some (.string a1_3) := bcA BK102 3; have hfz20_0 := blk_frozen BK102.out 0; have hfz20_1 := blk_frozen BK102.out 1; have hfz20_2 := blk_frozen BK102.out 2; have hfz20_3 := blk_frozen BK102.out 3
   go_wp2
   repeat (go_quiet (fail); try go_wp2)
   go_meet
   case rel => exact ⟨_, (true), (by first | rfl | (simp; done) | (simp [*]; done)), H', ⟨by first | omega | exact Nat.le_refl _⟩, ⟨bkA BK101⟩, ⟨bkA BK102⟩, ⟨hbA HB⟩⟩
 case rest =>
  clear HC3; try clear c6; try clear c6b0; try clear c6b1; try clear c7; try clear c7b0; try clear c7b1; try clear c8; try clear c8b0; try clear c8b1; try clear hcz10_0; try clear hcz10_1; try clear hcz10_2; try clear hcz10_3; try clear hcz11_0; try clear hcz11_1; try clear hcz11_2; try clear hcz11_3; try clear hcz13_0; try clear hcz13_1; try clear hcz13_2; try clear hcz13_3; try clear hcz14_0; try clear hcz14_1; try clear hcz14_2; try clear hcz14_3; try clear hcz16_0; try clear hcz16_1; try clear hcz16_2; try clear hcz16_3; try clear hcz17_0; try clear hcz17_1; try clear hcz17_2; try clear hcz17_3; try clear hcz19_0; try clear hcz19_1; try clear hcz19_2; try clear hcz19_3; try clear hcz20_0; try clear hcz20_1; try clear hcz20_2; try clear hcz20_3; try clear hfz10_0; try clear hfz10_1; try clear hfz10_2; try clear hfz10_3; try clear hfz11_0; try clear hfz11_1; try clear hfz11_2; try clear hfz11_3; try clear hfz13_0; try clear hfz13_1; try clear hfz13_2; try clear hfz13_3; try clear hfz14_0; try clear hfz14_1; try clear hfz14_2; try clear hfz14_3; try clear hfz16_0; try clear hfz16_1; try clear hfz16_2; try clear hfz16_3; try clear hfz17_0; try clear hfz17_1; try clear hfz17_2; try clear hfz17_3; try clear hfz19_0; try clear hfz19_1; try clear hfz19_2; try clear hfz19_3; try clear hfz20_0; try clear hfz20_1; try clear hfz20_2; try clear hfz20_3
  obtain ⟨kq, x33_2, rfl, HA, HJ2, BK101, BK102, HB⟩ := hcut
  cases kq with
  | zero => exact absurd HA.out (by simp [agateref07_Same.j0])
  | succ kj2 =>
   have H := HA.out; clear HA
   simp only [agateref07_Same.j0] at H
   by_cases c21 : x33_2 = true
   ·
    subst c21
    have H1 : (some false) = some r := by rw [if_pos rfl] at H; exact H
    clear H
    have H := H1
    clear H1
    obtain rfl := Option.some.inj H
    go_wp2
    repeat (go_quiet (fail); try go_wp2)
    go_ret
    exact ⟨by first | rfl | (simp [errW_none, errW_some] <;> rfl) | (simp [*, errW_none, errW_some] <;> rfl), hbA HB⟩
   ·
    replace c21 := Bool.eq_false_iff.mpr c21
    subst c21
    have H1 : (agateref07_Same.l0 kj2 0 a0_0 a0_1 l0_2 a0_3 a1_0 a1_1 l1_2 a1_3) = some r := by rw [if_neg (show ¬ (false = true) by decide)] at H; exact H
    clear H
    have H := H1
    clear H1
    have H' := Aside0.mk H
    clear H
    go_wp2
    repeat (go_quiet (fail); try go_wp2)
    go_loopg [5] kj2 (fun kq v5 w' => ∃ (x5_2 : Int), v5 = .int .i64 x5_2 ∧ Aside0 (agateref07_Same.l0 kq x5_2 a0_0 a0_1 l0_2 a0_3 a1_0 a1_1 l1_2 a1_3 = some r) ∧ Aside0 (kq ≤ kj2) ∧ Aside0 (w'.heap[gb101]? = some (.cells #[.string a0_0, .int .i64 a0_1, (.slice A0_2 l0_2.length c0_2), .string a0_3] 64 (0, 0))) ∧ Aside0 (w'.heap[gb102]? = some (.cells #[.string a1_0, .int .i64 a1_1, (.slice A1_2 l1_2.length c1_2), .string a1_3] 64 (0, 0))) ∧ Aside0 (Below w.heap.size w w'))
    case atStart => exact ⟨(0), (by first | rfl | (simp; done) | (simp [*]; done)), H', ⟨Nat.le_refl _⟩, ⟨bkA BK101⟩, ⟨bkA BK102⟩, ⟨hbA HB⟩⟩
    case round =>
     clear H'
     obtain ⟨x5_2, rfl, HA, HK2, BK101, BK102, HB⟩ := hrel
     cases gk with
     | zero => exact absurd HA.out (by simp [agateref07_Same.l0])
     | succ k2 =>
      have H := HA.out; clear HA
      simp only [agateref07_Same.l0] at H
      by_cases c22 : x5_2 < (l0_2.length : Int)
      ·
       rw [if_pos c22] at H
       have c22b0 : decide (x5_2 < (l0_2.length : Int)) = true := decide_eq_true c22
       clear c22
       by_cases c23 : 0 ≤ x5_2
       ·
        rw [if_pos c23] at H
        have c23b0 : decide (0 ≤ x5_2) = true := decide_eq_true c23
        clear c23
        by_cases c24 : x5_2 < (l1_2.length : Int)
        ·
         rw [if_pos c24] at H
         have c24b0 : decide (x5_2 < (l1_2.length : Int)) = true := decide_eq_true c24
         clear c24
         by_cases c25 : (rd l0_2 x5_2) = (rd l1_2 x5_2)
         ·
          rw [if_pos c25] at H
          have c25b0 : ((rd l0_2 x5_2) == (rd l1_2 x5_2)) = true := beq_iff_eq.mpr c25
          have c25b1 : ((rd l0_2 x5_2) != (rd l1_2 x5_2)) = false := bne_eq_false_iff_eq.mpr c25
          clear c25
          have H' := Aside0.mk H
          clear H; have hnb26 := NB101_102.out; have hnc26 := NB102_101.out; have hcz27_0 : wr.cell? ⟨gb101, 0, none⟩ = some (.string a0_0) := bcA BK101 0; have hcz27_1 : wr.cell? ⟨gb101, 1, none⟩ = some (.int .i64 a0_1) := bcA BK101 1; have hcz27_2 : wr.cell? ⟨gb101, 2, none⟩ = some (.slice A0_2 l0_2.length c0_2) := bcA BK101 2; have hcz27_3 : wr.cell? ⟨gb101, 3, none⟩ = some (.string a0_3) := bcA BK101 3; have hfz27_0 := blk_frozen BK101.out 0; have hfz27_1 := blk_frozen BK101.out 1; have hfz27_2 := blk_frozen BK101.out 2; have hfz27_3 := blk_frozen BK101.out 3
          have p103 : 0 ≤ (x5_2 : Int) := of_decide_eq_true (by first | (with_reducible assumption) | assumption)
          have q103 : x5_2 < (l0_2.length : Int) := of_decide_eq_true (by first | (with_reducible assumption) | assumption)
          obtain ⟨ad103, e103, hx103_0⟩ := Kd.at_int HR0_2.out x5_2 p103 q103
          cases e103
          replace hx103_0 := (HB.out.cell (World.block_lt_of_cell? w _ hx103_0)).trans hx103_0
          replace p103 := eq_true p103
          replace q103 := eq_true q103
          have hcz28_0 : wr.cell? ⟨gb102, 0, none⟩ = some (.string a1_0) := bcA BK102 0; have hcz28_1 : wr.cell? ⟨gb102, 1, none⟩ = some (.int .i64 a1_1) := bcA BK102 1; have hcz28_2 : wr.cell? ⟨gb102, 2, none⟩ = some (.slice A1_2 l1_2.length c1_2) := bcA BK102 2; have hcz28_3 : wr.cell? ⟨gb102, 3, none⟩ = some (.string a1_3) := bcA BK102 3; have hfz28_0 := blk_frozen BK102.out 0; have hfz28_1 := blk_frozen BK102.out 1; have hfz28_2 := blk_frozen BK102.out 2; have hfz28_3 := blk_frozen BK102.out 3
          have p104 : 0 ≤ (x5_2 : Int) := of_decide_eq_true (by first | (with_reducible assumption) | assumption)
          have q104 : x5_2 < (l1_2.length : Int) := of_decide_eq_true (by first | (with_reducible assumption) | assumption)
          obtain ⟨ad104, e104, hx104_0⟩ := Kd.at_int HR1_2.out x5_2 p104 q104
          cases e104
          replace hx104_0 := (HB.out.cell (World.block_lt_of_cell? w _ hx104_0)).trans hx104_0
          replace p104 := eq_true p104
          replace q104 := eq_true q104
          go_wp2
          repeat (go_quiet (fail); try go_wp2)
          go_roundg k2
          case measure => have := HJ2.out; have := HK2.out; omega
          case rel => exact ⟨(wrap64 (x5_2 + 1)), (by first | rfl | (simp; done) | (simp [*]; done)), H', ⟨by have := HJ2.out; have := HK2.out; omega⟩, ⟨bkA BK101⟩, ⟨bkA BK102⟩, ⟨hbA HB⟩⟩
         ·
          rw [if_neg c25] at H
          have c25b0 : ((rd l0_2 x5_2) == (rd l1_2 x5_2)) = false := beq_eq_false_iff_ne.mpr c25
          have c25b1 : ((rd l0_2 x5_2) != (rd l1_2 x5_2)) = true := bne_iff_ne.mpr c25
          obtain rfl := Option.some.inj H
          have hnb29 := NB101_102.out; have hnc29 := NB102_101.out; have hcz30_0 : wr.cell? ⟨gb101, 0, none⟩ = some (.string a0_0) := bcA BK101 0; have hcz30_1 : wr.cell? ⟨gb101, 1, none⟩ = some (.int .i64 a0_1) := bcA BK101 1; have hcz30_2 : wr.cell? ⟨gb101, 2, none⟩ = some (.slice A0_2 l0_2.length c0_2) := bcA BK101 2; have hcz30_3 : wr.cell? ⟨gb101, 3, none⟩ = some (.string a0_3) := bcA BK101 3; have hfz30_0 := blk_frozen BK101.out 0; have hfz30_1 := blk_frozen BK101.out 1; have hfz30_2 := blk_frozen BK101.out 2; have hfz30_3 := blk_frozen BK101.out 3
          have p103 : 0 ≤ (x5_2 : Int) := of_decide_eq_true (by first | (with_reducible assumption) | assumption)
          have q103 : x5_2 < (l0_2.length : Int) := of_decide_eq_true (by first | (with_reducible assumption) | assumption)
          obtain ⟨ad103, e103, hx103_0⟩ := Kd.at_int HR0_2.out x5_2 p103 q103
          cases e103
          replace hx103_0 := (HB.out.cell (World.block_lt_of_cell? w _ hx103_0)).trans hx103_0
          replace p103 := eq_true p103
          replace q103 := eq_true q103
          have hcz31_0 : wr.cell? ⟨gb102, 0, none⟩ = some (.string a1_0) := bcA BK102 0; have hcz31_1 : wr.cell? ⟨gb102, 1, none⟩ = some (.int .i64 a1_1) := bcA BK102 1; have hcz31_2 : wr.cell? ⟨gb102, 2, none⟩ = some (.slice A1_2 l1_2.length c1_2) := bcA BK102 2; have hcz31_3 : wr.cell? ⟨gb102, 3, none⟩ = some (.string a1_3) := bcA BK102 3; have hfz31_0 := blk_frozen BK102.out 0; have hfz31_1 := blk_frozen BK102.out 1; have hfz31_2 := blk_frozen BK102.out 2; have hfz31_3 := blk_frozen BK102.out 3
          have p104 : 0 ≤ (x5_2 : Int) := of_decide_eq_true (by first | (with_reducible assumption) | assumption)
          have q104 : x5_2 < (l1_2.length : Int) := of_decide_eq_true (by first | (with_reducible assumption) | assumption)
          obtain ⟨ad104, e104, hx104_0⟩ := Kd.at_int HR1_2.out x5_2 p104 q104
          cases e104
          replace hx104_0 := (HB.out.cell (World.block_lt_of_cell? w _ hx104_0)).trans hx104_0
          replace p104 := eq_true p104
          replace q104 := eq_true q104
          go_wp2
          repeat (go_quiet (fail); try go_wp2)
          go_ret
          exact ⟨by first | rfl | (simp [errW_none, errW_some] <;> rfl) | (simp [*, errW_none, errW_some] <;> rfl), hbA HB⟩
        ·
         rw [if_neg c24] at H
         exact absurd H (by simp)
       ·
        rw [if_neg c23] at H
        exact absurd H (by simp)
      ·
       rw [if_neg c22] at H
       have c22b0 : decide (x5_2 < (l0_2.length : Int)) = false := decide_eq_false c22
       clear c22
       obtain rfl := Option.some.inj H
       have hnb32 := NB101_102.out; have hnc32 := NB102_101.out; have hcz33_0 : wr.cell? ⟨gb101, 0, none⟩ = some (.string a0_0) := bcA BK101 0; have hcz33_1 : wr.cell? ⟨gb101, 1, none⟩ = some (.int .i64 a0_1) := bcA BK101 1; have hcz33_2 : wr.cell? ⟨gb101, 2, none⟩ = some (.slice A0_2 l0_2.length c0_2) := bcA BK101 2; have hcz33_3 : wr.cell? ⟨gb101, 3, none⟩ = some (.string a0_3) := bcA BK101 3; have hfz33_0 := blk_frozen BK101.out 0; have hfz33_1 := blk_frozen BK101.out 1; have hfz33_2 := blk_frozen BK101.out 2; have hfz33_3 := blk_frozen BK101.out 3
       go_wp2
       repeat (go_quiet (fail); try go_wp2)
       go_ret
       exact ⟨by first | rfl | (simp [errW_none, errW_some] <;> rfl) | (simp [*, errW_none, errW_some] <;> rfl), hbA HB⟩
end Go.Proofs.Ytpojamikfcmnoaa.X
