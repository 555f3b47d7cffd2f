import Derived.Test.YtgmggompdidcoaaGreatDoorMPbtensorWrites2
import Derived.Test.YtgmggompdidcoaaGreatDoorMPbtensorWrites10
import Derived.Test.YtgmggompdidcoaaGreatDoorMPbtensorWrites9
import Derived.Test.YtgmggompdidcoaaGreatDoorMPbtensorWrites5
import Derived.Test.YtgmggompdidcoaaGreatDoorMPbtensorWrites7
import Derived.Test.YtgmggompdidcoaaGreatDoorMPbtensorWrites8
import Derived.Test.YtgmggompdidcoaaGreatDoorMPbtensorWrites3
import Derived.Test.YtgmggompdidcoaaGreatDoorMPbtensorWrites4
import Derived.ScopeJumps
import Derived.WalkMore
namespace Go.Proofs.YtgmggompdidcoaaGreatDoor.X
open Go.RowKit Go.Proofs.YtgmggompdidcoaaGreatDoorW.PrintWords Go.Proofs.YtgmggompdidcoaaGreatDoorW.PrintLast Go.Proofs.YtgmggompdidcoaaGreatDoorW.PrintMore
attribute [local go_sem] max2_int min2_int max_two min_two max_three min_three max_four min_four
set_option linter.unusedVariables false
set_option linter.unusedSimpArgs false
def agateref07_Check_s.f (a0_0 : ByteArray) (a0_1 : Int) (l0_2 : List Int) (a0_3 : ByteArray) : Option Int := if a0_0.size ≤ 140737488351232 ∧ a0_3.size ≤ 140737488351232 then some (chkR a0_0 a0_1 l0_2 a0_3) else none
theorem refCheck_eval (name : ByteArray) (kind : Int) (dims : List Int) (data : ByteArray) (n q : Nat) (hq : sizeK kind = (q : Int)) (hq0 : 0 < q) (hd : data.size ≤ 140737488351232) (hn : data.size = n * q) (d : Nat) : ∀ (k i : Nat), n - i = d → i ≤ n → 2 * d + 1 < k →
    agateref07_Check.l0 k (n : Int) (i : Int) name kind dims data = some (if ((List.range n).drop i).all (okAt kind data) = true then 0 else 17) := by
  have hnle : n ≤ data.size := by rw [hn]; exact Nat.le_mul_of_pos_right n hq0
  induction d with
  | zero =>
    intro k i hdd hi hk
    obtain ⟨k, rfl⟩ : ∃ m, k = m + 1 := ⟨k - 1, by omega⟩
    simp only [agateref07_Check.l0]
    rw [if_neg (by omega), List.drop_of_length_le (by simp; omega)]; rfl
  | succ d ih =>
    intro k i hdd hi hk
    obtain ⟨k, rfl⟩ : ∃ m, k = m + 2 := ⟨k - 2, by omega⟩
    have hlt : i < n := by omega
    have hi2 : (i + 1) * q ≤ data.size := by rw [hn]; exact Nat.mul_le_mul_right q hlt
    have hm : (i + 1) * q = i * q + q := Nat.succ_mul i q
    have ih' := ih k (i + 1) (by omega) (by omega) (by omega)
    rw [show k + 2 = (k + 1) + 1 from rfl]
    simp only [agateref07_Check.l0]
    rw [if_pos (by omega), all_from _ n i hlt]
    by_cases h9 : kind = 9
    · subst h9
      obtain rfl : q = 1 := by have : sizeK 9 = 1 := rfl; omega
      rw [if_pos rfl, if_pos (by omega), if_pos (by omega)]
      simp only [agateref07_Check.j1]
      have e : okAt 9 data i = decide (bt data i ≤ 1) := by unfold okAt; rw [if_pos rfl]
      rw [e]
      by_cases hb : bt data (i : Int) ≤ 1
      · rw [show decide (bt data (i : Int) > 1) = false from decide_eq_false (by omega), if_neg (by simp), if_neg (by decide), decide_eq_true hb, Bool.true_and, wrap64_id (by omega) (by omega)]
        exact ih'
      · rw [show decide (bt data (i : Int) > 1) = true from decide_eq_true (by omega), if_pos rfl, decide_eq_false hb]; rfl
    · rw [if_neg h9]
      simp only [agateref07_Check.j1]
      rw [if_neg (by simp)]
      by_cases h14 : kind = 14
      · subst h14
        obtain rfl : q = 8 := by have : sizeK 14 = 8 := rfl; omega
        have e1 : wrap64 (8 * (i : Int)) = ((8 * i : Nat) : Int) := by
          rw [show (8 * (i : Int)) = ((8 * i : Nat) : Int) by simp]; exact wrap64_id (by omega) (by omega)
        have e2 : wrap64 (((8 * i : Nat) : Int) + 8) = ((8 * i + 8 : Nat) : Int) := by
          rw [show (((8 * i : Nat) : Int) + 8) = ((8 * i + 8 : Nat) : Int) by omega]; exact wrap64_id (by omega) (by omega)
        rw [if_pos rfl, e1, e2, if_pos (by omega), if_pos (by omega), if_pos (by omega), Int.toNat_natCast, Int.toNat_natCast]
        have e : okAt 14 data i = ((readR (data.extract (8 * i) (8 * i + 8))).2.2 == 0) := by unfold okAt; rw [if_neg (by decide), if_pos rfl]
        rw [e, show agateref06_Read_s.f (data.extract (8 * i) (8 * i + 8)) = some (readR (data.extract (8 * i) (8 * i + 8))) from rfl, Option.bind_some]
        by_cases hz : (readR (data.extract (8 * i) (8 * i + 8))).2.2 = 0
        · rw [if_pos hz, show ((readR (data.extract (8 * i) (8 * i + 8))).2.2 == 0) = true from beq_iff_eq.2 hz, Bool.true_and, wrap64_id (by omega) (by omega)]
          exact ih'
        · rw [if_neg hz, show ((readR (data.extract (8 * i) (8 * i + 8))).2.2 == 0) = false from beq_eq_false_iff_ne.2 hz]; rfl
      · have e : okAt kind data i = true := by unfold okAt; rw [if_neg h9, if_neg h14]
        rw [if_neg h14, e, Bool.true_and, wrap64_id (by omega) (by omega)]
        exact ih'
theorem agateref07_Check_s.ev (a0_0 : ByteArray) (a0_1 : Int) (l0_2 : List Int) (a0_3 : ByteArray) (r) (h : agateref07_Check_s.f a0_0 a0_1 l0_2 a0_3 = some r) : ∃ k, agateref07_Check.f k a0_0 a0_1 l0_2 a0_3 = some r := by
  unfold agateref07_Check_s.f at h
  split at h
  case isFalse => cases h
  rename_i hs
  rw [← Option.some.inj h]
  unfold chkR agateref07_Check.f agateref07_Name_s.f
  rw [if_pos hs.1]
  simp only [Option.bind_some, show agateref04_Size_s.f a0_1 = some (sizeK a0_1) from rfl, show agateref05_Size_s.f l0_2 = some (sizeS l0_2) from rfl]
  by_cases hn : nameR a0_0 = true
  case neg => exact ⟨0, by rw [if_neg hn, if_neg hn]⟩
  rw [if_pos hn]
  by_cases hk : sizeK a0_1 = 0
  · exact ⟨0, by rw [if_pos hn, if_pos hk, if_pos hk]⟩
  rw [if_neg hk]
  by_cases hz : (sizeS l0_2).2 = 0
  case neg => exact ⟨0, by rw [if_pos hn, if_neg hk, if_neg hz, if_neg hz]⟩
  rw [if_pos hz]
  have hb := sizeS_bound hz
  obtain ⟨q, hq⟩ := Int.eq_ofNat_of_zero_le (show 0 ≤ sizeK a0_1 by rcases sizeK_cases a0_1 with h | h | h | h <;> omega)
  have hq8 : 0 < q ∧ q ≤ 8 := by rcases sizeK_cases a0_1 with h | h | h | h <;> omega
  obtain ⟨n, hn2⟩ := Int.eq_ofNat_of_zero_le hb.1
  have hle : n * q ≤ 65536 * 8 := Nat.mul_le_mul (by omega) hq8.2
  have hw : wrap64 ((sizeS l0_2).1 * sizeK a0_1) = (sizeS l0_2).1 * sizeK a0_1 := by
    rw [hq, hn2, show ((n : Int) * (q : Int)) = ((n * q : Nat) : Int) by simp]
    exact wrap64_id (by omega) (by omega)
  by_cases hd : (a0_3.size : Int) = (sizeS l0_2).1 * sizeK a0_1
  case neg => exact ⟨0, by rw [if_pos hn, if_neg hk, if_pos hz, hw, if_neg hd, if_neg hd]⟩
  have hd2 : a0_3.size = n * q := by rw [hq, hn2] at hd; exact_mod_cast hd
  have := refCheck_eval a0_0 a0_1 l0_2 a0_3 n q hq hq8.1 hs.2 hd2 n (2 * n + 2) 0 (by omega) (by omega) (by omega)
  rw [List.drop_zero] at this
  refine ⟨2 * n + 2, ?_⟩
  rw [if_pos hn, if_neg hk, if_pos hz, hw, if_pos hd, if_pos hd, hn2, Int.toNat_natCast]
  exact this
set_option maxHeartbeats 1000000 in
theorem agateref07_Check_s.calls (a0_0 : ByteArray) (a0_1 : Int) (A0_2 : Option Addr) (c0_2 : Nat) (l0_2 : List Int) (a0_3 : ByteArray) (r : Int) (w : World) (hr0_2 : Kd.C (Kd.int .i64) w A0_2 l0_2.length l0_2) (hc0_2 : l0_2.length ≤ c0_2) (h : agateref07_Check_s.f a0_0 a0_1 l0_2 a0_3 = some r) :
    Calls Tryz.prog 11 #[.agg #[.string a0_0, .int .i64 a0_1, .slice A0_2 l0_2.length c0_2, .string a0_3]] w fun e w' => e = .returned (.int .i64 r) ∧ Below w.heap.size w w' := by
  obtain ⟨k, hk⟩ := agateref07_Check_s.ev a0_0 a0_1 l0_2 a0_3 _ h
  exact agateref07_Check.calls k a0_0 a0_1 A0_2 c0_2 l0_2 a0_3 r w hr0_2 hc0_2 hk
end Go.Proofs.YtgmggompdidcoaaGreatDoor.X
namespace Go.Proofs.YtgmggompdidcoaaGreatDoor.X
open Go.RowKit Go.Proofs.YtgmggompdidcoaaGreatDoorW.PrintWords Go.Proofs.YtgmggompdidcoaaGreatDoorW.PrintLast Go.Proofs.YtgmggompdidcoaaGreatDoorW.PrintMore
attribute [local go_sem] max2_int min2_int max_two min_two max_three min_three max_four min_four
set_option linter.unusedVariables false
set_option linter.unusedSimpArgs false
mutual
def agateref07_Same.j0 : Nat → Bool → ByteArray → Int → List Int → ByteArray → ByteArray → Int → List Int → ByteArray → Option (Bool)
 | 0, _, _, _, _, _, _, _, _, _ => none
 | k + 1, x33, x102000, x102001, x102002, x102003, x103000, x103001, x103002, x103003 => if x33 = true then (some false) else (agateref07_Same.l0 k 0 x102000 x102001 x102002 x102003 x103000 x103001 x103002 x103003)
def agateref07_Same.l0 : Nat → Int → ByteArray → Int → List Int → ByteArray → ByteArray → Int → List Int → ByteArray → Option (Bool)
 | 0, _, _, _, _, _, _, _, _, _ => none
 | k + 1, x5, x102000, x102001, x102002, x102003, x103000, x103001, x103002, x103003 => if x5 < (x102002.length : Int) then (if 0 ≤ x5 then (if x5 < (x103002.length : Int) then (if (rd x102002 x5) = (rd x103002 x5) then (agateref07_Same.l0 k (wrap64 (x5 + 1)) x102000 x102001 x102002 x102003 x103000 x103001 x103002 x103003) else (some false)) else (none)) else (none)) else (some true)
end
def agateref07_Same.f (k : Nat) (a0_0 : ByteArray) (a0_1 : Int) (l0_2 : List Int) (a0_3 : ByteArray) (a1_0 : ByteArray) (a1_1 : Int) (l1_2 : List Int) (a1_3 : ByteArray) : Option (Bool) := if a0_0.toList = a1_0.toList then (if a0_1 = a1_1 then (if a0_3.toList = a1_3.toList then (agateref07_Same.j0 k ((l0_2.length : Int) != (l1_2.length : Int)) a0_0 a0_1 l0_2 a0_3 a1_0 a1_1 l1_2 a1_3) else (agateref07_Same.j0 k true a0_0 a0_1 l0_2 a0_3 a1_0 a1_1 l1_2 a1_3)) else (agateref07_Same.j0 k true a0_0 a0_1 l0_2 a0_3 a1_0 a1_1 l1_2 a1_3)) else (agateref07_Same.j0 k true a0_0 a0_1 l0_2 a0_3 a1_0 a1_1 l1_2 a1_3)
set_option maxHeartbeats 8000000 in
set_option maxRecDepth 100000 in
theorem agateref07_Same.calls (k : Nat) (a0_0 : ByteArray) (a0_1 : Int) (A0_2 : Option Addr) (c0_2 : Nat) (l0_2 : List Int) (a0_3 : ByteArray) (a1_0 : ByteArray) (a1_1 : Int) (A1_2 : Option Addr) (c1_2 : Nat) (l1_2 : List Int) (a1_3 : ByteArray) (r : Bool) (w : World) (hr0_2 : Kd.C (Kd.int .i64) w A0_2 l0_2.length l0_2) (hc0_2 : l0_2.length ≤ c0_2) (hr1_2 : Kd.C (Kd.int .i64) w A1_2 l1_2.length l1_2) (hc1_2 : l1_2.length ≤ c1_2) (h : agateref07_Same.f k a0_0 a0_1 l0_2 a0_3 a1_0 a1_1 l1_2 a1_3 = some r) :
  Calls Tryz.prog 9 #[.agg #[.string a0_0, .int .i64 a0_1, .slice A0_2 l0_2.length c0_2, .string a0_3], .agg #[.string a1_0, .int .i64 a1_1, .slice A1_2 l1_2.length c1_2, .string a1_3]] w fun e w' => e = .returned (.bool r) ∧ Below w.heap.size w w' := by
 have hu38 := Tryz.underlying38; have HR0_2 := mk0 hr0_2; have HC0_2 := mk0 hc0_2; clear hr0_2 hc0_2; have HR1_2 := mk0 hr1_2; have HC1_2 := mk0 hc1_2; clear hr1_2 hc1_2; have HB := mk0 (Below.refl w.heap.size w); have H : (if a0_0.toList = a1_0.toList then (if a0_1 = a1_1 then (if a0_3.toList = a1_3.toList then (agateref07_Same.j0 k ((l0_2.length : Int) != (l1_2.length : Int)) a0_0 a0_1 l0_2 a0_3 a1_0 a1_1 l1_2 a1_3) else (agateref07_Same.j0 k true a0_0 a0_1 l0_2 a0_3 a1_0 a1_1 l1_2 a1_3)) else (agateref07_Same.j0 k true a0_0 a0_1 l0_2 a0_3 a1_0 a1_1 l1_2 a1_3)) else (agateref07_Same.j0 k true a0_0 a0_1 l0_2 a0_3 a1_0 a1_1 l1_2 a1_3)) = some r := h; clear h; have HC3 := mk0 H; clear H
 go_enter Tryz.func9, Tryz.ntmps9
 go_upto_region 1 with (first | ((with_reducible refine gate_dst (N := 2) rfl ?_); (try (refine gate_guard (by rfl) ?_; dsimp only)); refine boxE (N := 2) (cs := #[.string a0_0, .int .i64 a0_1, .slice A0_2 l0_2.length c0_2, .string a0_3]) (t := 38) ?_; intro gb101 hg w4 hbox hb; have BK101 := mk0 hbox; have GW101 := gwS HB hg; have GE101 := gwS HB hg; replace HB := hbS HB hb; clear hb hbox hg) | ((with_reducible refine gate_dst (N := 3) rfl ?_); (try (refine gate_guard (by rfl) ?_; dsimp only)); refine boxE (N := 3) (cs := #[.string a1_0, .int .i64 a1_1, .slice A1_2 l1_2.length c1_2, .string a1_3]) (t := 38) ?_; intro gb102 hg w5 hbox hb; have BK102 := mk0 hbox; have GW102 := gwS HB hg; have GE102 := gwS HB hg; replace HB := hbS HB hb; have NB101_102 := neS BK101 hg; have NB102_101 := neT BK101 hg; replace BK101 := bkS BK101 hb; clear hb hbox hg))
 repeat (go_quiet (first | ((with_reducible refine gate_dst (N := 2) rfl ?_); (try (refine gate_guard (by rfl) ?_; dsimp only)); refine boxE (N := 2) (cs := #[.string a0_0, .int .i64 a0_1, .slice A0_2 l0_2.length c0_2, .string a0_3]) (t := 38) ?_; intro gb101 hg w4 hbox hb; have BK101 := mk0 hbox; have GW101 := gwS HB hg; have GE101 := gwS HB hg; replace HB := hbS HB hb; clear hb hbox hg) | ((with_reducible refine gate_dst (N := 3) rfl ?_); (try (refine gate_guard (by rfl) ?_; dsimp only)); refine boxE (N := 3) (cs := #[.string a1_0, .int .i64 a1_1, .slice A1_2 l1_2.length c1_2, .string a1_3]) (t := 38) ?_; intro gb102 hg w5 hbox hb; have BK102 := mk0 hbox; have GW102 := gwS HB hg; have GE102 := gwS HB hg; replace HB := hbS HB hb; have NB101_102 := neS BK101 hg; have NB102_101 := neT BK101 hg; replace BK101 := bkS BK101 hb; clear hb hbox hg)); go_upto_region 1 with (first | ((with_reducible refine gate_dst (N := 2) rfl ?_); (try (refine gate_guard (by rfl) ?_; dsimp only)); refine boxE (N := 2) (cs := #[.string a0_0, .int .i64 a0_1, .slice A0_2 l0_2.length c0_2, .string a0_3]) (t := 38) ?_; intro gb101 hg w4 hbox hb; have BK101 := mk0 hbox; have GW101 := gwS HB hg; have GE101 := gwS HB hg; replace HB := hbS HB hb; clear hb hbox hg) | ((with_reducible refine gate_dst (N := 3) rfl ?_); (try (refine gate_guard (by rfl) ?_; dsimp only)); refine boxE (N := 3) (cs := #[.string a1_0, .int .i64 a1_1, .slice A1_2 l1_2.length c1_2, .string a1_3]) (t := 38) ?_; intro gb102 hg w5 hbox hb; have BK102 := mk0 hbox; have GW102 := gwS HB hg; have GE102 := gwS HB hg; replace HB := hbS HB hb; have NB101_102 := neS BK101 hg; have NB102_101 := neT BK101 hg; replace BK101 := bkS BK101 hb; clear hb hbox hg)))
 (try simp only [Act.put, List.setIfInBounds_toArray, List.set_cons_zero, List.set_cons_succ])
 go_cut [33] (fun v33 wc => ∃ (kq : Nat) (x33_2 : Bool), v33 = .bool x33_2 ∧ Aside0 (agateref07_Same.j0 kq x33_2 a0_0 a0_1 l0_2 a0_3 a1_0 a1_1 l1_2 a1_3 = some r) ∧ Aside0 (kq ≤ k) ∧ Aside0 (wc.heap[gb101]? = some (.cells #[.string a0_0, .int .i64 a0_1, (.slice A0_2 l0_2.length c0_2), .string a0_3] 38 (0, 0))) ∧ Aside0 (wc.heap[gb102]? = some (.cells #[.string a1_0, .int .i64 a1_1, (.slice A1_2 l1_2.length c1_2), .string a1_3] 38 (0, 0))) ∧ Aside0 (Below w.heap.size w wc))
 case first =>
  have H := HC3.out; clear HC3
  by_cases c6 : a0_0.toList = a1_0.toList
  ·
   rw [if_pos c6] at H; have c6b0 := beq_iff_eq.mpr c6; have c6b1 := bne_eq_false_iff_eq.mpr c6; clear c6
   (first | rw [c6b0] | (simp only [i64_w, i32_w]; rw [c6b0]) | skip)
   by_cases c7 : a0_1 = a1_1
   ·
    rw [if_pos c7] at H; have c7b0 := beq_iff_eq.mpr c7; have c7b1 := bne_eq_false_iff_eq.mpr c7; clear c7
    by_cases c8 : a0_3.toList = a1_3.toList
    ·
     rw [if_pos c8] at H; have c8b0 := beq_iff_eq.mpr c8; have c8b1 := bne_eq_false_iff_eq.mpr c8; clear c8; have H' := mk0 H; clear H; have hnb9 := NB101_102.out; have hnc9 := NB102_101.out; obtain ⟨hcz10_0, hcz10_1, hcz10_2, hcz10_3⟩ := cz4 BK101; have hfz10_0 := fz BK101 0; have hfz10_1 := fz BK101 1; have hfz10_2 := fz BK101 2; have hfz10_3 := fz BK101 3; obtain ⟨hcz11_0, hcz11_1, hcz11_2, hcz11_3⟩ := cz4 BK102; have hfz11_0 := fz BK102 0; have hfz11_1 := fz BK102 1; have hfz11_2 := fz BK102 2; have hfz11_3 := fz BK102 3
     go_wp2
     repeat (go_quiet (fail); try go_wp2)
     go_meet
     case rel => exact ⟨_, (((l0_2.length : Int) != (l1_2.length : Int))), cl0, H', cl1, ⟨bkA BK101⟩, ⟨bkA BK102⟩, ⟨hbA HB⟩⟩
    ·
     rw [if_neg c8] at H; have c8b0 := beq_eq_false_iff_ne.mpr c8; have c8b1 := bne_iff_ne.mpr c8; have H' := mk0 H; clear H; have hnb12 := NB101_102.out; have hnc12 := NB102_101.out; obtain ⟨hcz13_0, hcz13_1, hcz13_2, hcz13_3⟩ := cz4 BK101; have hfz13_0 := fz BK101 0; have hfz13_1 := fz BK101 1; have hfz13_2 := fz BK101 2; have hfz13_3 := fz BK101 3; obtain ⟨hcz14_0, hcz14_1, hcz14_2, hcz14_3⟩ := cz4 BK102; have hfz14_0 := fz BK102 0; have hfz14_1 := fz BK102 1; have hfz14_2 := fz BK102 2; have hfz14_3 := fz BK102 3
     go_wp2
     repeat (go_quiet (fail); try go_wp2)
     go_meet
     case rel => exact ⟨_, (true), cl0, H', cl1, ⟨bkA BK101⟩, ⟨bkA BK102⟩, ⟨hbA HB⟩⟩
   ·
    rw [if_neg c7] at H; have c7b0 := beq_eq_false_iff_ne.mpr c7; have c7b1 := bne_iff_ne.mpr c7; have H' := mk0 H; clear H; have hnb15 := NB101_102.out; have hnc15 := NB102_101.out; obtain ⟨hcz16_0, hcz16_1, hcz16_2, hcz16_3⟩ := cz4 BK101; have hfz16_0 := fz BK101 0; have hfz16_1 := fz BK101 1; have hfz16_2 := fz BK101 2; have hfz16_3 := fz BK101 3; obtain ⟨hcz17_0, hcz17_1, hcz17_2, hcz17_3⟩ := cz4 BK102; have hfz17_0 := fz BK102 0; have hfz17_1 := fz BK102 1; have hfz17_2 := fz BK102 2; have hfz17_3 := fz BK102 3
    go_wp2
    repeat (go_quiet (fail); try go_wp2)
    go_meet
    case rel => exact ⟨_, (true), cl0, H', cl1, ⟨bkA BK101⟩, ⟨bkA BK102⟩, ⟨hbA HB⟩⟩
  ·
   rw [if_neg c6] at H; have c6b0 := beq_eq_false_iff_ne.mpr c6; have c6b1 := bne_iff_ne.mpr c6
   (first | rw [c6b0] | (simp only [i64_w, i32_w]; rw [c6b0]) | skip)
   have H' := mk0 H; clear H; have hnb18 := NB101_102.out; have hnc18 := NB102_101.out; obtain ⟨hcz19_0, hcz19_1, hcz19_2, hcz19_3⟩ := cz4 BK101; have hfz19_0 := fz BK101 0; have hfz19_1 := fz BK101 1; have hfz19_2 := fz BK101 2; have hfz19_3 := fz BK101 3; obtain ⟨hcz20_0, hcz20_1, hcz20_2, hcz20_3⟩ := cz4 BK102; have hfz20_0 := fz BK102 0; have hfz20_1 := fz BK102 1; have hfz20_2 := fz BK102 2; have hfz20_3 := fz BK102 3
   go_wp2
   repeat (go_quiet (fail); try go_wp2)
   go_meet
   case rel => exact ⟨_, (true), cl0, H', cl1, ⟨bkA BK101⟩, ⟨bkA BK102⟩, ⟨hbA HB⟩⟩
 case rest =>
  clear HC3; obtain ⟨kq, x33_2, rfl, HA, HJ2, BK101, BK102, HB⟩ := hcut
  cases kq with
  | zero => exact absurd HA.out (by simp [agateref07_Same.j0])
  | succ kj2 =>
   have H := HA.out; clear HA
   simp only [agateref07_Same.j0] at H
   by_cases c21 : x33_2 = true
   ·
    subst c21; have H1 : (some false) = some r := by rw [if_pos rfl] at H; exact H
    clear H; have H := H1; clear H1; obtain rfl := Option.some.inj H
    go_wp2
    repeat (go_quiet (fail); try go_wp2)
    go_ret
    exact ⟨cl3, hbA HB⟩
   ·
    replace c21 := Bool.eq_false_iff.mpr c21; subst c21; have H1 : (agateref07_Same.l0 kj2 0 a0_0 a0_1 l0_2 a0_3 a1_0 a1_1 l1_2 a1_3) = some r := by rw [if_neg (show ¬ (false = true) by decide)] at H; exact H
    clear H; have H := H1; clear H1; have H' := mk0 H; clear H
    go_wp2
    repeat (go_quiet (fail); try go_wp2)
    go_loopg [5] kj2 (fun kq v5 w' => ∃ (x5_2 : Int), v5 = .int .i64 x5_2 ∧ Aside0 (agateref07_Same.l0 kq x5_2 a0_0 a0_1 l0_2 a0_3 a1_0 a1_1 l1_2 a1_3 = some r) ∧ Aside0 (kq ≤ kj2) ∧ Aside0 (w'.heap[gb101]? = some (.cells #[.string a0_0, .int .i64 a0_1, (.slice A0_2 l0_2.length c0_2), .string a0_3] 38 (0, 0))) ∧ Aside0 (w'.heap[gb102]? = some (.cells #[.string a1_0, .int .i64 a1_1, (.slice A1_2 l1_2.length c1_2), .string a1_3] 38 (0, 0))) ∧ Aside0 (Below w.heap.size w w'))
    case atStart => exact ⟨(0), cl0, H', ⟨Nat.le_refl _⟩, ⟨bkA BK101⟩, ⟨bkA BK102⟩, ⟨hbA HB⟩⟩
    case round =>
     clear H'; obtain ⟨x5_2, rfl, HA, HK2, BK101, BK102, HB⟩ := hrel
     cases gk with
     | zero => exact absurd HA.out (by simp [agateref07_Same.l0])
     | succ k2 =>
      have H := HA.out; clear HA
      simp only [agateref07_Same.l0] at H
      by_cases c22 : x5_2 < (l0_2.length : Int)
      ·
       rw [if_pos c22] at H; have c22b0 := decide_eq_true c22; clear c22; replace H := ifS H; obtain ⟨c23, H⟩ := H; have c23b0 := decide_eq_true c23; clear c23; replace H := ifS H; obtain ⟨c24, H⟩ := H; have c24b0 := decide_eq_true c24; clear c24
       by_cases c25 : (rd l0_2 x5_2) = (rd l1_2 x5_2)
       ·
        rw [if_pos c25] at H; have c25b0 := beq_iff_eq.mpr c25; have c25b1 := bne_eq_false_iff_eq.mpr c25; clear c25; have H' := mk0 H; clear H; have hnb26 := NB101_102.out; have hnc26 := NB102_101.out; obtain ⟨hcz27_0, hcz27_1, hcz27_2, hcz27_3⟩ := cz4 BK101; have hfz27_0 := fz BK101 0; have hfz27_1 := fz BK101 1; have hfz27_2 := fz BK101 2; have hfz27_3 := fz BK101 3; have p103 : 0 ≤ (x5_2 : Int) := ofd; have q103 : x5_2 < (l0_2.length : Int) := ofd; obtain ⟨ad103, e103, hx103_0⟩ := Kd.at_int HR0_2.out x5_2 p103 q103; cases e103; replace hx103_0 := hbc HB hx103_0; replace p103 := eq_true p103; replace q103 := eq_true q103; obtain ⟨hcz28_0, hcz28_1, hcz28_2, hcz28_3⟩ := cz4 BK102; have hfz28_0 := fz BK102 0; have hfz28_1 := fz BK102 1; have hfz28_2 := fz BK102 2; have hfz28_3 := fz BK102 3; have p104 : 0 ≤ (x5_2 : Int) := ofd; have q104 : x5_2 < (l1_2.length : Int) := ofd; obtain ⟨ad104, e104, hx104_0⟩ := Kd.at_int HR1_2.out x5_2 p104 q104; cases e104; replace hx104_0 := hbc HB hx104_0; replace p104 := eq_true p104; replace q104 := eq_true q104
        go_wp2
        repeat (go_quiet (fail); try go_wp2)
        go_roundg k2
        case measure => have := HJ2.out; have := HK2.out; omega
        case rel => exact ⟨(wrap64 (x5_2 + 1)), cl0, H', ⟨by have := HJ2.out; have := HK2.out; omega⟩, ⟨bkA BK101⟩, ⟨bkA BK102⟩, ⟨hbA HB⟩⟩
       ·
        rw [if_neg c25] at H; have c25b0 := beq_eq_false_iff_ne.mpr c25; have c25b1 := bne_iff_ne.mpr c25; obtain rfl := Option.some.inj H; have hnb29 := NB101_102.out; have hnc29 := NB102_101.out; obtain ⟨hcz30_0, hcz30_1, hcz30_2, hcz30_3⟩ := cz4 BK101; have hfz30_0 := fz BK101 0; have hfz30_1 := fz BK101 1; have hfz30_2 := fz BK101 2; have hfz30_3 := fz BK101 3; have p103 : 0 ≤ (x5_2 : Int) := ofd; have q103 : x5_2 < (l0_2.length : Int) := ofd; obtain ⟨ad103, e103, hx103_0⟩ := Kd.at_int HR0_2.out x5_2 p103 q103; cases e103; replace hx103_0 := hbc HB hx103_0; replace p103 := eq_true p103; replace q103 := eq_true q103; obtain ⟨hcz31_0, hcz31_1, hcz31_2, hcz31_3⟩ := cz4 BK102; have hfz31_0 := fz BK102 0; have hfz31_1 := fz BK102 1; have hfz31_2 := fz BK102 2; have hfz31_3 := fz BK102 3; have p104 : 0 ≤ (x5_2 : Int) := ofd; have q104 : x5_2 < (l1_2.length : Int) := ofd; obtain ⟨ad104, e104, hx104_0⟩ := Kd.at_int HR1_2.out x5_2 p104 q104; cases e104; replace hx104_0 := hbc HB hx104_0; replace p104 := eq_true p104; replace q104 := eq_true q104
        go_wp2
        repeat (go_quiet (fail); try go_wp2)
        go_ret
        exact ⟨cl3, hbA HB⟩
      ·
       rw [if_neg c22] at H; have c22b0 := decide_eq_false c22; clear c22; obtain rfl := Option.some.inj H; have hnb32 := NB101_102.out; have hnc32 := NB102_101.out; obtain ⟨hcz33_0, hcz33_1, hcz33_2, hcz33_3⟩ := cz4 BK101; have hfz33_0 := fz BK101 0; have hfz33_1 := fz BK101 1; have hfz33_2 := fz BK101 2; have hfz33_3 := fz BK101 3
       go_wp2
       repeat (go_quiet (fail); try go_wp2)
       go_ret
       exact ⟨cl3, hbA HB⟩
end Go.Proofs.YtgmggompdidcoaaGreatDoor.X
namespace Go.Proofs.YtgmggompdidcoaaGreatDoor.X
open Go.RowKit Go.Proofs.YtgmggompdidcoaaGreatDoorW.PrintWords Go.Proofs.YtgmggompdidcoaaGreatDoorW.PrintLast Go.Proofs.YtgmggompdidcoaaGreatDoorW.PrintMore
attribute [local go_sem] max2_int min2_int max_two min_two max_three min_three max_four min_four
set_option linter.unusedVariables false
set_option linter.unusedSimpArgs false
def agateref07_Same_s.f (a0_0 : ByteArray) (a0_1 : Int) (l0_2 : List Int) (a0_3 : ByteArray) (a1_0 : ByteArray) (a1_1 : Int) (l1_2 : List Int) (a1_3 : ByteArray) : Option Bool := if l0_2.length ≤ 1000000000000000000 then some (sameR a0_0 a0_1 l0_2 a0_3 a1_0 a1_1 l1_2 a1_3) else none
theorem agateref07_Same_eval (a0_0 : ByteArray) (a0_1 : Int) (l0_2 : List Int) (a0_3 : ByteArray) (a1_0 : ByteArray) (a1_1 : Int) (l1_2 : List Int) (a1_3 : ByteArray) (hl : l0_2.length ≤ 1000000000000000000) (he : l0_2.length = l1_2.length) (d : Nat) : ∀ (k i : Nat), l0_2.length - i = d → i ≤ l0_2.length → d < k →
    agateref07_Same.l0 k (i : Int) a0_0 a0_1 l0_2 a0_3 a1_0 a1_1 l1_2 a1_3 = some (decide (l0_2.drop i = l1_2.drop i)) := by
  induction d with
  | zero =>
    intro k i hdd hi hk
    obtain ⟨k, rfl⟩ : ∃ m, k = m + 1 := ⟨k - 1, by omega⟩
    simp only [agateref07_Same.l0]
    rw [if_neg (by omega), List.drop_of_length_le (by omega), List.drop_of_length_le (by omega)]; rfl
  | succ d ih =>
    intro k i hdd hi hk
    obtain ⟨k, rfl⟩ : ∃ m, k = m + 1 := ⟨k - 1, by omega⟩
    have hlt : i < l0_2.length := by omega
    have hlt2 : i < l1_2.length := by omega
    have e0 : rd l0_2 (i : Int) = l0_2[i] := by simp [rd, hlt]
    have e1 : rd l1_2 (i : Int) = l1_2[i] := by simp [rd, hlt2]
    simp only [agateref07_Same.l0]
    rw [if_pos (by omega), if_pos (by omega), if_pos (by omega), e0, e1, List.drop_eq_getElem_cons hlt, List.drop_eq_getElem_cons hlt2]
    by_cases hx : l0_2[i] = l1_2[i]
    · rw [if_pos hx, wrap64_id (by omega) (by omega), show ((i : Int) + 1) = ((i + 1 : Nat) : Int) by omega, ih k (i + 1) (by omega) (by omega) (by omega)]
      congr 1
      exact decide_eq_decide.2 ⟨fun h => by rw [h, hx], fun h => (List.cons.inj h).2⟩
    · rw [if_neg hx, decide_eq_false (fun h => hx (List.cons.inj h).1)]
theorem agateref07_Same_s.ev (a0_0 : ByteArray) (a0_1 : Int) (l0_2 : List Int) (a0_3 : ByteArray) (a1_0 : ByteArray) (a1_1 : Int) (l1_2 : List Int) (a1_3 : ByteArray) (r) (h : agateref07_Same_s.f a0_0 a0_1 l0_2 a0_3 a1_0 a1_1 l1_2 a1_3 = some r) : ∃ k, agateref07_Same.f k a0_0 a0_1 l0_2 a0_3 a1_0 a1_1 l1_2 a1_3 = some r := by
  unfold agateref07_Same_s.f at h
  split at h
  case isFalse => cases h
  rename_i hl
  rw [← h]
  refine ⟨l0_2.length + 2, ?_⟩
  unfold agateref07_Same.f sameR
  by_cases h0 : a0_0 = a1_0
  case neg => rw [if_neg (fun e => h0 (toList_inj.1 e)), decide_eq_false (fun e => h0 e.1)]; rfl
  rw [if_pos (by rw [h0])]
  by_cases h1 : a0_1 = a1_1
  case neg => rw [if_neg h1, decide_eq_false (fun e => h1 e.2.1)]; rfl
  rw [if_pos h1]
  by_cases h3 : a0_3 = a1_3
  case neg => rw [if_neg (fun e => h3 (toList_inj.1 e)), decide_eq_false (fun e => h3 e.2.2.2)]; rfl
  rw [if_pos (by rw [h3])]
  rw [show l0_2.length + 2 = (l0_2.length + 1) + 1 from rfl]
  simp only [agateref07_Same.j0]
  by_cases he : l0_2.length = l1_2.length
  · rw [show ((l0_2.length : Int) != (l1_2.length : Int)) = false by simp [he], if_neg (by decide)]
    have := agateref07_Same_eval a0_0 a0_1 l0_2 a0_3 a1_0 a1_1 l1_2 a1_3 hl he l0_2.length (l0_2.length + 1) 0 (by omega) (by omega) (by omega)
    rw [List.drop_zero, List.drop_zero] at this
    refine this.trans ?_
    congr 1
    exact decide_eq_decide.2 ⟨fun e => ⟨h0, h1, e, h3⟩, fun e => e.2.2.1⟩
  · rw [show ((l0_2.length : Int) != (l1_2.length : Int)) = true by simp; omega, if_pos rfl, decide_eq_false (fun e => he (by rw [e.2.2.1]))]
set_option maxHeartbeats 1000000 in
theorem agateref07_Same_s.calls (a0_0 : ByteArray) (a0_1 : Int) (A0_2 : Option Addr) (c0_2 : Nat) (l0_2 : List Int) (a0_3 : ByteArray) (a1_0 : ByteArray) (a1_1 : Int) (A1_2 : Option Addr) (c1_2 : Nat) (l1_2 : List Int) (a1_3 : ByteArray) (r : Bool) (w : World) (hr0_2 : Kd.C (Kd.int .i64) w A0_2 l0_2.length l0_2) (hc0_2 : l0_2.length ≤ c0_2) (hr1_2 : Kd.C (Kd.int .i64) w A1_2 l1_2.length l1_2) (hc1_2 : l1_2.length ≤ c1_2) (h : agateref07_Same_s.f a0_0 a0_1 l0_2 a0_3 a1_0 a1_1 l1_2 a1_3 = some r) :
    Calls Tryz.prog 9 #[.agg #[.string a0_0, .int .i64 a0_1, .slice A0_2 l0_2.length c0_2, .string a0_3], .agg #[.string a1_0, .int .i64 a1_1, .slice A1_2 l1_2.length c1_2, .string a1_3]] w fun e w' => e = .returned (.bool r) ∧ Below w.heap.size w w' := by
  obtain ⟨k, hk⟩ := agateref07_Same_s.ev a0_0 a0_1 l0_2 a0_3 a1_0 a1_1 l1_2 a1_3 _ h
  exact agateref07_Same.calls k a0_0 a0_1 A0_2 c0_2 l0_2 a0_3 a1_0 a1_1 A1_2 c1_2 l1_2 a1_3 r w hr0_2 hc0_2 hr1_2 hc1_2 hk
structure But (g : Nat) (w W : World) : Prop where
  os : W.os = w.os
  tape : W.tape = w.tape
  output : W.output = w.output
  size : w.heap.size ≤ W.heap.size
  block : ∀ i, i < w.heap.size → i ≠ g → W.heap[i]? = w.heap[i]?
theorem But.refl (g : Nat) (w : World) : But g w w := ⟨rfl, rfl, rfl, Nat.le_refl _, fun _ _ _ => rfl⟩
theorem But.trans {g : Nat} {a b c : World} (h : But g a b) (k : But g b c) : But g a c := ⟨k.os.trans h.os, k.tape.trans h.tape, k.output.trans h.output, Nat.le_trans h.size k.size, fun i hi hn => (k.block i (Nat.lt_of_lt_of_le hi h.size) hn).trans (h.block i hi hn)⟩
theorem But.of_below {g : Nat} {w W : World} (h : Below w.heap.size w W) : But g w W := ⟨h.os, h.tape, h.output, h.size, fun i hi _ => h.block i hi⟩
theorem But.step {g : Nat} {a b c : World} (h : But g a b) (k : Below b.heap.size b c) : But g a c := h.trans (But.of_below k)
theorem But.set {g : Nat} {w W : World} (h : But g w W) (i : Nat) (v : Value) : But g w (W.setCell ⟨g, i, none⟩ v) :=
  ⟨h.os, h.tape, h.output, by show _ ≤ (W.heap.modify g _).size; rw [Array.size_modify]; exact h.size, fun j hj hn => (Below.heap_setCell W _ _ j hn).trans (h.block j hj hn)⟩
theorem But.alloc {g : Nat} {w W : World} (h : But g w W) (o : Obj) : But g w (W.alloc o) := h.step (below_alloc (Below.refl W.heap.size W) o)
theorem But.drewN {g : Nat} {w W : World} (h : But g w W) (n : Nat) : But g w (W.drewN n) := ⟨h.os, h.tape, h.output, h.size, h.block⟩
theorem But.below {B g : Nat} {w W : World} (h : But g w W) (hg : B ≤ g) (hs : B ≤ w.heap.size) : Below B w W := ⟨h.os, h.tape, h.output, h.size, fun i hi => h.block i (Nat.lt_of_lt_of_le hi hs) (fun e => Nat.not_le.2 hi (e ▸ hg))⟩
theorem But.keep {g j : Nat} {w W : World} {o : Obj} (h : But g w W) (hj : w.heap[j]? = some o) (hn : j ≠ g) : W.heap[j]? = some o := (h.block j (blk_lt hj) hn).trans hj
theorem F_but {α : Type} {d : Kd α} {g n : Nat} {ok : Nat → Prop} {w W : World} {A : Option Addr} {xs : List α} (h : Kd.F d w ok A n xs) (hb : But g w W) (hok : ∀ k, ok k → k ≠ g) : Kd.F d W ok A n xs := Kd.F_step h (fun k hk hlt => hb.block k hlt (hok k hk))
theorem F_below {α : Type} {d : Kd α} {n : Nat} {ok : Nat → Prop} {w W : World} {A : Option Addr} {xs : List α} (h : Kd.F d w ok A n xs) (hb : Below w.heap.size w W) : Kd.F d W ok A n xs := Kd.F_step h (fun k _ hlt => hb.block k hlt)
def fieldOf (x : S95) : Fl := (x.f0, x.f1, if x.f1 = 2 then 0 else x.f2, if x.f1 = 2 then x.f3 else ⟨#[]⟩)
def mayF (x : S95) : Prop := 1 ≤ x.f0 ∧ x.f0 ≤ 536870911 ∧ (x.f1 = 0 ∨ x.f1 = 1 ∨ x.f1 = 2 ∨ x.f1 = 5) ∧ (x.f1 = 5 → x.f2 ≤ 4294967295)
theorem bytes_nil (x : S95) : bytesS x.f0 x.f1 x.f2 x.f3 = ⟨#[]⟩ ↔ ¬ mayF x := by
  have hne : ∀ (v : Nat) (b : ByteArray), vStr v ++ b ≠ ⟨#[]⟩ := by
    intro v b h
    have := congrArg ByteArray.size h
    rw [ByteArray.size_append, vStr_size] at this
    have h1 := vSize_pos v
    have h2 : ByteArray.size ⟨#[]⟩ = 0 := rfl
    omega
  unfold bytesS mayF
  by_cases h : 1 ≤ x.f0 ∧ x.f0 ≤ 536870911 ∧ (x.f1 = 0 ∨ x.f1 = 1 ∨ x.f1 = 2 ∨ x.f1 = 5)
  · rw [if_pos h]
    obtain ⟨h0, h1, h2⟩ := h
    by_cases e0 : x.f1 = 0
    · rw [if_pos e0]
      exact ⟨fun g => absurd g (hne _ _), fun g => absurd ⟨h0, h1, h2, by omega⟩ g⟩
    · rw [if_neg e0]
      by_cases e2 : x.f1 = 2
      · rw [if_pos e2, ByteArray.append_assoc]
        exact ⟨fun g => absurd g (hne _ _), fun g => absurd ⟨h0, h1, h2, by omega⟩ g⟩
      · rw [if_neg e2]
        by_cases e1 : x.f1 = 1
        · rw [if_pos e1]
          exact ⟨fun g => absurd g (hne _ _), fun g => absurd ⟨h0, h1, h2, by omega⟩ g⟩
        · rw [if_neg e1]
          by_cases e4 : x.f2 > 4294967295
          · rw [if_pos e4]
            exact ⟨fun _ g => by have := g.2.2.2 (by omega); omega, fun _ => rfl⟩
          · rw [if_neg e4]
            exact ⟨fun g => absurd g (hne _ _), fun g => absurd ⟨h0, h1, h2, by omega⟩ g⟩
  · rw [if_neg h]
    exact ⟨fun _ g => h ⟨g.1, g.2.1, g.2.2.1⟩, fun _ => rfl⟩
theorem drop_put (v : Nat) (r : List Nat) : (vPut v ++ r).drop (vSize v) = r := by
  rw [← vPut_length, List.drop_left]
theorem oneS_bytes (x : S95) (rest : ByteArray) (hm : mayF x) (h2 : 0 ≤ x.f2) (h2' : x.f2 < 18446744073709551616) (h3 : x.f3.size ≤ 140737488351232) :
    oneS (bytesS x.f0 x.f1 x.f2 x.f3 ++ rest) = (fieldOf x, (bytesS x.f0 x.f1 x.f2 x.f3).size, 0) := by
  obtain ⟨m0, m1, m2, m3⟩ := hm
  obtain ⟨num, en⟩ := Int.eq_ofNat_of_zero_le (show 0 ≤ x.f0 by omega)
  obtain ⟨ty, et⟩ := Int.eq_ofNat_of_zero_le (show 0 ≤ x.f1 by omega)
  obtain ⟨v, ev⟩ := Int.eq_ofNat_of_zero_le h2
  have htag : (8 * x.f0 + x.f1).toNat = 8 * num + ty := by omega
  have hmay : 1 ≤ x.f0 ∧ x.f0 ≤ 536870911 ∧ (x.f1 = 0 ∨ x.f1 = 1 ∨ x.f1 = 2 ∨ x.f1 = 5) := ⟨m0, m1, m2⟩
  have hlt : 8 * num + ty < 18446744073709551616 := by omega
  have hs10 := vSize_10 _ hlt
  obtain ⟨body, hb⟩ : ∃ body, bytesS x.f0 x.f1 x.f2 x.f3 = vStr (8 * num + ty) ++ body ∧ (ty = 0 → body = vStr v) ∧ (ty = 2 → body = vStr x.f3.size ++ x.f3) ∧ (ty = 1 → body = laidStr v 8) ∧ (ty = 5 → body = laidStr v 4) := by
    unfold bytesS
    rw [if_pos hmay, htag]
    rcases m2 with e | e | e | e
    · rw [if_pos e, ev]; exact ⟨_, rfl, fun _ => rfl, fun g => by omega, fun g => by omega, fun g => by omega⟩
    · rw [if_neg (by omega), if_neg (by omega), if_pos e, ev]; exact ⟨_, rfl, fun g => by omega, fun g => by omega, fun _ => rfl, fun g => by omega⟩
    · rw [if_neg (by omega), if_pos e, ByteArray.append_assoc]; exact ⟨_, rfl, fun g => by omega, fun _ => rfl, fun g => by omega, fun g => by omega⟩
    · have := m3 e
      rw [if_neg (by omega), if_neg (by omega), if_neg (by omega), if_neg (by omega), ev]; exact ⟨_, rfl, fun g => by omega, fun g => by omega, fun g => by omega, fun _ => rfl⟩
  obtain ⟨hb, b0, b2, b1, b5⟩ := hb
  have hr : vRead (bytesS x.f0 x.f1 x.f2 x.f3 ++ rest) = (8 * num + ty, vSize (8 * num + ty), 0) := by
    rw [hb, ByteArray.append_assoc, vRead_put _ hlt]
  have hsz : (bytesS x.f0 x.f1 x.f2 x.f3).size = vSize (8 * num + ty) + body.size := by rw [hb, ByteArray.size_append, vStr_size]
  have hsz2 : (bytesS x.f0 x.f1 x.f2 x.f3 ++ rest).size = vSize (8 * num + ty) + body.size + rest.size := by rw [ByteArray.size_append, hsz]
  have hns : ns (bytesS x.f0 x.f1 x.f2 x.f3 ++ rest) = vPut (8 * num + ty) ++ (ns body ++ ns rest) := by
    rw [hb, ns_append, ns_append, ns_vStr, List.append_assoc]
  have hex : (bytesS x.f0 x.f1 x.f2 x.f3 ++ rest).extract (vSize (8 * num + ty)) (bytesS x.f0 x.f1 x.f2 x.f3 ++ rest).size = body ++ rest := by
    apply ns_inj
    rw [ns_extract, hns, drop_put, ns_append, List.take_of_length_le]
    rw [hsz2, List.length_append, ns_length, ns_length]; omega
  unfold oneS fieldOf
  simp only [hr, hex]
  have hn8 : (8 * num + ty) / 8 = num := by omega
  have hm8 : (8 * num + ty) % 8 = ty := by omega
  rw [hn8, hm8]
  rw [if_neg (show ¬ ((0 : Nat) ≠ 0) by simp), if_neg (show ¬ ¬ (1 ≤ num ∧ num ≤ 536870911 ∧ (ty = 0 ∨ ty = 1 ∨ ty = 2 ∨ ty = 5)) by omega)]
  rcases m2 with e | e | e | e
  · obtain rfl : ty = 0 := by omega
    have hbody := b0 rfl
    rw [if_pos (Or.inl rfl), hbody, vRead_put v (by omega)]
    rw [hbody, vStr_size] at hsz
    simp only [hsz]
    rw [if_neg (show ¬ ((0 : Nat) ≠ 0) by simp), if_pos trivial]
    have e8 : (((8 * num + 0 : Nat) : Int) / 8) = (num : Int) := by omega
    rw [e8]
    simp [en, et, ev]
  · obtain rfl : ty = 1 := by omega
    have hbody := b1 rfl
    rw [hbody, laidStr_size] at hsz hsz2
    have hx : ns ((bytesS x.f0 x.f1 x.f2 x.f3 ++ rest).extract (vSize (8 * num + 1)) (vSize (8 * num + 1) + 8)) = laidS v 8 := by
      rw [ns_extract, hns, drop_put, hbody, ns_laidStr, show vSize (8 * num + 1) + 8 - vSize (8 * num + 1) = (laidS v 8).length by rw [laidS_length]; omega, List.take_left]
    rw [if_neg (by omega)]
    simp only [show ¬ ((1 : Nat) = 5) by decide, if_false, hx, lowS_laidS, hsz2, hsz]
    have e8 : (((8 * num + 1 : Nat) : Int) / 8) = (num : Int) := by omega
    rw [if_neg (by omega), if_neg (by omega), if_neg (by omega), show v % 256 ^ 8 = v from Nat.mod_eq_of_lt (by omega), e8]
    simp [en, et, ev]
  · obtain rfl : ty = 2 := by omega
    have hbody := b2 rfl
    rw [if_pos (Or.inr rfl)]
    have hq : vRead (body ++ rest) = (x.f3.size, vSize x.f3.size, 0) := by
      rw [hbody, ByteArray.append_assoc, vRead_put _ (by omega)]
    simp only [hq]
    have hbz : body.size = vSize x.f3.size + x.f3.size := by rw [hbody, ByteArray.size_append, vStr_size]
    rw [hbz] at hsz hsz2
    have hx : (bytesS x.f0 x.f1 x.f2 x.f3 ++ rest).extract (vSize (8 * num + 2) + vSize x.f3.size) (vSize (8 * num + 2) + vSize x.f3.size + x.f3.size) = x.f3 := by
      apply ns_inj
      rw [ns_extract, hns, hbody, ← List.drop_drop, drop_put, ns_append, ns_vStr, List.append_assoc, drop_put]
      rw [show vSize (8 * num + 2) + vSize x.f3.size + x.f3.size - (vSize (8 * num + 2) + vSize x.f3.size) = (ns x.f3).length by rw [ns_length]; omega, List.take_left]
    have e8 : (((8 * num + 2 : Nat) : Int) / 8) = (num : Int) := by omega
    rw [if_neg (show ¬ ((0 : Nat) ≠ 0) by simp), if_neg (show ¬ (2 = 0) by decide), hsz2, if_neg (by omega), hx, hsz, if_pos e, if_pos e, e8]
    simp [en, et, Nat.add_assoc]
  · obtain rfl : ty = 5 := by omega
    have hbody := b5 rfl
    have h4 := m3 e
    rw [hbody, laidStr_size] at hsz hsz2
    have hx : ns ((bytesS x.f0 x.f1 x.f2 x.f3 ++ rest).extract (vSize (8 * num + 5)) (vSize (8 * num + 5) + 4)) = laidS v 4 := by
      rw [ns_extract, hns, drop_put, hbody, ns_laidStr, show vSize (8 * num + 5) + 4 - vSize (8 * num + 5) = (laidS v 4).length by rw [laidS_length]; omega, List.take_left]
    rw [if_neg (by omega)]
    simp only [if_true, hx, lowS_laidS, hsz2, hsz]
    have e8 : (((8 * num + 5 : Nat) : Int) / 8) = (num : Int) := by omega
    rw [if_neg (by omega), if_neg (by omega), if_neg (by omega), show v % 256 ^ 4 = v from Nat.mod_eq_of_lt (by omega), e8]
    simp [en, et, ev]
def laidF : List (S95) → ByteArray
  | [] => ⟨#[]⟩
  | x :: l => bytesS x.f0 x.f1 x.f2 x.f3 ++ laidF l
theorem fieldsF_laid (l : List (S95)) (hl : ∀ x ∈ l, mayF x ∧ 0 ≤ x.f2 ∧ x.f2 < 18446744073709551616 ∧ x.f3.size ≤ 140737488351232) : ∀ d, l.length ≤ d → fieldsF d (laidF l) = (l.map fieldOf, 0) := by
  induction l with
  | nil =>
    intro d _
    cases d with
    | zero => rfl
    | succ d => rfl
  | cons x l ih =>
    intro d hd
    obtain ⟨d, rfl⟩ : ∃ m, d = m + 1 := ⟨d - 1, by simp at hd; omega⟩
    obtain ⟨h0, h1, h2, h3⟩ := hl x (List.mem_cons_self ..)
    have ho := oneS_bytes x (laidF l) h0 h1 h2 h3
    have hpos := oneS_pos (bytesS x.f0 x.f1 x.f2 x.f3 ++ laidF l) (by rw [ho])
    rw [ho] at hpos
    have hex : (bytesS x.f0 x.f1 x.f2 x.f3 ++ laidF l).extract (bytesS x.f0 x.f1 x.f2 x.f3).size (bytesS x.f0 x.f1 x.f2 x.f3 ++ laidF l).size = laidF l := by
      apply ns_inj
      rw [ns_extract, ns_append, show (bytesS x.f0 x.f1 x.f2 x.f3).size = (ns (bytesS x.f0 x.f1 x.f2 x.f3)).length from (ns_length _).symm, List.drop_left, List.take_of_length_le]
      rw [ByteArray.size_append, ns_length, ns_length]; omega
    have hi := ih (fun y hy => hl y (List.mem_cons_of_mem _ hy)) d (by simp at hd; omega)
    show fieldsF (d + 1) (bytesS x.f0 x.f1 x.f2 x.f3 ++ laidF l) = _
    rw [fieldsF, if_neg (by simp only at hpos; omega), ho]
    simp only [hex, hi]
    simp
theorem bytes_size (x : S95) (h2 : 0 ≤ x.f2) (h2' : x.f2 < 18446744073709551616) (h3 : x.f3.size ≤ 140737488351232) : (bytesS x.f0 x.f1 x.f2 x.f3).size ≤ 20 + x.f3.size := by
  unfold bytesS
  split
  · rename_i h
    have hs := vSize_10 (8 * x.f0 + x.f1).toNat (by omega)
    have hv := vSize_10 x.f2.toNat (by omega)
    have hd := vSize_10 x.f3.size (by omega)
    split
    · rw [ByteArray.size_append, vStr_size, vStr_size]; omega
    · split
      · rw [ByteArray.size_append, ByteArray.size_append, vStr_size, vStr_size]; omega
      · split
        · rw [ByteArray.size_append, vStr_size, laidStr_size]; omega
        · split
          · show 0 ≤ _; omega
          · rw [ByteArray.size_append, vStr_size, laidStr_size]; omega
  · show 0 ≤ _; omega
theorem laidF_len (l : List (S95)) (hl : ∀ x ∈ l, mayF x) : l.length ≤ (laidF l).size := by
  induction l with
  | nil => simp
  | cons x l ih =>
    have h1 := ih (fun y hy => hl y (List.mem_cons_of_mem _ hy))
    have h2 : (bytesS x.f0 x.f1 x.f2 x.f3).size ≠ 0 := by
      intro h
      have : bytesS x.f0 x.f1 x.f2 x.f3 = ⟨#[]⟩ := ns_inj (List.eq_nil_of_length_eq_zero (by rw [ns_length]; exact h))
      exact ((bytes_nil x).1 this) (hl x (List.mem_cons_self ..))
    simp only [List.length_cons, laidF, ByteArray.size_append]
    omega
def inRc (x : Int) : Prop := -9223372036854775808 ≤ x ∧ x < 9223372036854775808
theorem wrap_u64c {n : Int} (h : inRc n) : wrap64 (((IntKind.u64.wrap n).toNat : Nat) : Int) = n := by
  have := u64_range n
  rw [Int.toNat_of_nonneg this.1, u64_wrap]
  obtain ⟨h0, h1⟩ := h
  unfold wrap64
  omega
theorem packed_catc (part : List Int) : ∀ (d : Nat) (out : List Int), part.length ≤ d → out.length + part.length ≤ 65536 → (∀ x ∈ part, inRc x) → packedF d out (catS part) = (out ++ part, 0) := by
  induction part with
  | nil =>
    intro d out _ _ _
    cases d with
    | zero => simp [packedF]
    | succ d => rw [packedF, if_pos (show (catS []).size = 0 from rfl)]; simp
  | cons n l ih =>
    intro d out hd ho hr
    simp only [List.length_cons] at hd ho
    obtain ⟨d, rfl⟩ : ∃ m, d = m + 1 := ⟨d - 1, by omega⟩
    have hn := hr n (List.mem_cons_self ..)
    have hu := u64_range n
    have hv : (IntKind.u64.wrap n).toNat < 18446744073709551616 := by omega
    have hwr := wrap_u64c hn
    generalize hvv : (IntKind.u64.wrap n).toNat = v at *
    have hc : catS (n :: l) = vStr v ++ catS l := by rw [catS, hvv]
    have hp := vSize_pos v
    have hx : (vStr v ++ catS l).extract (vSize v) (vStr v ++ catS l).size = catS l := by
      apply ns_inj
      rw [ns_extract, ns_append, ns_vStr, drop_put, List.take_of_length_le]
      rw [ByteArray.size_append, vStr_size, ns_length]; omega
    rw [hc, packedF, if_neg (by rw [ByteArray.size_append, vStr_size]; omega), vRead_put v hv]
    simp only [hx, hwr]
    rw [if_neg (by simp), if_neg (by omega), ih d (out ++ [n]) (by omega) (by simp; omega) (fun x hx => hr x (List.mem_cons_of_mem _ hx))]
    simp
def varint_Read.f (a0 : ByteArray) : Option (Int × Int × Int) := some ((vRead a0).1, (vRead a0).2.1, (vRead a0).2.2)
structure varint_Read.J (s : ByteArray) (r : Nat × Nat × Nat) (w : World) (n v : Nat) (w' : World) : Prop where
  n9 : n ≤ 9
  nle : n ≤ s.size
  vlt : v < 128 ^ n
  eq : readS ((ns s).drop n) n v = r
  dr : Drawn0 w w'
def varint_Read.Rel (s : ByteArray) (w : World) (a' : Act) (w' : World) : Prop := ∃ (n v : Nat) (u7 u8 u9 u10 u11 u12 u13 u14 u15 u16 u17 u18 u19 u20 u21 u22 u23 u24 u25 u26 u27 u28 u29 u30 u31 u32 u33 u34 : Value),
    a' = { tmps := #[.string s, undef, .int .u64 0, .int .i64 0, .int .i64 0, .int .u64 v, .int .i64 n, u7, u8, u9, u10, u11, u12, u13, u14, u15, u16, u17, u18, u19, u20, u21, u22, u23, u24, u25, u26, u27, u28, u29, u30, u31, u32, u33, u34], defers := [] } ∧ varint_Read.J s (vRead s) w n v w'
set_option maxHeartbeats 8000000 in
set_option maxRecDepth 100000 in
theorem varint_Read.calls (a0 : ByteArray) (r1 r2 r3 : Int) (w : World) (h : varint_Read.f a0 = some (r1, r2, r3)) :
    Calls Tryz.prog 97 #[.string a0] w fun e w' => e = .returned (.tuple #[.int .u64 r1, .int .i64 r2, .int .i64 r3]) ∧ Drawn0 w w' := by
  have HE : Aside0 (((vRead a0).1 : Int) = r1 ∧ ((vRead a0).2.1 : Int) = r2 ∧ ((vRead a0).2.2 : Int) = r3) := by
    unfold varint_Read.f at h
    simp only [Option.some.injEq, Prod.mk.injEq] at h
    exact ⟨h⟩
  clear h
  go_enter Tryz.func97, Tryz.ntmps97
  go_wp2
  refine wp_scope_pre 0 (varint_Read.Rel a0 w) (fun a' _ => match a'.tmps.getD 6 undef with | .int _ q => 10 - q.toNat | _ => 0) rfl ?_ ?_
  · intro K hK
    have HK := Aside0.mk hK
    clear hK
    go_wp2
    refine HK.out _ _ ⟨0, 0, _, _, _, _, _, _, _, _, _, _, _, _, _, _, _, _, _, _, _, _, _, _, _, _, _, _, _, _, rfl, ⟨by omega, by omega, by decide, rfl, Drawn0.refl _⟩⟩
  rintro a' w' ⟨n, v, u7, u8, u9, u10, u11, u12, u13, u14, u15, u16, u17, u18, u19, u20, u21, u22, u23, u24, u25, u26, u27, u28, u29, u30, u31, u32, u33, u34, rfl, hJ⟩
  have hn9 := hJ.n9
  have hdr := hJ.dr
  have HJ : Aside0 (varint_Read.J a0 (vRead a0) w n v w') := ⟨hJ⟩
  have HV : Aside0 (v < 128 ^ n ∧ readS ((ns a0).drop n) n v = vRead a0) := ⟨hJ.vlt, hJ.eq⟩
  have hnle := hJ.nle
  clear hJ
  rcases Nat.lt_or_ge n a0.size with hlt | hge
  · have hb0 : ((n : Int) == (a0.size : Int)) = false := by simp; omega
    have h7 : 0 ≤ 7 * (n : Int) := by omega
    have hw7 : wrap64 (7 * (n : Int)) = 7 * (n : Int) := by unfold wrap64; omega
    have HR : Aside0 (readS ((ns a0).drop n) n v = vRead a0) := ⟨HV.out.2⟩
    have hcons := ns_drop a0 n hlt
    have HR : Aside0 (readS (a0[n].toNat :: (ns a0).drop (n + 1)) n v = vRead a0) := ⟨hcons ▸ HV.out.2⟩
    clear hcons
    by_cases h9 : n = 9 ∧ 1 < a0[n].toNat
    · obtain ⟨h9, hc⟩ := h9
      have hb9 : ((n : Int) == 9) = true := by simp; omega
      have HQ : Aside0 (vRead a0 = (0, 0, 2)) := ⟨by rw [← HR.out, readS, if_pos ⟨h9, hc⟩]⟩
      have hc' : decide ((1 : Int) < (a0[n].toNat : Int)) = true := by simp; omega
      clear h9 hc
      go_wp2
      simp only [Exit.jump]
      go_ret3
      obtain ⟨e1, e2, e3⟩ := HE.out
      rw [HQ.out] at e1 e2 e3
      subst e1 e2 e3
      exact ⟨rfl, hdr⟩
    · have HO := Aside0.mk (or_step v a0[n].toNat n HV.out.1 hn9 (by omega))
      have HS : Aside0 ((if a0[n].toNat < 128 then (v + a0[n].toNat * 128 ^ n, n + 1, 0) else readS ((ns a0).drop (n + 1)) (n + 1) (v + (a0[n].toNat % 128) * 128 ^ n)) = vRead a0) := ⟨by rw [← readS_cons (by omega)]; exact HR.out⟩
      have hc9 : ((n : Int) == 9) = true → decide ((1 : Int) < (a0[n].toNat : Int)) = false := by simp; omega
      have HVB : Aside0 (a0[n].toNat ≥ 128 → n < 9 ∧ v + a0[n].toNat % 128 * 128 ^ n < 128 ^ (n + 1)) := ⟨fun hge => by
        have := HV.out.1
        refine ⟨by omega, ?_⟩
        have h1 : a0[n].toNat % 128 * 128 ^ n ≤ 127 * 128 ^ n := Nat.mul_le_mul_right _ (by omega)
        rw [Nat.pow_succ]; omega⟩
      have Hc9 := Aside0.mk hc9
      clear h9 hc9
      by_cases hcl : a0[n].toNat < 128
      · have hcl' : decide ((128 : Int) ≤ (a0[n].toNat : Int)) = false := by simp; omega
        have HQ : Aside0 (vRead a0 = (v + a0[n].toNat * 128 ^ n, n + 1, 0)) := ⟨by rw [← HS.out, if_pos hcl]⟩
        have HM : Aside0 (a0[n].toNat % 128 = a0[n].toNat) := ⟨Nat.mod_eq_of_lt hcl⟩
        clear hcl
        cases hb9 : ((n : Int) == 9)
        · go_wp2
          simp only [Exit.jump]
          go_ret3
          refine ⟨?_, hdr⟩
          obtain ⟨e1, e2, e3⟩ := HE.out
          rw [HQ.out] at e1 e2 e3
          subst e1 e2 e3
          have := HO.out
          rw [HM.out] at this
          rw [this]
          rfl
        · have hc9 := Hc9.out hb9
          go_wp2
          simp only [Exit.jump]
          go_ret3
          refine ⟨?_, hdr⟩
          obtain ⟨e1, e2, e3⟩ := HE.out
          rw [HQ.out] at e1 e2 e3
          subst e1 e2 e3
          have := HO.out
          rw [HM.out] at this
          rw [this]
          rfl
      · have hcl' : decide ((128 : Int) ≤ (a0[n].toNat : Int)) = true := by simp; omega
        have hb9 : ((n : Int) == 9) = false := by have := (HVB.out (by omega)).1; simp; omega
        have HN : Aside0 (n < 9 ∧ v + a0[n].toNat % 128 * 128 ^ n < 128 ^ (n + 1)) := ⟨HVB.out (by omega)⟩
        have HT : Aside0 (readS ((ns a0).drop (n + 1)) (n + 1) (v + (a0[n].toNat % 128) * 128 ^ n) = vRead a0) := ⟨by rw [← HS.out, if_neg hcl]⟩
        clear hcl
        go_wp2
        go_step3
        rw [HO.out]
        refine ⟨rfl, ⟨n + 1, _, _, _, _, _, _, _, _, _, _, _, _, _, _, _, _, _, _, _, _, _, _, _, _, _, _, _, _, _, by rfl, ⟨by have := HN.out.1; omega, by omega, HN.out.2, HT.out, hdr⟩⟩, ?_⟩
        have := HN.out.1
        simp
        omega
  · have hb0 : ((n : Int) == (a0.size : Int)) = true := by simp; omega
    have HQ : Aside0 (vRead a0 = (0, 0, 1)) := ⟨by rw [← HV.out.2, ns_drop_end _ _ hge, readS]⟩
    go_wp2
    simp only [Exit.jump]
    go_ret3
    obtain ⟨e1, e2, e3⟩ := HE.out
    rw [HQ.out] at e1 e2 e3
    subst e1 e2 e3
    exact ⟨rfl, hdr⟩
end Go.Proofs.YtgmggompdidcoaaGreatDoor.X
