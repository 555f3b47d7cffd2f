import Derived.Test.YtgmggompdidcoaaGreatDoorMPbtensorWrites2
import Derived.Test.YtgmggompdidcoaaGreatDoorMPbtensorWrites6
import Derived.Test.YtgmggompdidcoaaGreatDoorMPbtensorWrites8
import Derived.Test.YtgmggompdidcoaaGreatDoorMPbtensorWrites7
import Derived.Test.YtgmggompdidcoaaGreatDoorMPbtensorWrites5
import Derived.Test.YtgmggompdidcoaaGreatDoorMPbtensorWrites3
namespace Go.Proofs.YtgmggompdidcoaaGreatDoor.X
open Go.RowKit Go.Proofs.YtgmggompdidcoaaGreatDoorW.PrintWords Go.Proofs.YtgmggompdidcoaaGreatDoorW.PrintLast Go.Proofs.YtgmggompdidcoaaGreatDoorW.PrintMore
attribute [local go_sem] max2_int min2_int max_two min_two max_three min_three max_four min_four
set_option linter.unusedVariables false
set_option linter.unusedSimpArgs false
def tensor_Tensor_Check_s.f (a0_0 : ByteArray) (a0_1 : Int) (l0_2 : List Int) (a0_3 : ByteArray) : Option Int := if a0_0.size ≤ 140737488351232 ∧ a0_3.size ≤ 140737488351232 then some (chkR a0_0 a0_1 l0_2 a0_3) else none
theorem elem_at (name : ByteArray) (kind : Int) (dims : List Int) (data : ByteArray) (i q : Nat) (hq : sizeK kind = (q : Int)) (hq0 : 0 < q) (hd : data.size ≤ 140737488351232) (hi : (i + 1) * q ≤ data.size) :
    tensor_Tensor_Elem.f name kind dims data (i : Int) = some (data.extract (i * q) (i * q + q)) := by
  have hm : (i + 1) * q = i * q + q := Nat.succ_mul i q
  obtain ⟨m, hmq⟩ : ∃ m, m = data.size / q := ⟨_, rfl⟩
  have hml : m ≤ data.size := by rw [hmq]; exact Nat.div_le_self _ _
  have e1 : wrap64 ((data.size : Int) / (q : Int)) = (m : Int) := by
    rw [show ((data.size : Int) / (q : Int)) = (m : Int) by rw [hmq]; rfl]
    exact wrap64_id (by omega) (by omega)
  have e2 : wrap64 ((i : Int) * (q : Int)) = ((i * q : Nat) : Int) := by
    rw [show ((i : Int) * (q : Int)) = ((i * q : Nat) : Int) by simp]
    exact wrap64_id (by omega) (by omega)
  have e3 : wrap64 (((i * q : Nat) : Int) + (q : Int)) = ((i * q + q : Nat) : Int) := by
    rw [show (((i * q : Nat) : Int) + (q : Int)) = ((i * q + q : Nat) : Int) by omega]
    exact wrap64_id (by omega) (by omega)
  have hdiv : i < m := by rw [hmq]; exact (Nat.le_div_iff_mul_le hq0).2 hi
  unfold tensor_Tensor_Elem.f
  rw [show kind_Kind_Size.f kind = some (sizeK kind) from rfl, Option.bind_some, hq, if_neg (by omega), if_neg (by omega), e1, if_neg (by omega), e2, e3, if_pos (by omega), if_pos (by omega), if_pos (by omega), Int.toNat_natCast, Int.toNat_natCast]
theorem okAt_value (name : ByteArray) (kind : Int) (dims : List Int) (data : ByteArray) (i q : Nat) (hq : sizeK kind = (q : Int)) (hq0 : 0 < q) (hi : (i + 1) * q ≤ data.size) :
    tensor_Tensor_value.f name kind dims data (data.extract (i * q) (i * q + q)) = some (okAt kind data i) := by
  have hm : (i + 1) * q = i * q + q := Nat.succ_mul i q
  unfold tensor_Tensor_value.f okAt
  by_cases h9 : kind = 9
  · subst h9
    obtain rfl : q = 1 := by have : sizeK 9 = 1 := rfl; omega
    rw [if_pos rfl, if_pos rfl, if_pos (by rw [ByteArray.size_extract]; omega)]
    have := bt_extract data (i * 1) (i * 1 + 1) 0 (by omega) (by omega)
    rw [Nat.add_zero, Nat.mul_one] at this
    rw [Nat.mul_one]
    rw [show ((0 : Nat) : Int) = 0 from rfl] at this
    rw [this]; rfl
  · rw [if_neg h9, if_neg h9]
    by_cases h14 : kind = 14
    · subst h14
      obtain rfl : q = 8 := by have : sizeK 14 = 8 := rfl; omega
      rw [if_pos rfl, if_pos rfl, Nat.mul_comm]
    · rw [if_neg h14, if_neg h14]
theorem tensor_Check_eval (name : ByteArray) (kind : Int) (dims : List Int) (data : ByteArray) (n q : Nat) (hq : sizeK kind = (q : Int)) (hq0 : 0 < q) (hd : data.size ≤ 140737488351232) (hn : data.size = n * q) (d : Nat) : ∀ (k i : Nat), n - i = d → i ≤ n → d < k →
    tensor_Tensor_Check.l0 k (n : Int) (i : Int) name kind dims data = some (if ((List.range n).drop i).all (okAt kind data) = true then 0 else 17) := by
  have hnle : n ≤ data.size := by rw [hn]; exact Nat.le_mul_of_pos_right n hq0
  induction d with
  | zero =>
    intro k i hdd hi hk
    obtain ⟨k, rfl⟩ : ∃ m, k = m + 1 := ⟨k - 1, by omega⟩
    simp only [tensor_Tensor_Check.l0]
    rw [if_neg (by omega), List.drop_of_length_le (by simp; omega)]; rfl
  | succ d ih =>
    intro k i hdd hi hk
    obtain ⟨k, rfl⟩ : ∃ m, k = m + 1 := ⟨k - 1, by omega⟩
    have hlt : i < n := by omega
    have hi2 : (i + 1) * q ≤ data.size := by rw [hn]; exact Nat.mul_le_mul_right q hlt
    simp only [tensor_Tensor_Check.l0]
    rw [if_pos (by omega), elem_at name kind dims data i q hq hq0 hd hi2, Option.bind_some, okAt_value name kind dims data i q hq hq0 hi2, Option.bind_some, all_from _ n i hlt]
    cases okAt kind data i with
    | false => rfl
    | true =>
      rw [if_pos rfl, Bool.true_and, wrap64_id (by omega) (by omega)]
      exact ih k (i + 1) (by omega) (by omega) (by omega)
theorem tensor_Tensor_Check_s.ev (a0_0 : ByteArray) (a0_1 : Int) (l0_2 : List Int) (a0_3 : ByteArray) (r) (h : tensor_Tensor_Check_s.f a0_0 a0_1 l0_2 a0_3 = some r) : ∃ k, tensor_Tensor_Check.f k a0_0 a0_1 l0_2 a0_3 = some r := by
  unfold tensor_Tensor_Check_s.f at h
  split at h
  case isFalse => cases h
  rename_i hs
  rw [← Option.some.inj h]
  unfold chkR tensor_Tensor_Check.f tensor_Name_s.f
  rw [if_pos hs.1]
  simp only [Option.bind_some, show kind_Kind_Size.f a0_1 = some (sizeK a0_1) from rfl, show shape_Size_s.f l0_2 = some (sizeS l0_2) from rfl]
  by_cases hn : nameR a0_0 = true
  case neg => exact ⟨0, by rw [if_neg hn, if_neg hn]⟩
  rw [if_pos hn]
  by_cases hk : sizeK a0_1 = 0
  · exact ⟨0, by rw [if_pos hn, if_pos hk, if_pos hk]⟩
  rw [if_neg hk]
  by_cases hz : (sizeS l0_2).2 = 0
  case neg => exact ⟨0, by rw [if_pos hn, if_neg hk, if_neg hz, if_neg hz]⟩
  rw [if_pos hz]
  have hb := sizeS_bound hz
  obtain ⟨q, hq⟩ := Int.eq_ofNat_of_zero_le (show 0 ≤ sizeK a0_1 by rcases sizeK_cases a0_1 with h | h | h | h <;> omega)
  have hq8 : 0 < q ∧ q ≤ 8 := by rcases sizeK_cases a0_1 with h | h | h | h <;> omega
  obtain ⟨n, hn2⟩ := Int.eq_ofNat_of_zero_le hb.1
  have hle : n * q ≤ 65536 * 8 := Nat.mul_le_mul (by omega) hq8.2
  have hw : wrap64 ((sizeS l0_2).1 * sizeK a0_1) = (sizeS l0_2).1 * sizeK a0_1 := by
    rw [hq, hn2, show ((n : Int) * (q : Int)) = ((n * q : Nat) : Int) by simp]
    exact wrap64_id (by omega) (by omega)
  by_cases hd : (a0_3.size : Int) = (sizeS l0_2).1 * sizeK a0_1
  case neg => exact ⟨0, by rw [if_pos hn, if_neg hk, if_pos hz, hw, if_neg hd, if_neg hd]⟩
  have hd2 : a0_3.size = n * q := by rw [hq, hn2] at hd; exact_mod_cast hd
  have := tensor_Check_eval a0_0 a0_1 l0_2 a0_3 n q hq hq8.1 hs.2 hd2 n (n + 1) 0 (by omega) (by omega) (by omega)
  rw [List.drop_zero] at this
  refine ⟨n + 1, ?_⟩
  rw [if_pos hn, if_neg hk, if_pos hz, hw, if_pos hd, if_pos hd, hn2, Int.toNat_natCast]
  exact this
set_option maxHeartbeats 1000000 in
theorem tensor_Tensor_Check_s.calls (a0_0 : ByteArray) (a0_1 : Int) (A0_2 : Option Addr) (c0_2 : Nat) (l0_2 : List Int) (a0_3 : ByteArray) (r : Int) (w : World) (hr0_2 : Kd.C (Kd.int .i64) w A0_2 l0_2.length l0_2) (hc0_2 : l0_2.length ≤ c0_2) (h : tensor_Tensor_Check_s.f a0_0 a0_1 l0_2 a0_3 = some r) :
    Calls Tryz.prog 34 #[.agg #[.string a0_0, .int .i64 a0_1, .slice A0_2 l0_2.length c0_2, .string a0_3]] w fun e w' => e = .returned (.int .i64 r) ∧ Below w.heap.size w w' := by
  obtain ⟨k, hk⟩ := tensor_Tensor_Check_s.ev a0_0 a0_1 l0_2 a0_3 _ h
  exact tensor_Tensor_Check.calls k a0_0 a0_1 A0_2 c0_2 l0_2 a0_3 r w hr0_2 hc0_2 hk
def wire_Number.f (a0 : Int) (a1 : Int) : Option (ByteArray) := (wire_Field_Bytes_s.f a0 0 a1 (⟨#[]⟩ : ByteArray)).bind fun t101 => (some t101)
set_option maxHeartbeats 8000000 in
set_option maxRecDepth 100000 in
theorem wire_Number.calls (a0 : Int) (a1 : Int) (r : ByteArray) (w : World) (h : wire_Number.f a0 a1 = some r) :
    Calls Tryz.prog 36 #[.int .i64 a0, .int .u64 a1] w fun e w' => e = .returned (.string r) ∧ Below w.heap.size w w' := by
  have hu95 := Tryz.underlying95; have HB := mk0 (Below.refl w.heap.size w); have H : ((wire_Field_Bytes_s.f a0 0 a1 (⟨#[]⟩ : ByteArray)).bind fun t101 => (some t101)) = some r := h; clear h; replace H := bnd H; obtain ⟨t101, A3, H⟩ := H; obtain rfl := Option.some.inj H
  go_enter Tryz.func36, Tryz.ntmps36
  go_wp2_with (first | ((with_reducible refine gate_callee (f := 74) rfl ?_); refine glE (some 8) rfl rfl Tryz.func74 (by kernel_rfl) rfl #[.agg #[.int .i64 a0, .int .i64 0, .int .u64 a1, .string (⟨#[]⟩ : ByteArray)]] rfl ?_; (with_reducible refine (wire_Field_Bytes_s.calls a0 0 a1 (⟨#[]⟩ : ByteArray) t101 _ A3.out).mono ?_); rintro e w4 ⟨rfl, hb⟩; refine ⟨_, rfl, ?_⟩; replace HB := mk0 (below_step (hbA HB) hb); (try clear hb)))
  go_ret
  exact ⟨cl3, hbA HB⟩
def wire_Number_s.f (a0 a1 : Int) : Option ByteArray := wire_Field_Bytes_s.f a0 0 a1 ⟨#[]⟩
theorem wire_Number_s.ev (a0 a1 : Int) (r) (h : wire_Number_s.f a0 a1 = some r) : ∃ k : Nat, wire_Number.f a0 a1 = some r := by
  unfold wire_Number_s.f at h
  exact ⟨0, by unfold wire_Number.f; rw [h]; rfl⟩
set_option maxHeartbeats 1000000 in
theorem wire_Number_s.calls (a0 : Int) (a1 : Int) (r : ByteArray) (w : World) (h : wire_Number_s.f a0 a1 = some r) :
    Calls Tryz.prog 36 #[.int .i64 a0, .int .u64 a1] w fun e w' => e = .returned (.string r) ∧ Below w.heap.size w w' := by
  obtain ⟨k, hk⟩ := wire_Number_s.ev a0 a1 _ h
  exact wire_Number.calls a0 a1 r w hk
def pbtensor_Put.f (a0_0 : ByteArray) (a0_1 : Int) (l0_2 : List Int) (a0_3 : ByteArray) : Option (ByteArray × Int) := (tensor_Tensor_Check_s.f a0_0 a0_1 l0_2 a0_3).bind fun t102 => (if t102 = 0 then ((pack_Put.f 1 l0_2).bind fun t103 => ((wire_Number_s.f 2 (IntKind.u64.wrap (a0_1))).bind fun t104 => (if t103.size + t104.size ≤ 9223372036854775807 then ((wire_Text_s.f 8 a0_0).bind fun t105 => (if (t103 ++ t104).size + t105.size ≤ 9223372036854775807 then ((wire_Text_s.f 9 a0_3).bind fun t106 => (if ((t103 ++ t104) ++ t105).size + t106.size ≤ 9223372036854775807 then (some (((t103 ++ t104) ++ t105) ++ t106, 0)) else (none))) else (none))) else (none)))) else (some ((⟨#[]⟩ : ByteArray), t102)))
def pbtensor_Put.T4 : Bool × List (List Nat × List Nat) := (true, [([], []), ([0], [0]), ([1], [1]), ([], []), ([3], [3]), ([4], [4]), ([5, 2], [5]), ([2, 6], [2, 6]), ([], []), ([8], [8]), ([9, 6], [9]), ([7, 10], [7, 10]), ([], []), ([12], [12]), ([13, 10], [13]), ([11, 14], [11, 14]), ([15, 14, 0, 1, 2, 3, 4, 5, 6, 7, 8, 9, 10, 11, 12, 13, 14, 15], [15]), ([16, 0, 1, 2, 3, 4, 5, 6, 7, 8, 9, 10, 11, 12, 13, 14, 15, 16], [])])
def pbtensor_Put.B4 : List Nat := [0, 1, 3, 0, 8, 24, 63, 127, 0, 256, 895, 2047, 0, 4096, 14207, 32767, 65535, 131071]
theorem pbtensor_Put.tab4 : rtab .any (opsOf Tryz.f12 4) = pbtensor_Put.T4 := by kernel_rfl
theorem pbtensor_Put.bits4 : waitsOk pbtensor_Put.T4.2 pbtensor_Put.B4 = true := by kernel_rfl
set_option maxHeartbeats 8000000 in
set_option maxRecDepth 100000 in
theorem pbtensor_Put.calls (a0_0 : ByteArray) (a0_1 : Int) (A0_2 : Option Addr) (c0_2 : Nat) (l0_2 : List Int) (a0_3 : ByteArray) (r1 : ByteArray) (r2 : Int) (w : World) (hr0_2 : Kd.C (Kd.int .i64) w A0_2 l0_2.length l0_2) (hc0_2 : l0_2.length ≤ c0_2) (h : pbtensor_Put.f a0_0 a0_1 l0_2 a0_3 = some (r1, r2)) :
  Calls Tryz.prog 12 #[.agg #[.string a0_0, .int .i64 a0_1, .slice A0_2 l0_2.length c0_2, .string a0_3]] w fun e w' => e = .returned (.tuple #[.string r1, .int .i64 r2]) ∧ Below w.heap.size w w' := by
 have hu33 := Tryz.underlying33; have HR0_2 := mk0 hr0_2; have HC0_2 := mk0 hc0_2; clear hr0_2 hc0_2; have HB := mk0 (Below.refl w.heap.size w); have H : ((tensor_Tensor_Check_s.f a0_0 a0_1 l0_2 a0_3).bind fun t102 => (if t102 = 0 then ((pack_Put.f 1 l0_2).bind fun t103 => ((wire_Number_s.f 2 (IntKind.u64.wrap (a0_1))).bind fun t104 => (if t103.size + t104.size ≤ 9223372036854775807 then ((wire_Text_s.f 8 a0_0).bind fun t105 => (if (t103 ++ t104).size + t105.size ≤ 9223372036854775807 then ((wire_Text_s.f 9 a0_3).bind fun t106 => (if ((t103 ++ t104) ++ t105).size + t106.size ≤ 9223372036854775807 then (some (((t103 ++ t104) ++ t105) ++ t106, 0)) else (none))) else (none))) else (none)))) else (some ((⟨#[]⟩ : ByteArray), t102)))) = some (r1, r2) := h; clear h; replace H := bnd H; obtain ⟨t102, A2, H⟩ := H
 by_cases c3 : t102 = 0
 ·
  rw [if_pos c3] at H; have c3b0 := beq_iff_eq.mpr c3; have c3b1 := bne_eq_false_iff_eq.mpr c3; clear c3; replace H := bnd H; obtain ⟨t103, A4, H⟩ := H; replace H := bnd H; obtain ⟨t104, A5, H⟩ := H; replace H := ifS H; obtain ⟨c6, H⟩ := H; have c6b0 := eq_true c6; have c6b1 := decide_eq_true c6; try have c6b2 := eq_false (Nat.not_lt.2 c6)
  try have c6b3 := c6b2
  try simp only [ByteArray.size_append] at c6b3
  replace H := bnd H; obtain ⟨t105, A7, H⟩ := H; replace H := ifS H; obtain ⟨c8, H⟩ := H; have c8b0 := eq_true c8; have c8b1 := decide_eq_true c8; try have c8b2 := eq_false (Nat.not_lt.2 c8)
  try have c8b3 := c8b2
  try simp only [ByteArray.size_append] at c8b3
  replace H := bnd H; obtain ⟨t106, A9, H⟩ := H; replace H := ifS H; obtain ⟨c10, H⟩ := H; have c10b0 := eq_true c10; have c10b1 := decide_eq_true c10; try have c10b2 := eq_false (Nat.not_lt.2 c10)
  try have c10b3 := c10b2
  try simp only [ByteArray.size_append] at c10b3
  simp only [Option.some.injEq, Prod.mk.injEq] at H
  obtain ⟨rfl, rfl⟩ := H
  go_enter Tryz.func12, Tryz.ntmps12
  try go_wp2_with (first | ((with_reducible refine gate_dst (N := 1) rfl ?_); refine boxE (N := 1) (cs := #[.string a0_0, .int .i64 a0_1, .slice A0_2 l0_2.length c0_2, .string a0_3]) (t := 33) ?_; intro gb101 hg w11 hbox hb; have BK101 := mk0 hbox; have GW101 := gwS HB hg; have GE101 := gwS HB hg; replace HB := hbS HB hb; clear hb hbox hg; obtain ⟨hcz12_0, hcz12_1, hcz12_2, hcz12_3⟩ := cz4 BK101; have hfz12_0 := fz BK101 0; have hfz12_1 := fz BK101 1; have hfz12_2 := fz BK101 2; have hfz12_3 := fz BK101 3) | ((with_reducible refine gate_callee (f := 34) rfl ?_); refine glE (some 6) rfl rfl Tryz.func34 (by kernel_rfl) rfl #[.agg #[.string a0_0, .int .i64 a0_1, .slice A0_2 l0_2.length c0_2, .string a0_3]] rfl ?_; (with_reducible refine (tensor_Tensor_Check_s.calls a0_0 a0_1 _ _ l0_2 a0_3 t102 _ ?side1 ?side2 A2.out).mono ?_); (case side1 => repeat (first | exact (Kd.C_below HR0_2.out HB.out) | (with_reducible refine Kd.C_alloc ?_ _) | (with_reducible refine Kd.C_drewN ?_ _) | (with_reducible refine Kd.C_drew ?_))); (case side2 => exact HC0_2.out); rintro e w13 ⟨rfl, hb⟩; refine ⟨_, rfl, ?_⟩; replace BK101 := bkS BK101 hb; replace HB := hbS HB hb; (try clear hb))); replace BK101 := mk0 (blk_drew BK101.out); replace HB := mk0 (below_drew1 HB.out)
  refine start_ (n := 18) (S := fun w' => w'.cell? ⟨gb101, 0, none⟩ = some (.string a0_0) ∧ w'.cell? ⟨gb101, 1, none⟩ = some (.int .i64 a0_1) ∧ w'.cell? ⟨gb101, 2, none⟩ = some (.slice A0_2 l0_2.length c0_2) ∧ w'.cell? ⟨gb101, 3, none⟩ = some (.string a0_3)) (ds := []) (bA 18 0) (by kernel_rfl) rfl rfl ⟨bcA BK101 0, bcA BK101 1, bcA BK101 2, bcA BK101 3⟩ (fun hHeld => ?_); refine with_tabW pbtensor_Put.tab4 pbtensor_Put.bits4 (fun HT_ HW_ => ?_)
  generalize w13.drew = w14 at BK101 HB hHeld ⊢
  refine puE (i := 0) (N := some 10) (bA 18 1) HT_ ?_
  refine puE (i := 3) (N := some 13) (bA 18 9) HT_ ?_
  refine puE (i := 8) (N := some 18) (bA 18 265) HT_ ?_
  refine puE (i := 12) (N := some 22) (bA 18 4361) HT_ ?_
  refine taE (i := 1) (N := some 11) (bA 18 4363) HT_ HW_ hHeld ?_
  refine taE (i := 4) (N := some 14) (bA 18 4379) HT_ HW_ hHeld ?_
  refine puE (i := 5) (N := some 15) (bA 18 4411) HT_ ?_
  refine taE (i := 9) (N := some 19) (bA 18 4923) HT_ HW_ hHeld ?_
  refine taE (i := 13) (N := some 23) (bA 18 13115) HT_ HW_ hHeld ?_
  refine one_ (i := 2) (N := some 12) (bA 18 13119) rfl rfl (one_of HT_.out (by kernel_rfl)) (by decide) (fun K hK => ?_)
  refine goE Tryz.func35 (by kernel_rfl) rfl #[.int .i64 1, .slice A0_2 l0_2.length c0_2] (by rfl) rfl rfl ?_
  with_reducible refine (pack_Put.calls 1 _ _ l0_2 t103 _ ?side1 ?side2 A4.out).mono ?_
  (case side1 => repeat (first | exact (Kd.C_below HR0_2.out HB.out) | (with_reducible refine Kd.C_alloc ?_ _) | (with_reducible refine Kd.C_drewN ?_ _) | (with_reducible refine Kd.C_drew ?_)))
  (case side2 => exact HC0_2.out)
  rintro e w15 ⟨rfl, hb⟩
  refine ⟨_, rfl, ?_⟩
  replace BK101 := bkS BK101 hb; replace HB := hbS HB hb; try clear hb
  refine hK.out _ _ ⟨bcA BK101 0, bcA BK101 1, bcA BK101 2, bcA BK101 3⟩ (fun hHeld => ?_)
  clear hK K
  refine noE 12 ?_
  refine one_ (i := 6) (N := some 16) (bA 18 13183) rfl rfl (one_of HT_.out (by kernel_rfl)) (by decide) (fun K hK => ?_)
  refine goE Tryz.func36 (by kernel_rfl) rfl #[.int .i64 2, .int .u64 (IntKind.u64.wrap (a0_1))] (by rfl) rfl rfl ?_
  with_reducible refine (wire_Number_s.calls 2 (IntKind.u64.wrap (a0_1)) t104 _ A5.out).mono ?_
  rintro e w16 ⟨rfl, hb⟩
  refine ⟨_, rfl, ?_⟩
  replace BK101 := bkS BK101 hb; replace HB := hbS HB hb; try clear hb
  refine hK.out _ _ ⟨bcA BK101 0, bcA BK101 1, bcA BK101 2, bcA BK101 3⟩ (fun hHeld => ?_)
  clear hK K
  refine noE 16 ?_
  refine puE (i := 7) (N := some 17) (bA 18 13311) HT_ ?_
  refine one_ (i := 10) (N := some 20) (bA 18 14335) rfl rfl (one_of HT_.out (by kernel_rfl)) (by decide) (fun K hK => ?_)
  refine goE Tryz.func37 (by kernel_rfl) rfl #[.int .i64 8, .string a0_0] (by rfl) rfl rfl ?_
  with_reducible refine (wire_Text_s.calls 8 a0_0 t105 _ A7.out).mono ?_
  rintro e w17 ⟨rfl, hb⟩
  refine ⟨_, rfl, ?_⟩
  replace BK101 := bkS BK101 hb; replace HB := hbS HB hb; try clear hb
  refine hK.out _ _ ⟨bcA BK101 0, bcA BK101 1, bcA BK101 2, bcA BK101 3⟩ (fun hHeld => ?_)
  clear hK K
  refine noE 20 ?_
  refine puE (i := 11) (N := some 21) (bA 18 16383) HT_ ?_
  refine one_ (i := 14) (N := some 24) (bA 18 32767) rfl rfl (one_of HT_.out (by kernel_rfl)) (by decide) (fun K hK => ?_)
  refine goE Tryz.func37 (by kernel_rfl) rfl #[.int .i64 9, .string a0_3] (by rfl) rfl rfl ?_
  with_reducible refine (wire_Text_s.calls 9 a0_3 t106 _ A9.out).mono ?_
  rintro e w18 ⟨rfl, hb⟩
  refine ⟨_, rfl, ?_⟩
  replace BK101 := bkS BK101 hb; replace HB := hbS HB hb; try clear hb
  refine hK.out _ _ ⟨bcA BK101 0, bcA BK101 1, bcA BK101 2, bcA BK101 3⟩ (fun hHeld => ?_)
  clear hK K
  refine noE 24 ?_
  refine puE (i := 15) (N := some 25) (bA 18 65535) HT_ ?_
  refine puE (i := 16) (N := some 2) (bA 18 131071) HT_ ?_
  refine puE (i := 17) (N := some 3) (bA 18 262143) HT_ ?_
  refine done_ (done_of HT_.out (by kernel_rfl)) ?_
  try go_wp2
  go_ret2
  exact ⟨cl3, hbA HB⟩
 ·
  rw [if_neg c3] at H; have c3b0 := beq_eq_false_iff_ne.mpr c3; have c3b1 := bne_iff_ne.mpr c3
  simp only [Option.some.injEq, Prod.mk.injEq] at H
  obtain ⟨rfl, rfl⟩ := H
  go_enter Tryz.func12, Tryz.ntmps12
  go_wp2_with (first | ((with_reducible refine gate_dst (N := 1) rfl ?_); refine boxE (N := 1) (cs := #[.string a0_0, .int .i64 a0_1, .slice A0_2 l0_2.length c0_2, .string a0_3]) (t := 33) ?_; intro gb101 hg w19 hbox hb; have BK101 := mk0 hbox; have GW101 := gwS HB hg; have GE101 := gwS HB hg; replace HB := hbS HB hb; clear hb hbox hg; obtain ⟨hcz20_0, hcz20_1, hcz20_2, hcz20_3⟩ := cz4 BK101; have hfz20_0 := fz BK101 0; have hfz20_1 := fz BK101 1; have hfz20_2 := fz BK101 2; have hfz20_3 := fz BK101 3) | ((with_reducible refine gate_callee (f := 34) rfl ?_); refine glE (some 6) rfl rfl Tryz.func34 (by kernel_rfl) rfl #[.agg #[.string a0_0, .int .i64 a0_1, .slice A0_2 l0_2.length c0_2, .string a0_3]] rfl ?_; (with_reducible refine (tensor_Tensor_Check_s.calls a0_0 a0_1 _ _ l0_2 a0_3 t102 _ ?side1 ?side2 A2.out).mono ?_); (case side1 => repeat (first | exact (Kd.C_below HR0_2.out HB.out) | (with_reducible refine Kd.C_alloc ?_ _) | (with_reducible refine Kd.C_drewN ?_ _) | (with_reducible refine Kd.C_drew ?_))); (case side2 => exact HC0_2.out); rintro e w21 ⟨rfl, hb⟩; refine ⟨_, rfl, ?_⟩; replace BK101 := bkS BK101 hb; replace HB := hbS HB hb; (try clear hb)))
  go_ret2
  exact ⟨cl3, hbA HB⟩
def agateref04_Size.j0 : Nat → Int → Bool → Option (Int)
  | 0, _, _ => none
  | k + 1, x3, x6 => if x6 = true then (some 1) else (if x3 = 7 then (some 8) else (if x3 = 14 then (some 8) else (some 0)))
def agateref04_Size.f (k : Nat) (a0 : Int) : Option (Int) := if a0 = 1 then (some 4) else (if a0 = 2 then (agateref04_Size.j0 k a0 (a0 == 2)) else (agateref04_Size.j0 k a0 (a0 == 9)))
set_option maxHeartbeats 8000000 in
set_option maxRecDepth 100000 in
theorem agateref04_Size.calls (k : Nat) (a0 : Int) (r : Int) (w : World) (h : agateref04_Size.f k a0 = some r) :
    Calls Tryz.prog 29 #[.int .i64 a0] w fun e w' => e = .returned (.int .i64 r) ∧ Drawn0 w w' := by
  have H : (if a0 = 1 then (some 4) else (if a0 = 2 then (agateref04_Size.j0 k a0 (a0 == 2)) else (agateref04_Size.j0 k a0 (a0 == 9)))) = some r := h; clear h
  by_cases c2 : a0 = 1
  · rw [if_pos c2] at H
    have c2b0 := beq_iff_eq.mpr c2; have c2b1 := bne_eq_false_iff_eq.mpr c2; clear c2; obtain rfl := Option.some.inj H
    go_enter Tryz.func29, Tryz.ntmps29
    go_wp2
    go_ret
    exact ⟨by first | rfl | (simp; done) | (simp [*]; done), by repeat (first | exact Drawn0.refl _ | apply Drawn0.step)⟩
  · rw [if_neg c2] at H
    have c2b0 := beq_eq_false_iff_ne.mpr c2; have c2b1 := bne_iff_ne.mpr c2; have HC3 := mk0 H; clear H
    go_enter Tryz.func29, Tryz.ntmps29
    go_upto_if 6 with (fail)
    go_cut [6] (fun v6 wc => ∃ (kq : Nat) (x6_2 : Bool), v6 = .bool x6_2 ∧ Aside0 (agateref04_Size.j0 kq a0 x6_2 = some r) ∧ Aside0 (kq ≤ k) ∧ Drawn0 w wc)
    case first =>
      have H := HC3.out; clear HC3
      by_cases c4 : a0 = 2
      · rw [if_pos c4] at H
        have c4b0 := beq_iff_eq.mpr c4; have c4b1 := bne_eq_false_iff_eq.mpr c4; clear c4
        (first | rw [c4b0] | (simp only [i64_w, i32_w]; rw [c4b0]) | skip)
        have H' := mk0 H; clear H
        go_wp2
        go_meet
        case rel => exact ⟨_, ((a0 == 2)), cl0, H', cl1, by repeat (first | exact Drawn0.refl _ | apply Drawn0.step)⟩
      · rw [if_neg c4] at H
        have c4b0 := beq_eq_false_iff_ne.mpr c4; have c4b1 := bne_iff_ne.mpr c4
        (first | rw [c4b0] | (simp only [i64_w, i32_w]; rw [c4b0]) | skip)
        have H' := mk0 H; clear H
        go_wp2
        go_meet
        case rel => exact ⟨_, ((a0 == 9)), cl0, H', cl1, by repeat (first | exact Drawn0.refl _ | apply Drawn0.step)⟩
    case rest =>
      clear HC3; try clear c2
      try clear c2b0
      try clear c2b1
      obtain ⟨kq, x6_2, rfl, HA, HJ2, ⟨mc2, rfl⟩⟩ := hcut
      cases kq with
      | zero => exact absurd HA.out (by simp [agateref04_Size.j0])
      | succ kj2 =>
        have H := HA.out; clear HA
        simp only [agateref04_Size.j0] at H
        by_cases c5 : x6_2 = true
        · subst c5
          have H1 : (some 1) = some r := by rw [if_pos rfl] at H; exact H
          clear H; have H := H1; clear H1; obtain rfl := Option.some.inj H
          go_wp2
          go_ret
          exact ⟨by first | rfl | (simp; done) | (simp [*]; done), by repeat (first | exact Drawn0.refl _ | apply Drawn0.step)⟩
        · replace c5 := Bool.eq_false_iff.mpr c5
          subst c5; have H1 : (if a0 = 7 then (some 8) else (if a0 = 14 then (some 8) else (some 0))) = some r := by rw [if_neg (show ¬ (false = true) by decide)] at H; exact H
          clear H; have H := H1; clear H1
          by_cases c6 : a0 = 7
          · rw [if_pos c6] at H
            have c6b0 := beq_iff_eq.mpr c6; have c6b1 := bne_eq_false_iff_eq.mpr c6; clear c6; obtain rfl := Option.some.inj H
            go_wp2
            go_ret
            exact ⟨by first | rfl | (simp; done) | (simp [*]; done), by repeat (first | exact Drawn0.refl _ | apply Drawn0.step)⟩
          · rw [if_neg c6] at H
            have c6b0 := beq_eq_false_iff_ne.mpr c6; have c6b1 := bne_iff_ne.mpr c6
            by_cases c7 : a0 = 14
            · rw [if_pos c7] at H
              have c7b0 := beq_iff_eq.mpr c7; have c7b1 := bne_eq_false_iff_eq.mpr c7; clear c7; obtain rfl := Option.some.inj H
              go_wp2
              go_ret
              exact ⟨by first | rfl | (simp; done) | (simp [*]; done), by repeat (first | exact Drawn0.refl _ | apply Drawn0.step)⟩
            · rw [if_neg c7] at H
              have c7b0 := beq_eq_false_iff_ne.mpr c7; have c7b1 := bne_iff_ne.mpr c7; obtain rfl := Option.some.inj H
              go_wp2
              go_ret
              exact ⟨by first | rfl | (simp; done) | (simp [*]; done), by repeat (first | exact Drawn0.refl _ | apply Drawn0.step)⟩
def agateref04_Size_s.f (a0 : Int) : Option Int := some (sizeK a0)
theorem agateref04_Size_s.ev (a0 : Int) (r) (h : agateref04_Size_s.f a0 = some r) : ∃ k, agateref04_Size.f k a0 = some r := by
  refine ⟨1, ?_⟩
  rw [← h]
  unfold agateref04_Size_s.f agateref04_Size.f sizeK
  by_cases h1 : a0 = 1
  · rw [if_pos h1, if_pos h1]
  rw [if_neg h1, if_neg h1]
  by_cases h2 : a0 = 2
  · subst h2; rfl
  rw [if_neg h2, if_neg h2]
  simp only [agateref04_Size.j0]
  by_cases h9 : a0 = 9
  · subst h9; rfl
  rw [if_neg (by simpa using h9), if_neg h9]
  by_cases h7 : a0 = 7
  · rw [if_pos h7, if_pos h7]
  rw [if_neg h7, if_neg h7]
  by_cases h14 : a0 = 14
  · rw [if_pos h14, if_pos h14]
  rw [if_neg h14, if_neg h14]
set_option maxHeartbeats 1000000 in
theorem agateref04_Size_s.calls (a0 : Int) (r : Int) (w : World) (h : agateref04_Size_s.f a0 = some r) :
    Calls Tryz.prog 29 #[.int .i64 a0] w fun e w' => e = .returned (.int .i64 r) ∧ Drawn0 w w' := by
  obtain ⟨k, hk⟩ := agateref04_Size_s.ev a0 _ h
  exact agateref04_Size.calls k a0 r w hk
end Go.Proofs.YtgmggompdidcoaaGreatDoor.X
namespace Go.Proofs.YtgmggompdidcoaaGreatDoor.X
open Go.RowKit Go.Proofs.YtgmggompdidcoaaGreatDoorW.PrintWords Go.Proofs.YtgmggompdidcoaaGreatDoorW.PrintLast Go.Proofs.YtgmggompdidcoaaGreatDoorW.PrintMore
attribute [local go_sem] max2_int min2_int max_two min_two max_three min_three max_four min_four
set_option linter.unusedVariables false
set_option linter.unusedSimpArgs false
mutual
def agateref05_Size.l0 : Nat → List Int → Bool → Bool → Int → Option (Int × Int)
 | 0, _, _, _, _ => none
 | k + 1, x0, x4, x5, x6 => if x6 < (x0.length : Int) then (if 0 ≤ x6 then (if (rd x0 x6) < 0 then (some (0, 6)) else (if x4 = true then (if x5 = true then (agateref05_Size.l0 k x0 true true (wrap64 (x6 + 1))) else (agateref05_Size.l0 k x0 true ((rd x0 x6) == 0) (wrap64 (x6 + 1)))) else (if x5 = true then (agateref05_Size.l0 k x0 (decide ((rd x0 x6) > 65536)) true (wrap64 (x6 + 1))) else (agateref05_Size.l0 k x0 (decide ((rd x0 x6) > 65536)) ((rd x0 x6) == 0) (wrap64 (x6 + 1)))))) else (none)) else (if x4 = true then (some (0, 7)) else (agateref05_Size.l1 k x0 x5 1 0))
def agateref05_Size.l1 : Nat → List Int → Bool → Int → Int → Option (Int × Int)
 | 0, _, _, _, _ => none
 | k + 1, x0, x5, x7, x8 => if x8 < (x0.length : Int) then (agateref05_Size.j2 k x0 x5 x7 x8 (!x5)) else (agateref05_Size.j2 k x0 x5 x7 x8 false)
def agateref05_Size.j2 : Nat → List Int → Bool → Int → Int → Bool → Option (Int × Int)
 | 0, _, _, _, _, _ => none
 | k + 1, x0, x5, x7, x8, x47 => if x47 = true then (if 0 ≤ x8 then (if x8 < (x0.length : Int) then (if (wrap64 (x7 * (rd x0 x8))) > 65536 then (some (0, 7)) else (agateref05_Size.l1 k x0 x5 (wrap64 (x7 * (rd x0 x8))) (wrap64 (x8 + 1)))) else (none)) else (none)) else (if x5 = true then (some (0, 0)) else (some (x7, 0)))
end
def agateref05_Size.f (k : Nat) (l0 : List Int) : Option (Int × Int) := if (l0.length : Int) > 8 then (some (0, 6)) else (agateref05_Size.l0 k l0 false false 0)
set_option maxHeartbeats 8000000 in
set_option maxRecDepth 100000 in
theorem agateref05_Size.calls (k : Nat) (A0 : Option Addr) (c0 : Nat) (l0 : List Int) (r1 : Int) (r2 : Int) (w : World) (hr0 : Kd.C (Kd.int .i64) w A0 l0.length l0) (hc0 : l0.length ≤ c0) (h : agateref05_Size.f k l0 = some (r1, r2)) :
  Calls Tryz.prog 30 #[.slice A0 l0.length c0] w fun e w' => e = .returned (.tuple #[.int .i64 r1, .int .i64 r2]) ∧ Drawn0 w w' := by
 have HR0 := mk0 hr0; have HC0 := mk0 hc0; clear hr0 hc0; have H : (if (l0.length : Int) > 8 then (some (0, 6)) else (agateref05_Size.l0 k l0 false false 0)) = some (r1, r2) := h; clear h
 by_cases c2 : (l0.length : Int) > 8
 ·
  rw [if_pos c2] at H; have c2b0 := decide_eq_true c2; have c2b1 : decide (8 < l0.length) = true := decide_eq_true (by omega); clear c2
  simp only [Option.some.injEq, Prod.mk.injEq] at H
  obtain ⟨rfl, rfl⟩ := H
  go_enter Tryz.func30, Tryz.ntmps30
  go_wp2
  go_ret2
  exact ⟨by first | rfl | (simp; done) | (simp [*]; done), by repeat (first | exact Drawn0.refl _ | apply Drawn0.step)⟩
 ·
  rw [if_neg c2] at H; have c2b0 := decide_eq_false c2; have c2b1 : decide (8 < l0.length) = false := decide_eq_false (by omega); clear c2; have H' := mk0 H; clear H
  go_enter Tryz.func30, Tryz.ntmps30
  go_wp2
  go_loopg [4, 5, 6] k (fun kq v4 v5 v6 w' => ∃ (x4_1 : Bool) (x5_1 : Bool) (x6_1 : Int), v4 = .bool x4_1 ∧ v5 = .bool x5_1 ∧ v6 = .int .i64 x6_1 ∧ Aside0 (agateref05_Size.l0 kq l0 x4_1 x5_1 x6_1 = some (r1, r2)) ∧ Aside0 (kq ≤ k) ∧ Drawn0 w w')
  case atStart => exact ⟨(false), (false), (0), cl0, cl0, cl0, H', ⟨Nat.le_refl _⟩, by repeat (first | exact Drawn0.refl _ | apply Drawn0.step)⟩
  case round =>
   clear H'; try clear c2; try clear c2b0; try clear c2b1
   obtain ⟨x4_1, x5_1, x6_1, rfl, rfl, rfl, HA, HK1, ⟨m1, rfl⟩⟩ := hrel
   cases gk with
   | zero => exact absurd HA.out (by simp [agateref05_Size.l0])
   | succ k1 =>
    have H := HA.out; clear HA
    simp only [agateref05_Size.l0] at H
    by_cases c3 : x6_1 < (l0.length : Int)
    ·
     rw [if_pos c3] at H; have c3b0 := decide_eq_true c3; clear c3; replace H := ifS H; obtain ⟨c4, H⟩ := H; have c4b0 := decide_eq_true c4; clear c4
     by_cases c5 : (rd l0 x6_1) < 0
     ·
      rw [if_pos c5] at H; have c5b0 := decide_eq_true c5; clear c5
      simp only [Option.some.injEq, Prod.mk.injEq] at H
      obtain ⟨rfl, rfl⟩ := H; have p101 : 0 ≤ (x6_1 : Int) := ofd; have q101 : x6_1 < (l0.length : Int) := ofd; obtain ⟨ad101, e101, hx101_0⟩ := Kd.at_int HR0.out x6_1 p101 q101; cases e101; replace p101 := eq_true p101; replace q101 := eq_true q101
      go_wp2
      go_ret2
      exact ⟨by first | rfl | (simp; done) | (simp [*]; done), by repeat (first | exact Drawn0.refl _ | apply Drawn0.step)⟩
     ·
      rw [if_neg c5] at H; have c5b0 := decide_eq_false c5; clear c5
      by_cases c6 : x4_1 = true
      ·
       subst c6; have H1 : (if x5_1 = true then (agateref05_Size.l0 k1 l0 true true (wrap64 (x6_1 + 1))) else (agateref05_Size.l0 k1 l0 true ((rd l0 x6_1) == 0) (wrap64 (x6_1 + 1)))) = some (r1, r2) := by rw [if_pos rfl] at H; exact H
       clear H; have H := H1; clear H1
       by_cases c7 : x5_1 = true
       ·
        subst c7; have H1 : (agateref05_Size.l0 k1 l0 true true (wrap64 (x6_1 + 1))) = some (r1, r2) := by rw [if_pos rfl] at H; exact H
        clear H; have H := H1; clear H1; have H' := mk0 H; clear H; have p101 : 0 ≤ (x6_1 : Int) := ofd; have q101 : x6_1 < (l0.length : Int) := ofd; obtain ⟨ad101, e101, hx101_0⟩ := Kd.at_int HR0.out x6_1 p101 q101; cases e101; replace p101 := eq_true p101; replace q101 := eq_true q101
        go_wp2
        go_roundg k1
        case measure => have := HK1.out; omega
        case rel => exact ⟨(true), (true), (wrap64 (x6_1 + 1)), cl0, cl0, cl0, H', cl2 HK1, by repeat (first | exact Drawn0.refl _ | apply Drawn0.step)⟩
       ·
        replace c7 := Bool.eq_false_iff.mpr c7; subst c7; have H1 : (agateref05_Size.l0 k1 l0 true ((rd l0 x6_1) == 0) (wrap64 (x6_1 + 1))) = some (r1, r2) := by rw [if_neg (show ¬ (false = true) by decide)] at H; exact H
        clear H; have H := H1; clear H1; have H' := mk0 H; clear H; have p101 : 0 ≤ (x6_1 : Int) := ofd; have q101 : x6_1 < (l0.length : Int) := ofd; obtain ⟨ad101, e101, hx101_0⟩ := Kd.at_int HR0.out x6_1 p101 q101; cases e101; replace p101 := eq_true p101; replace q101 := eq_true q101; have p102 : 0 ≤ (x6_1 : Int) := ofd; have q102 : x6_1 < (l0.length : Int) := ofd; obtain ⟨ad102, e102, hx102_0⟩ := Kd.at_int HR0.out x6_1 p102 q102; obtain rfl : ad101 = ad102 := (by injection e102); replace p102 := eq_true p102; replace q102 := eq_true q102
        go_wp2
        go_roundg k1
        case measure => have := HK1.out; omega
        case rel => exact ⟨(true), (((rd l0 x6_1) == 0)), (wrap64 (x6_1 + 1)), cl0, cl0, cl0, H', cl2 HK1, by repeat (first | exact Drawn0.refl _ | apply Drawn0.step)⟩
      ·
       replace c6 := Bool.eq_false_iff.mpr c6; subst c6; have H1 : (if x5_1 = true then (agateref05_Size.l0 k1 l0 (decide ((rd l0 x6_1) > 65536)) true (wrap64 (x6_1 + 1))) else (agateref05_Size.l0 k1 l0 (decide ((rd l0 x6_1) > 65536)) ((rd l0 x6_1) == 0) (wrap64 (x6_1 + 1)))) = some (r1, r2) := by rw [if_neg (show ¬ (false = true) by decide)] at H; exact H
       clear H; have H := H1; clear H1
       by_cases c8 : x5_1 = true
       ·
        subst c8; have H1 : (agateref05_Size.l0 k1 l0 (decide ((rd l0 x6_1) > 65536)) true (wrap64 (x6_1 + 1))) = some (r1, r2) := by rw [if_pos rfl] at H; exact H
        clear H; have H := H1; clear H1; have H' := mk0 H; clear H; have p101 : 0 ≤ (x6_1 : Int) := ofd; have q101 : x6_1 < (l0.length : Int) := ofd; obtain ⟨ad101, e101, hx101_0⟩ := Kd.at_int HR0.out x6_1 p101 q101; cases e101; replace p101 := eq_true p101; replace q101 := eq_true q101; have p103 : 0 ≤ (x6_1 : Int) := ofd; have q103 : x6_1 < (l0.length : Int) := ofd; obtain ⟨ad103, e103, hx103_0⟩ := Kd.at_int HR0.out x6_1 p103 q103; obtain rfl : ad101 = ad103 := (by injection e103); replace p103 := eq_true p103; replace q103 := eq_true q103
        go_wp2
        go_roundg k1
        case measure => have := HK1.out; omega
        case rel => exact ⟨(decide ((rd l0 x6_1) > 65536)), (true), (wrap64 (x6_1 + 1)), cl0, cl0, cl0, H', cl2 HK1, by repeat (first | exact Drawn0.refl _ | apply Drawn0.step)⟩
       ·
        replace c8 := Bool.eq_false_iff.mpr c8; subst c8; have H1 : (agateref05_Size.l0 k1 l0 (decide ((rd l0 x6_1) > 65536)) ((rd l0 x6_1) == 0) (wrap64 (x6_1 + 1))) = some (r1, r2) := by rw [if_neg (show ¬ (false = true) by decide)] at H; exact H
        clear H; have H := H1; clear H1; have H' := mk0 H; clear H; have p101 : 0 ≤ (x6_1 : Int) := ofd; have q101 : x6_1 < (l0.length : Int) := ofd; obtain ⟨ad101, e101, hx101_0⟩ := Kd.at_int HR0.out x6_1 p101 q101; cases e101; replace p101 := eq_true p101; replace q101 := eq_true q101; have p103 : 0 ≤ (x6_1 : Int) := ofd; have q103 : x6_1 < (l0.length : Int) := ofd; obtain ⟨ad103, e103, hx103_0⟩ := Kd.at_int HR0.out x6_1 p103 q103; obtain rfl : ad101 = ad103 := (by injection e103); replace p103 := eq_true p103; replace q103 := eq_true q103; have p104 : 0 ≤ (x6_1 : Int) := ofd; have q104 : x6_1 < (l0.length : Int) := ofd; obtain ⟨ad104, e104, hx104_0⟩ := Kd.at_int HR0.out x6_1 p104 q104; obtain rfl : ad101 = ad104 := (by injection e104); replace p104 := eq_true p104; replace q104 := eq_true q104
        go_wp2
        go_roundg k1
        case measure => have := HK1.out; omega
        case rel => exact ⟨(decide ((rd l0 x6_1) > 65536)), (((rd l0 x6_1) == 0)), (wrap64 (x6_1 + 1)), cl0, cl0, cl0, H', cl2 HK1, by repeat (first | exact Drawn0.refl _ | apply Drawn0.step)⟩
    ·
     rw [if_neg c3] at H; have c3b0 := decide_eq_false c3; clear c3
     by_cases c9 : x4_1 = true
     ·
      subst c9; have H1 : (some (0, 7)) = some (r1, r2) := by rw [if_pos rfl] at H; exact H
      clear H; have H := H1; clear H1
      simp only [Option.some.injEq, Prod.mk.injEq] at H
      obtain ⟨rfl, rfl⟩ := H
      go_wp2
      go_ret2
      exact ⟨by first | rfl | (simp; done) | (simp [*]; done), by repeat (first | exact Drawn0.refl _ | apply Drawn0.step)⟩
     ·
      replace c9 := Bool.eq_false_iff.mpr c9; subst c9; have H1 : (agateref05_Size.l1 k1 l0 x5_1 1 0) = some (r1, r2) := by rw [if_neg (show ¬ (false = true) by decide)] at H; exact H
      clear H; have H := H1; clear H1; have H' := mk0 H; clear H
      go_wp2
      go_loopg [7, 8] k1 (fun kq v7 v8 w' => ∃ (x7_2 : Int) (x8_2 : Int), v7 = .int .i64 x7_2 ∧ v8 = .int .i64 x8_2 ∧ Aside0 (agateref05_Size.l1 kq l0 x5_1 x7_2 x8_2 = some (r1, r2)) ∧ Aside0 (kq ≤ k1) ∧ Drawn0 w w')
      case atStart => exact ⟨(1), (0), cl0, cl0, H', ⟨Nat.le_refl _⟩, by repeat (first | exact Drawn0.refl _ | apply Drawn0.step)⟩
      case round =>
       clear H'; obtain ⟨x7_2, x8_2, rfl, rfl, HA, HK2, ⟨m2, rfl⟩⟩ := hrel
       cases gk with
       | zero => exact absurd HA.out (by simp [agateref05_Size.l1])
       | succ k2 =>
        have H := HA.out; clear HA
        simp only [agateref05_Size.l1] at H
        have HC10 := mk0 H; clear H
        go_upto_region 15 with (fail)
        go_cut [47] (fun v47 wc => ∃ (kq : Nat) (x47_9 : Bool), v47 = .bool x47_9 ∧ Aside0 (agateref05_Size.j2 kq l0 x5_1 x7_2 x8_2 x47_9 = some (r1, r2)) ∧ Aside0 (kq ≤ k2) ∧ Drawn0 w wc)
        case first =>
         have H := HC10.out; clear HC10
         by_cases c11 : x8_2 < (l0.length : Int)
         ·
          rw [if_pos c11] at H; have c11b0 := decide_eq_true c11; clear c11
          (first | rw [c11b0] | (simp only [i64_w, i32_w]; rw [c11b0]) | skip)
          have H' := mk0 H; clear H
          go_wp2
          go_meet
          case rel => exact ⟨_, (!x5_1), cl0, H', ⟨by have := HK1.out; have := HK2.out; first | omega | exact Nat.le_refl _⟩, by repeat (first | exact Drawn0.refl _ | apply Drawn0.step)⟩
         ·
          rw [if_neg c11] at H; have c11b0 := decide_eq_false c11; clear c11
          (first | rw [c11b0] | (simp only [i64_w, i32_w]; rw [c11b0]) | skip)
          have H' := mk0 H; clear H
          go_wp2
          go_meet
          case rel => exact ⟨_, (false), cl0, H', ⟨by have := HK1.out; have := HK2.out; first | omega | exact Nat.le_refl _⟩, by repeat (first | exact Drawn0.refl _ | apply Drawn0.step)⟩
        case rest =>
         clear HC10; try clear c2; try clear c2b0; try clear c2b1; try clear c3; try clear c3b0; try clear c9
         obtain ⟨kq, x47_9, rfl, HA, HJ9, ⟨mc9, rfl⟩⟩ := hcut
         cases kq with
         | zero => exact absurd HA.out (by simp [agateref05_Size.j2])
         | succ kj9 =>
          have H := HA.out; clear HA
          simp only [agateref05_Size.j2] at H
          by_cases c12 : x47_9 = true
          ·
           subst c12; have H1 : (if 0 ≤ x8_2 then (if x8_2 < (l0.length : Int) then (if (wrap64 (x7_2 * (rd l0 x8_2))) > 65536 then (some (0, 7)) else (agateref05_Size.l1 kj9 l0 x5_1 (wrap64 (x7_2 * (rd l0 x8_2))) (wrap64 (x8_2 + 1)))) else (none)) else (none)) = some (r1, r2) := by rw [if_pos rfl] at H; exact H
           clear H; have H := H1; clear H1; replace H := ifS H; obtain ⟨c13, H⟩ := H; have c13b0 := decide_eq_true c13; clear c13; replace H := ifS H; obtain ⟨c14, H⟩ := H; have c14b0 := decide_eq_true c14; clear c14
           by_cases c15 : (wrap64 (x7_2 * (rd l0 x8_2))) > 65536
           ·
            rw [if_pos c15] at H; have c15b0 := decide_eq_true c15; clear c15
            simp only [Option.some.injEq, Prod.mk.injEq] at H
            obtain ⟨rfl, rfl⟩ := H; have p105 : 0 ≤ (x8_2 : Int) := ofd; have q105 : x8_2 < (l0.length : Int) := ofd; obtain ⟨ad105, e105, hx105_0⟩ := Kd.at_int HR0.out x8_2 p105 q105; cases e105; replace p105 := eq_true p105; replace q105 := eq_true q105
            go_wp2
            go_ret2
            exact ⟨by first | rfl | (simp; done) | (simp [*]; done), by repeat (first | exact Drawn0.refl _ | apply Drawn0.step)⟩
           ·
            rw [if_neg c15] at H; have c15b0 := decide_eq_false c15; clear c15; have H' := mk0 H; clear H; have p105 : 0 ≤ (x8_2 : Int) := ofd; have q105 : x8_2 < (l0.length : Int) := ofd; obtain ⟨ad105, e105, hx105_0⟩ := Kd.at_int HR0.out x8_2 p105 q105; cases e105; replace p105 := eq_true p105; replace q105 := eq_true q105
            go_wp2
            go_roundg kj9
            case measure => have := HK1.out; have := HK2.out; have := HJ9.out; omega
            case rel => exact ⟨(wrap64 (x7_2 * (rd l0 x8_2))), (wrap64 (x8_2 + 1)), cl0, cl0, H', ⟨by have := HK1.out; have := HK2.out; have := HJ9.out; omega⟩, by repeat (first | exact Drawn0.refl _ | apply Drawn0.step)⟩
          ·
           replace c12 := Bool.eq_false_iff.mpr c12; subst c12; have H1 : (if x5_1 = true then (some (0, 0)) else (some (x7_2, 0))) = some (r1, r2) := by rw [if_neg (show ¬ (false = true) by decide)] at H; exact H
           clear H; have H := H1; clear H1
           by_cases c16 : x5_1 = true
           ·
            subst c16; have H1 : (some (0, 0)) = some (r1, r2) := by rw [if_pos rfl] at H; exact H
            clear H; have H := H1; clear H1
            simp only [Option.some.injEq, Prod.mk.injEq] at H
            obtain ⟨rfl, rfl⟩ := H
            go_wp2
            go_ret2
            exact ⟨by first | rfl | (simp; done) | (simp [*]; done), by repeat (first | exact Drawn0.refl _ | apply Drawn0.step)⟩
           ·
            replace c16 := Bool.eq_false_iff.mpr c16; subst c16; have H1 : (some (x7_2, 0)) = some (r1, r2) := by rw [if_neg (show ¬ (false = true) by decide)] at H; exact H
            clear H; have H := H1; clear H1
            simp only [Option.some.injEq, Prod.mk.injEq] at H
            obtain ⟨rfl, rfl⟩ := H
            go_wp2
            go_ret2
            exact ⟨by first | rfl | (simp; done) | (simp [*]; done), by repeat (first | exact Drawn0.refl _ | apply Drawn0.step)⟩
end Go.Proofs.YtgmggompdidcoaaGreatDoor.X
namespace Go.Proofs.YtgmggompdidcoaaGreatDoor.X
open Go.RowKit Go.Proofs.YtgmggompdidcoaaGreatDoorW.PrintWords Go.Proofs.YtgmggompdidcoaaGreatDoorW.PrintLast Go.Proofs.YtgmggompdidcoaaGreatDoorW.PrintMore
attribute [local go_sem] max2_int min2_int max_two min_two max_three min_three max_four min_four
set_option linter.unusedVariables false
set_option linter.unusedSimpArgs false
def agateref05_Size_s.f (l0 : List Int) : Option (Int × Int) := some (sizeS l0)
theorem refSize_l1 (l : List Int) (hb : l.length ≤ 8) (hn : ∀ x ∈ l, 0 < x ∧ x ≤ 65536) (d : Nat) : ∀ (k i : Nat) (n : Int), l.length - i = d → i ≤ l.length → 2 * d + 2 ≤ k → 0 ≤ n → n ≤ 65536 →
    agateref05_Size.l1 k l false n i = some (sizeL (l.drop i) n false) := by
  induction d with
  | zero =>
    intro k i n hd hi hk h0 h1
    obtain ⟨k, rfl⟩ : ∃ m, k = m + 2 := ⟨k - 2, by omega⟩
    rw [agateref05_Size.l1, if_neg (by omega), agateref05_Size.j2, if_neg (by simp), if_neg (by simp), List.drop_of_length_le (by omega), sizeL, if_neg (by simp), if_neg (by omega)]
  | succ d ih =>
    intro k i n hd hi hk h0 h1
    obtain ⟨k, rfl⟩ : ∃ m, k = m + 2 := ⟨k - 2, by omega⟩
    have hl : i < l.length := by omega
    have e0 : rd l (i : Int) = l[i] := by simp [rd, List.getD_eq_getElem?_getD, hl]
    have hp := hn l[i] (List.getElem_mem hl)
    have ew : wrap64 ((i : Int) + 1) = ((i + 1 : Nat) : Int) := by rw [wrap64_id (by omega) (by omega)]; omega
    have hm := mul_cap h0 (by omega : n ≤ 65537) (by omega : 0 ≤ l[i]) hp.2
    have hd' : ∀ x ∈ l.drop (i + 1), 0 < x ∧ x ≤ 65536 := fun x hx => hn x (List.mem_of_mem_drop hx)
    have wm : wrap64 (n * l[i]) = n * l[i] := wrap64_id (by omega) (by omega)
    rw [agateref05_Size.l1, if_pos (by omega), agateref05_Size.j2, if_pos (by rfl), if_pos (by omega), if_pos (by omega), e0, wm, ew, List.drop_eq_getElem_cons hl, sizeL]
    clear ew wm
    generalize n * l[i] = p at *
    have q1 : ¬ l[i] > 65536 := by omega
    have q2 : ¬ l[i] = 0 := by omega
    by_cases hg : p > 65536
    · have e : (if 65537 < p then 65537 else p) = 65537 := by split <;> omega
      rw [if_pos hg, if_neg q1, if_neg q2, e, sizeL_full _ hd']
    · rw [if_neg hg, if_neg q1, if_neg q2, if_neg (by omega)]
      exact ih k (i + 1) p (by omega) (by omega) (by omega) (by omega) (by omega)
theorem refSize_l0 (l : List Int) (hb : l.length ≤ 8) (d : Nat) : ∀ (k i : Nat), l.length - i = d → i ≤ l.length → d + 2 * l.length + 4 ≤ k → (∀ x ∈ l.take i, 0 ≤ x) →
    agateref05_Size.l0 k l ((l.take i).any fun x => decide (x > 65536)) ((l.take i).any fun x => x == 0) i = some (if (l.drop i).any (fun x => decide (x < 0)) then (0, 6) else sizeL l 1 false) := by
  induction d with
  | zero =>
    intro k i hd hi hk hn
    obtain ⟨k, rfl⟩ : ∃ m, k = m + 3 := ⟨k - 3, by omega⟩
    rw [agateref05_Size.l0, if_neg (by omega), List.drop_of_length_le (by omega)]
    rw [List.take_of_length_le (by omega)] at hn ⊢
    show _ = some (sizeL l 1 false)
    by_cases hg : l.any (fun x => decide (x > 65536)) = true
    · rw [if_pos hg, sizeL_great l 1 false (by obtain ⟨x, hx, e⟩ := List.any_eq_true.1 hg; exact ⟨x, hx, of_decide_eq_true e⟩)]
    · have hs : ∀ x ∈ l, x ≤ 65536 := fun x hx => Int.not_lt.1 (fun h => hg (List.any_eq_true.2 ⟨x, hx, decide_eq_true h⟩))
      rw [if_neg hg]
      by_cases hz : l.any (fun x => x == 0) = true
      · rw [hz, sizeL_zero l 1 false hs (Or.inr (by obtain ⟨x, hx, e⟩ := List.any_eq_true.1 hz; exact ⟨x, hx, eq_of_beq e⟩))]
        rw [agateref05_Size.l1]
        split
        · rw [agateref05_Size.j2]; rfl
        · rw [agateref05_Size.j2]; rfl
      · rw [Bool.not_eq_true] at hz
        rw [hz]
        refine refSize_l1 l hb (fun x hx => ?_) l.length (k + 2) 0 1 (by omega) (by omega) (by omega) (by omega) (by omega)
        have h1 := hs x hx
        have h2 := hn x hx
        have h3 : x ≠ 0 := by
          intro e
          rw [List.any_eq_false] at hz
          exact hz x hx (by rw [e]; rfl)
        omega
  | succ d ih =>
    intro k i hd hi hk hn
    obtain ⟨k, rfl⟩ : ∃ m, k = m + 1 := ⟨k - 1, by omega⟩
    have hl : i < l.length := by omega
    have e0 : rd l (i : Int) = l[i] := by simp [rd, List.getD_eq_getElem?_getD, hl]
    have ew : wrap64 ((i : Int) + 1) = ((i + 1 : Nat) : Int) := by rw [wrap64_id (by omega) (by omega)]; omega
    rw [agateref05_Size.l0, if_pos (by omega), if_pos (by omega), e0, List.drop_eq_getElem_cons hl, ew]
    clear ew
    by_cases hg : l[i] < 0
    · rw [if_pos hg, List.any_cons, decide_eq_true hg]
      rfl
    · rw [if_neg hg, List.any_cons, decide_eq_false hg, Bool.false_or]
      have hstep : ∀ g z : Bool, (if g = true then (if z = true then (agateref05_Size.l0 k l true true ((i + 1 : Nat) : Int)) else (agateref05_Size.l0 k l true (l[i] == 0) ((i + 1 : Nat) : Int))) else (if z = true then (agateref05_Size.l0 k l (decide (l[i] > 65536)) true ((i + 1 : Nat) : Int)) else (agateref05_Size.l0 k l (decide (l[i] > 65536)) (l[i] == 0) ((i + 1 : Nat) : Int)))) = agateref05_Size.l0 k l (g || decide (l[i] > 65536)) (z || l[i] == 0) ((i + 1 : Nat) : Int) := by
        intro g z
        cases g <;> cases z <;> rfl
      rw [hstep, ← any_take (fun x => decide (x > 65536)) l i hl, ← any_take (fun x => x == 0) l i hl]
      refine ih k (i + 1) (by omega) (by omega) (by omega) ?_
      intro x hx
      rw [List.take_succ_eq_append_getElem hl] at hx
      rcases List.mem_append.1 hx with hx | hx
      · exact hn x hx
      · rw [List.mem_singleton.1 hx]; omega
theorem agateref05_Size_s.ev (l0 : List Int) (r) (h : agateref05_Size_s.f l0 = some r) : ∃ k, agateref05_Size.f k l0 = some r := by
  refine ⟨3 * l0.length + 4, ?_⟩
  rw [← h]
  unfold agateref05_Size.f agateref05_Size_s.f sizeS
  by_cases hl : l0.length > 8
  · rw [if_pos (by omega), if_pos hl]
  · rw [if_neg (by omega), if_neg hl]
    exact refSize_l0 l0 (by omega) l0.length _ 0 (by omega) (by omega) (by omega) (by simp)
set_option maxHeartbeats 1000000 in
theorem agateref05_Size_s.calls (A0 : Option Addr) (c0 : Nat) (l0 : List Int) (r1 : Int) (r2 : Int) (w : World) (hr0 : Kd.C (Kd.int .i64) w A0 l0.length l0) (hc0 : l0.length ≤ c0) (h : agateref05_Size_s.f l0 = some (r1, r2)) :
    Calls Tryz.prog 30 #[.slice A0 l0.length c0] w fun e w' => e = .returned (.tuple #[.int .i64 r1, .int .i64 r2]) ∧ Drawn0 w w' := by
  obtain ⟨k, hk⟩ := agateref05_Size_s.ev l0 _ h
  exact agateref05_Size.calls k A0 c0 l0 r1 r2 w hr0 hc0 hk
end Go.Proofs.YtgmggompdidcoaaGreatDoor.X
