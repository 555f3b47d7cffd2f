import Derived.Test.YtgmggompdidcoaaGreatDoorMPbtensorWrites2
import Derived.Test.YtgmggompdidcoaaGreatDoorMPbtensorWrites4
import Derived.Test.YtgmggompdidcoaaGreatDoorMPbtensorWrites3
import Derived.Shelf.Strings.Builder1
import Derived.WalkLawsBesides
import Derived.MapKept
namespace Go.Proofs.YtgmggompdidcoaaGreatDoor.X
open Go.RowKit Go.Proofs.YtgmggompdidcoaaGreatDoorW.PrintWords Go.Proofs.YtgmggompdidcoaaGreatDoorW.PrintLast Go.Proofs.YtgmggompdidcoaaGreatDoorW.PrintMore
attribute [local go_sem] max2_int min2_int max_two min_two max_three min_three max_four min_four
set_option linter.unusedVariables false
set_option linter.unusedSimpArgs false
def wire_laid_s.f (a0 a1 : Int) : Option ByteArray := if 0 ≤ a0 ∧ a0 < 18446744073709551616 ∧ 0 ≤ a1 ∧ a1 ≤ 8 then some (laidStr a0.toNat a1.toNat) else none
theorem wire_laid_eval (v n : Nat) (hv : v < 18446744073709551616) (hn : n ≤ 8) (d : Nat) : ∀ (k i : Nat), n - i = d → i ≤ n → d < k →
    wire_laid.l0 k (v : Int) ((laidS v i).map Int.ofNat) (n : Int) (i : Int) = some (laidStr v n) := by
  induction d with
  | zero =>
    intro k i hd hi hk
    obtain ⟨k, rfl⟩ : ∃ m, k = m + 1 := ⟨k - 1, by omega⟩
    obtain rfl : i = n := by omega
    simp only [wire_laid.l0]
    rw [if_neg (by omega)]; rfl
  | succ d ih =>
    intro k i hd hi hk
    obtain ⟨k, rfl⟩ : ∃ m, k = m + 1 := ⟨k - 1, by omega⟩
    simp only [wire_laid.l0]
    have e0 : wrap64 (8 * (i : Int)) = ((8 * i : Nat) : Int) := by rw [wrap64_id (by omega) (by omega)]; omega
    have e1 : shr .u64 (v : Int) ((8 * i : Nat) : Int) % 256 = Int.ofNat (v / 256 ^ i % 256) := by
      show (v : Int) / 2 ^ min ((8 * i : Nat) : Int).toNat 64 % 256 = _
      have hp : (256 : Nat) ^ i = 2 ^ (8 * i) := by rw [Nat.pow_mul]
      rw [Int.toNat_natCast, Nat.min_eq_left (by omega), hp]
      simp
    rw [if_pos (by omega), if_pos (by rw [e0]; omega), if_pos (by simp [laidS_length]; omega), e0, e1, wrap64_id (by omega) (by omega)]
    have := ih k (i + 1) (by omega) (by omega) (by omega)
    rw [laidS_succ, List.map_append] at this
    exact this
theorem wire_laid_s.ev (a0 a1 : Int) (r) (h : wire_laid_s.f a0 a1 = some r) : ∃ k, wire_laid.f k a0 a1 = some r := by
  unfold wire_laid_s.f at h
  split at h
  · rename_i hr
    obtain ⟨v, rfl⟩ := Int.eq_ofNat_of_zero_le hr.1
    obtain ⟨n, rfl⟩ := Int.eq_ofNat_of_zero_le hr.2.2.1
    exact ⟨n + 1, (wire_laid_eval v n (by omega) (by omega) n (n + 1) 0 (by omega) (by omega) (by omega)).trans h⟩
  · cases h
set_option maxHeartbeats 1000000 in
theorem wire_laid_s.calls (a0 : Int) (a1 : Int) (r : ByteArray) (w : World) (h : wire_laid_s.f a0 a1 = some r) :
    Calls Tryz.prog 94 #[.int .u64 a0, .int .i64 a1] w fun e w' => e = .returned (.string r) ∧ Below w.heap.size w w' := by
  obtain ⟨k, hk⟩ := wire_laid_s.ev a0 a1 _ h
  exact wire_laid.calls k a0 a1 r w hk
def wire_Field_Bytes.j0 : Nat → Bool → Int → Int → Int → ByteArray → Option (ByteArray)
 | 0, _, _, _, _, _ => none
 | k + 1, x21, x102000, x102001, x102002, x102003 => if x21 = true then (some (⟨#[]⟩ : ByteArray)) else ((varint_Put.f (Go.bits .or .u64 (IntKind.u64.wrap ((IntKind.u64.wrap (x102000)) * 8)) (IntKind.u64.wrap (x102001)))).bind fun t103 => (if x102001 = 0 then ((varint_Put.f x102002).bind fun t104 => (if t103.size + t104.size ≤ 9223372036854775807 then (some (t103 ++ t104)) else (none))) else (if x102001 = 2 then ((varint_Put.f (IntKind.u64.wrap ((x102003.size : Int)))).bind fun t105 => (if t103.size + t105.size ≤ 9223372036854775807 then (if (t103 ++ t105).size + x102003.size ≤ 9223372036854775807 then (some ((t103 ++ t105) ++ x102003)) else (none)) else (none))) else (if x102001 = 1 then ((wire_laid_s.f x102002 8).bind fun t106 => (if t103.size + t106.size ≤ 9223372036854775807 then (some (t103 ++ t106)) else (none))) else (if x102002 > 4294967295 then (some (⟨#[]⟩ : ByteArray)) else ((wire_laid_s.f x102002 4).bind fun t107 => (if t103.size + t107.size ≤ 9223372036854775807 then (some (t103 ++ t107)) else (none))))))))
def wire_Field_Bytes.f (k : Nat) (a0_0 : Int) (a0_1 : Int) (a0_2 : Int) (a0_3 : ByteArray) : Option (ByteArray) := if a0_0 < 0 then (wire_Field_Bytes.j0 k true a0_0 a0_1 a0_2 a0_3) else (if a0_1 < 0 then (wire_Field_Bytes.j0 k true a0_0 a0_1 a0_2 a0_3) else ((wire_may.f (IntKind.u64.wrap (a0_0)) (IntKind.u64.wrap (a0_1))).bind fun t102 => (wire_Field_Bytes.j0 k (!t102) a0_0 a0_1 a0_2 a0_3)))
def wire_Field_Bytes.T8 : Bool × List (List Nat × List Nat) := (true, [([], []), ([], []), ([1], [1]), ([2], [2]), ([3], [3]), ([4], [4]), ([0, 5], [0, 5]), ([], []), ([7], [7]), ([6, 8], [6, 8]), ([9, 5, 0, 1, 2, 3, 4, 5, 6, 7, 8, 9], [9])])
def wire_Field_Bytes.B8 : List Nat := [0, 0, 2, 6, 14, 30, 63, 0, 128, 511, 1023]
theorem wire_Field_Bytes.tab8 : rtab .any (opsOf Tryz.f74 8) = wire_Field_Bytes.T8 := by kernel_rfl
theorem wire_Field_Bytes.bits8 : waitsOk wire_Field_Bytes.T8.2 wire_Field_Bytes.B8 = true := by kernel_rfl
set_option maxHeartbeats 8000000 in
set_option maxRecDepth 100000 in
theorem wire_Field_Bytes.calls (k : Nat) (a0_0 : Int) (a0_1 : Int) (a0_2 : Int) (a0_3 : ByteArray) (r : ByteArray) (w : World) (h : wire_Field_Bytes.f k a0_0 a0_1 a0_2 a0_3 = some r) :
  Calls Tryz.prog 74 #[.agg #[.int .i64 a0_0, .int .i64 a0_1, .int .u64 a0_2, .string a0_3]] w fun e w' => e = .returned (.string r) ∧ Below w.heap.size w w' := by
 have hu95 := Tryz.underlying95; have HB := mk0 (Below.refl w.heap.size w); have H : (if a0_0 < 0 then (wire_Field_Bytes.j0 k true a0_0 a0_1 a0_2 a0_3) else (if a0_1 < 0 then (wire_Field_Bytes.j0 k true a0_0 a0_1 a0_2 a0_3) else ((wire_may.f (IntKind.u64.wrap (a0_0)) (IntKind.u64.wrap (a0_1))).bind fun t102 => (wire_Field_Bytes.j0 k (!t102) a0_0 a0_1 a0_2 a0_3)))) = some r := h; clear h; have HC2 := mk0 H; clear H
 go_enter Tryz.func74, Tryz.ntmps74
 go_upto_region 1 with (first | ((with_reducible refine gate_dst (N := 1) rfl ?_); refine boxE (N := 1) (cs := #[.int .i64 a0_0, .int .i64 a0_1, .int .u64 a0_2, .string a0_3]) (t := 95) ?_; intro gb101 hg w3 hbox hb; have BK101 := mk0 hbox; have GW101 := gwS HB hg; have GE101 := gwS HB hg; replace HB := hbS HB hb; clear hb hbox hg))
 (try simp only [Act.put, List.setIfInBounds_toArray, List.set_cons_zero, List.set_cons_succ])
 go_cut [21] (fun v21 wc => ∃ (kq : Nat) (x21_1 : Bool), v21 = .bool x21_1 ∧ Aside0 (wire_Field_Bytes.j0 kq x21_1 a0_0 a0_1 a0_2 a0_3 = some r) ∧ Aside0 (kq ≤ k) ∧ Aside0 (wc.heap[gb101]? = some (.cells #[.int .i64 a0_0, .int .i64 a0_1, .int .u64 a0_2, .string a0_3] 95 (0, 0))) ∧ Aside0 (Below w.heap.size w wc))
 case first =>
  have H := HC2.out; clear HC2
  by_cases c4 : a0_0 < 0
  ·
   rw [if_pos c4] at H; have c4b0 := decide_eq_true c4; clear c4
   (first | rw [c4b0] | (simp only [i64_w, i32_w]; rw [c4b0]) | skip)
   have H' := mk0 H; clear H; obtain ⟨hcz5_0, hcz5_1, hcz5_2, hcz5_3⟩ := cz4 BK101
   go_wp2
   go_meet
   case rel => exact ⟨_, (true), cl0, H', cl1, ⟨bkA BK101⟩, ⟨hbA HB⟩⟩
  ·
   rw [if_neg c4] at H; have c4b0 := decide_eq_false c4; clear c4
   (first | rw [c4b0] | (simp only [i64_w, i32_w]; rw [c4b0]) | skip)
   by_cases c6 : a0_1 < 0
   ·
    rw [if_pos c6] at H; have c6b0 := decide_eq_true c6; clear c6; have H' := mk0 H; clear H; obtain ⟨hcz7_0, hcz7_1, hcz7_2, hcz7_3⟩ := cz4 BK101
    go_wp2
    go_meet
    case rel => exact ⟨_, (true), cl0, H', cl1, ⟨bkA BK101⟩, ⟨hbA HB⟩⟩
   ·
    rw [if_neg c6] at H; have c6b0 := decide_eq_false c6; clear c6; replace H := bnd H; obtain ⟨t102, A8, H⟩ := H; have H' := mk0 H; clear H; obtain ⟨hcz9_0, hcz9_1, hcz9_2, hcz9_3⟩ := cz4 BK101
    go_wp2_with (first | (go_at_call 93; (with_reducible refine (wire_may.calls (IntKind.u64.wrap (a0_0)) (IntKind.u64.wrap (a0_1)) t102 _ A8.out).mono ?_); rintro e w' ⟨rfl, ⟨nd, rfl⟩⟩))
    go_meet
    case rel => exact ⟨_, (!t102), cl0, H', cl1, ⟨bkA BK101⟩, ⟨hbA HB⟩⟩
 case rest =>
  clear HC2; obtain ⟨kq, x21_1, rfl, HA, HJ1, BK101, HB⟩ := hcut
  cases kq with
  | zero => exact absurd HA.out (by simp [wire_Field_Bytes.j0])
  | succ kj1 =>
   have H := HA.out; clear HA
   simp only [wire_Field_Bytes.j0] at H
   by_cases c10 : x21_1 = true
   ·
    subst c10; have H1 : (some (⟨#[]⟩ : ByteArray)) = some r := by rw [if_pos rfl] at H; exact H
    clear H; have H := H1; clear H1; obtain rfl := Option.some.inj H
    go_wp2
    go_ret
    exact ⟨cl3, hbA HB⟩
   ·
    replace c10 := Bool.eq_false_iff.mpr c10; subst c10; have H1 : ((varint_Put.f (Go.bits .or .u64 (IntKind.u64.wrap ((IntKind.u64.wrap (a0_0)) * 8)) (IntKind.u64.wrap (a0_1)))).bind fun t103 => (if a0_1 = 0 then ((varint_Put.f a0_2).bind fun t104 => (if t103.size + t104.size ≤ 9223372036854775807 then (some (t103 ++ t104)) else (none))) else (if a0_1 = 2 then ((varint_Put.f (IntKind.u64.wrap ((a0_3.size : Int)))).bind fun t105 => (if t103.size + t105.size ≤ 9223372036854775807 then (if (t103 ++ t105).size + a0_3.size ≤ 9223372036854775807 then (some ((t103 ++ t105) ++ a0_3)) else (none)) else (none))) else (if a0_1 = 1 then ((wire_laid_s.f a0_2 8).bind fun t106 => (if t103.size + t106.size ≤ 9223372036854775807 then (some (t103 ++ t106)) else (none))) else (if a0_2 > 4294967295 then (some (⟨#[]⟩ : ByteArray)) else ((wire_laid_s.f a0_2 4).bind fun t107 => (if t103.size + t107.size ≤ 9223372036854775807 then (some (t103 ++ t107)) else (none)))))))) = some r := by rw [if_neg (show ¬ (false = true) by decide)] at H; exact H
    clear H; have H := H1; clear H1; replace H := bnd H; obtain ⟨t103, A11, H⟩ := H
    by_cases c12 : a0_1 = 0
    ·
     rw [if_pos c12] at H; have c12b0 := beq_iff_eq.mpr c12; have c12b1 := bne_eq_false_iff_eq.mpr c12; clear c12; replace H := bnd H; obtain ⟨t104, A13, H⟩ := H; replace H := ifS H; obtain ⟨c14, H⟩ := H; have c14b0 := eq_true c14; have c14b1 := decide_eq_true c14; try have c14b2 := eq_false (Nat.not_lt.2 c14)
     try have c14b3 := c14b2
     try simp only [ByteArray.size_append] at c14b3
     obtain rfl := Option.some.inj H; obtain ⟨hcz15_0, hcz15_1, hcz15_2, hcz15_3⟩ := cz4 BK101
     go_wp2_with (first | ((with_reducible refine gate_callee (f := 72) rfl ?_); refine glE (some 30) rfl rfl Tryz.func72 (by kernel_rfl) rfl #[.int .u64 (Go.bits .or .u64 (IntKind.u64.wrap ((IntKind.u64.wrap (a0_0)) * 8)) (IntKind.u64.wrap (a0_1)))] rfl ?_; (with_reducible refine (varint_Put.calls (Go.bits .or .u64 (IntKind.u64.wrap ((IntKind.u64.wrap (a0_0)) * 8)) (IntKind.u64.wrap (a0_1))) t103 _ A11.out).mono ?_); rintro e w16 ⟨rfl, hb⟩; refine ⟨_, rfl, ?_⟩; replace BK101 := bkS BK101 hb; replace HB := hbS HB hb; (try clear hb); obtain ⟨hcz17_0, hcz17_1, hcz17_2, hcz17_3⟩ := cz4 BK101) | ((with_reducible refine gate_callee (f := 72) rfl ?_); refine glE (some 38) rfl rfl Tryz.func72 (by kernel_rfl) rfl #[.int .u64 a0_2] rfl ?_; (with_reducible refine (varint_Put.calls a0_2 t104 _ A13.out).mono ?_); rintro e w18 ⟨rfl, hb⟩; refine ⟨_, rfl, ?_⟩; replace BK101 := bkS BK101 hb; replace HB := hbS HB hb; (try clear hb)))
     go_ret
     exact ⟨cl3, hbA HB⟩
    ·
     rw [if_neg c12] at H; have c12b0 := beq_eq_false_iff_ne.mpr c12; have c12b1 := bne_iff_ne.mpr c12
     by_cases c19 : a0_1 = 2
     ·
      rw [if_pos c19] at H; have c19b0 := beq_iff_eq.mpr c19; have c19b1 := bne_eq_false_iff_eq.mpr c19; clear c19; replace H := bnd H; obtain ⟨t105, A20, H⟩ := H; replace H := ifS H; obtain ⟨c21, H⟩ := H; have c21b0 := eq_true c21; have c21b1 := decide_eq_true c21; try have c21b2 := eq_false (Nat.not_lt.2 c21)
      try have c21b3 := c21b2
      try simp only [ByteArray.size_append] at c21b3
      replace H := ifS H; obtain ⟨c22, H⟩ := H; have c22b0 := eq_true c22; have c22b1 := decide_eq_true c22; try have c22b2 := eq_false (Nat.not_lt.2 c22)
      try have c22b3 := c22b2
      try simp only [ByteArray.size_append] at c22b3
      obtain rfl := Option.some.inj H; obtain ⟨hcz23_0, hcz23_1, hcz23_2, hcz23_3⟩ := cz4 BK101
      try go_wp2_with (first | ((with_reducible refine gate_callee (f := 72) rfl ?_); refine glE (some 30) rfl rfl Tryz.func72 (by kernel_rfl) rfl #[.int .u64 (Go.bits .or .u64 (IntKind.u64.wrap ((IntKind.u64.wrap (a0_0)) * 8)) (IntKind.u64.wrap (a0_1)))] rfl ?_; (with_reducible refine (varint_Put.calls (Go.bits .or .u64 (IntKind.u64.wrap ((IntKind.u64.wrap (a0_0)) * 8)) (IntKind.u64.wrap (a0_1))) t103 _ A11.out).mono ?_); rintro e w24 ⟨rfl, hb⟩; refine ⟨_, rfl, ?_⟩; replace BK101 := bkS BK101 hb; replace HB := hbS HB hb; (try clear hb); obtain ⟨hcz25_0, hcz25_1, hcz25_2, hcz25_3⟩ := cz4 BK101; have hfz25_3 := blk_frozen BK101.out 3)); replace BK101 := mk0 (blk_drew BK101.out); replace HB := mk0 (below_drew1 HB.out)
      refine start_ (n := 11) (S := fun w' => w'.cell? ⟨gb101, 0, none⟩ = some (.int .i64 a0_0) ∧ w'.cell? ⟨gb101, 1, none⟩ = some (.int .i64 a0_1) ∧ w'.cell? ⟨gb101, 2, none⟩ = some (.int .u64 a0_2) ∧ w'.cell? ⟨gb101, 3, none⟩ = some (.string a0_3)) (ds := []) (bA 11 0) (by kernel_rfl) rfl rfl ⟨bcA BK101 0, bcA BK101 1, bcA BK101 2, bcA BK101 3⟩ (fun hHeld => ?_); refine with_tabW wire_Field_Bytes.tab8 wire_Field_Bytes.bits8 (fun HT_ HW_ => ?_)
      generalize w24.drew = w26 at BK101 HB hHeld ⊢
      refine puE (i := 0) (N := some 42) (bA 11 1) HT_ ?_
      refine puE (i := 1) (N := some 43) (bA 11 3) HT_ ?_
      refine puE (i := 7) (N := some 49) (bA 11 131) HT_ ?_
      refine taE (i := 2) (N := some 44) (bA 11 135) HT_ HW_ hHeld ?_
      refine puE (i := 3) (N := some 45) (bA 11 143) HT_ ?_
      refine puE (i := 4) (N := some 46) (bA 11 159) HT_ ?_
      refine taE (i := 8) (N := some 50) (bA 11 415) HT_ HW_ hHeld ?_
      refine one_ (i := 5) (N := some 47) (bA 11 447) rfl rfl (one_of HT_.out (by kernel_rfl)) (by decide) (fun K hK => ?_)
      refine goE Tryz.func72 (by kernel_rfl) rfl #[.int .u64 (IntKind.u64.wrap ((a0_3.size : Int)))] (by rfl) rfl rfl ?_
      with_reducible refine (varint_Put.calls (IntKind.u64.wrap ((a0_3.size : Int))) t105 _ A20.out).mono ?_
      rintro e w27 ⟨rfl, hb⟩
      refine ⟨_, rfl, ?_⟩
      replace BK101 := bkS BK101 hb; replace HB := hbS HB hb; try clear hb
      refine hK.out _ _ ⟨bcA BK101 0, bcA BK101 1, bcA BK101 2, bcA BK101 3⟩ (fun hHeld => ?_)
      clear hK K
      refine noE 47 ?_
      refine puE (i := 6) (N := some 48) (bA 11 511) HT_ ?_
      refine puE (i := 9) (N := some 51) (bA 11 1023) HT_ ?_
      refine puE (i := 10) (N := some 2) (bA 11 2047) HT_ ?_
      refine done_ (done_of HT_.out (by kernel_rfl)) ?_
      try go_wp2
      go_ret
      exact ⟨cl3, hbA HB⟩
     ·
      rw [if_neg c19] at H; have c19b0 := beq_eq_false_iff_ne.mpr c19; have c19b1 := bne_iff_ne.mpr c19
      by_cases c28 : a0_1 = 1
      ·
       rw [if_pos c28] at H; have c28b0 := beq_iff_eq.mpr c28; have c28b1 := bne_eq_false_iff_eq.mpr c28; clear c28; replace H := bnd H; obtain ⟨t106, A29, H⟩ := H; replace H := ifS H; obtain ⟨c30, H⟩ := H; have c30b0 := eq_true c30; have c30b1 := decide_eq_true c30; try have c30b2 := eq_false (Nat.not_lt.2 c30)
       try have c30b3 := c30b2
       try simp only [ByteArray.size_append] at c30b3
       obtain rfl := Option.some.inj H; obtain ⟨hcz31_0, hcz31_1, hcz31_2, hcz31_3⟩ := cz4 BK101
       go_wp2_with (first | ((with_reducible refine gate_callee (f := 72) rfl ?_); refine glE (some 30) rfl rfl Tryz.func72 (by kernel_rfl) rfl #[.int .u64 (Go.bits .or .u64 (IntKind.u64.wrap ((IntKind.u64.wrap (a0_0)) * 8)) (IntKind.u64.wrap (a0_1)))] rfl ?_; (with_reducible refine (varint_Put.calls (Go.bits .or .u64 (IntKind.u64.wrap ((IntKind.u64.wrap (a0_0)) * 8)) (IntKind.u64.wrap (a0_1))) t103 _ A11.out).mono ?_); rintro e w32 ⟨rfl, hb⟩; refine ⟨_, rfl, ?_⟩; replace BK101 := bkS BK101 hb; replace HB := hbS HB hb; (try clear hb); obtain ⟨hcz33_0, hcz33_1, hcz33_2, hcz33_3⟩ := cz4 BK101) | ((with_reducible refine gate_callee (f := 94) rfl ?_); refine glE (some 57) rfl rfl Tryz.func94 (by kernel_rfl) rfl #[.int .u64 a0_2, .int .i64 8] rfl ?_; (with_reducible refine (wire_laid_s.calls a0_2 8 t106 _ A29.out).mono ?_); rintro e w34 ⟨rfl, hb⟩; refine ⟨_, rfl, ?_⟩; replace BK101 := bkS BK101 hb; replace HB := hbS HB hb; (try clear hb)))
       go_ret
       exact ⟨cl3, hbA HB⟩
      ·
       rw [if_neg c28] at H; have c28b0 := beq_eq_false_iff_ne.mpr c28; have c28b1 := bne_iff_ne.mpr c28
       by_cases c35 : a0_2 > 4294967295
       ·
        rw [if_pos c35] at H; have c35b0 := decide_eq_true c35; clear c35; obtain rfl := Option.some.inj H; obtain ⟨hcz36_0, hcz36_1, hcz36_2, hcz36_3⟩ := cz4 BK101
        go_wp2_with (first | ((with_reducible refine gate_callee (f := 72) rfl ?_); refine glE (some 30) rfl rfl Tryz.func72 (by kernel_rfl) rfl #[.int .u64 (Go.bits .or .u64 (IntKind.u64.wrap ((IntKind.u64.wrap (a0_0)) * 8)) (IntKind.u64.wrap (a0_1)))] rfl ?_; (with_reducible refine (varint_Put.calls (Go.bits .or .u64 (IntKind.u64.wrap ((IntKind.u64.wrap (a0_0)) * 8)) (IntKind.u64.wrap (a0_1))) t103 _ A11.out).mono ?_); rintro e w37 ⟨rfl, hb⟩; refine ⟨_, rfl, ?_⟩; replace BK101 := bkS BK101 hb; replace HB := hbS HB hb; (try clear hb); obtain ⟨hcz38_0, hcz38_1, hcz38_2, hcz38_3⟩ := cz4 BK101; have hfz38_3 := blk_frozen BK101.out 3))
        go_ret
        exact ⟨cl3, hbA HB⟩
       ·
        rw [if_neg c35] at H; have c35b0 := decide_eq_false c35; clear c35; replace H := bnd H; obtain ⟨t107, A39, H⟩ := H; replace H := ifS H; obtain ⟨c40, H⟩ := H; have c40b0 := eq_true c40; have c40b1 := decide_eq_true c40; try have c40b2 := eq_false (Nat.not_lt.2 c40)
        try have c40b3 := c40b2
        try simp only [ByteArray.size_append] at c40b3
        obtain rfl := Option.some.inj H; obtain ⟨hcz41_0, hcz41_1, hcz41_2, hcz41_3⟩ := cz4 BK101
        go_wp2_with (first | ((with_reducible refine gate_callee (f := 72) rfl ?_); refine glE (some 30) rfl rfl Tryz.func72 (by kernel_rfl) rfl #[.int .u64 (Go.bits .or .u64 (IntKind.u64.wrap ((IntKind.u64.wrap (a0_0)) * 8)) (IntKind.u64.wrap (a0_1)))] rfl ?_; (with_reducible refine (varint_Put.calls (Go.bits .or .u64 (IntKind.u64.wrap ((IntKind.u64.wrap (a0_0)) * 8)) (IntKind.u64.wrap (a0_1))) t103 _ A11.out).mono ?_); rintro e w42 ⟨rfl, hb⟩; refine ⟨_, rfl, ?_⟩; replace BK101 := bkS BK101 hb; replace HB := hbS HB hb; (try clear hb); obtain ⟨hcz43_0, hcz43_1, hcz43_2, hcz43_3⟩ := cz4 BK101) | ((with_reducible refine gate_callee (f := 94) rfl ?_); refine glE (some 65) rfl rfl Tryz.func94 (by kernel_rfl) rfl #[.int .u64 a0_2, .int .i64 4] rfl ?_; (with_reducible refine (wire_laid_s.calls a0_2 4 t107 _ A39.out).mono ?_); rintro e w44 ⟨rfl, hb⟩; refine ⟨_, rfl, ?_⟩; replace BK101 := bkS BK101 hb; replace HB := hbS HB hb; (try clear hb)))
        go_ret
        exact ⟨cl3, hbA HB⟩
def wire_Field_Bytes_s.f (a0 a1 a2 : Int) (a3 : ByteArray) : Option ByteArray :=
  if -9223372036854775808 ≤ a0 ∧ a0 < 9223372036854775808 ∧ -9223372036854775808 ≤ a1 ∧ a1 < 9223372036854775808 ∧ 0 ≤ a2 ∧ a2 < 18446744073709551616 ∧ a3.size ≤ 140737488351232 then some (bytesS a0 a1 a2 a3) else none
theorem tag_or (num ty : Int) (h0 : 1 ≤ num) (h1 : num ≤ 536870911) (h2 : 0 ≤ ty) (h3 : ty < 8) :
    Go.bits .or .u64 (IntKind.u64.wrap (IntKind.u64.wrap num * 8)) (IntKind.u64.wrap ty) = 8 * num + ty := by
  obtain ⟨n, rfl⟩ := Int.eq_ofNat_of_zero_le (show 0 ≤ num by omega)
  obtain ⟨t, rfl⟩ := Int.eq_ofNat_of_zero_le h2
  rw [u64_id (x := (n : Int)) (by omega) (by omega), u64_id (x := (t : Int)) (by omega) (by omega), u64_id (by omega) (by omega)]
  have e : ((n : Int) * 8) = ((2 ^ 3 * n : Nat) : Int) := by omega
  rw [e, u64_or_nat _ _ (by omega) (by omega), ← Nat.two_pow_add_eq_or_of_lt (by omega)]
  omega
theorem wire_may_eval (a b : Int) (h0 : 0 ≤ a) (h1 : 0 ≤ b) : wire_may.f a b = some (decide (1 ≤ a ∧ a ≤ 536870911 ∧ (b = 0 ∨ b = 1 ∨ b = 2 ∨ b = 5))) := by
  unfold wire_may.f
  by_cases g1 : a ≥ 1
  · by_cases g2 : a ≤ 536870911
    · rw [if_pos g1, if_pos g2]
      by_cases g3 : b = 0
      · simp [g1, g2, g3]
      · by_cases g4 : b = 1
        · simp [g1, g2, g4]
        · by_cases g5 : b = 2
          · simp [g1, g2, g5]
          · simp [g1, g2, g3, g4, g5]
            rw [Bool.eq_iff_iff]; simp
    · rw [if_pos g1, if_neg g2]; simp [g2]
  · rw [if_neg g1]; simp; omega
theorem wire_Field_Bytes_s.ev (a0 a1 a2 : Int) (a3 : ByteArray) (r) (h : wire_Field_Bytes_s.f a0 a1 a2 a3 = some r) : ∃ k, wire_Field_Bytes.f k a0 a1 a2 a3 = some r := by
  unfold wire_Field_Bytes_s.f at h
  split at h
  · rename_i hr
    obtain ⟨p0, p1, p2, p3, p4, p5, p6⟩ := hr
    rw [← h]
    refine ⟨1, ?_⟩
    unfold wire_Field_Bytes.f bytesS
    by_cases hm : 1 ≤ a0 ∧ a0 ≤ 536870911 ∧ (a1 = 0 ∨ a1 = 1 ∨ a1 = 2 ∨ a1 = 5)
    · have hm1 := hm
      obtain ⟨m0, m1, m2⟩ := hm1
      rw [if_neg (by omega), if_neg (by omega), u64_id (x := a0) (by omega) (by omega), u64_id (x := a1) (by omega) (by omega), wire_may_eval _ _ (by omega) (by omega), decide_eq_true hm, Option.bind_some, if_pos hm]
      simp only [wire_Field_Bytes.j0]
      have ep : ∀ x : Int, 0 ≤ x → x < 18446744073709551616 → varint_Put.f x = some (vStr x.toNat) := fun x g0 g1 => if_pos ⟨g0, g1⟩
      have hs : ∀ x : Int, 0 ≤ x → x < 18446744073709551616 → (vStr x.toNat).size ≤ 10 := fun x g0 g1 => by rw [vStr_size]; exact vSize_10 _ (by omega)
      have hs1 := hs (8 * a0 + a1) (by omega) (by omega)
      rw [if_neg (by decide), tag_or a0 a1 m0 m1 (by omega) (by omega), ep _ (by omega) (by omega), Option.bind_some]
      rcases m2 with rfl | rfl | rfl | rfl
      · have hs2 := hs a2 p4 p5
        rw [if_pos rfl, if_pos rfl, ep _ p4 p5, Option.bind_some, if_pos (by omega)]
      · rw [if_neg (by decide), if_neg (by decide), if_pos rfl, if_neg (by decide), if_neg (by decide), if_pos rfl]
        have el : wire_laid_s.f a2 8 = some (laidStr a2.toNat 8) := if_pos ⟨p4, p5, by decide, by decide⟩
        rw [el, Option.bind_some, if_pos (by rw [laidStr_size]; omega)]
      · have hs2 := hs (a3.size : Int) (by omega) (by omega)
        rw [Int.toNat_natCast] at hs2
        rw [if_neg (by decide), if_pos rfl, if_neg (by decide), if_pos rfl, u64_id (by omega) (by omega), ep _ (by omega) (by omega), Option.bind_some, Int.toNat_natCast, if_pos (by omega), if_pos (by rw [ByteArray.size_append]; omega)]
      · rw [if_neg (show ¬ (5 : Int) = 0 by decide), if_neg (show ¬ (5 : Int) = 2 by decide), if_neg (show ¬ (5 : Int) = 1 by decide), if_neg (show ¬ (5 : Int) = 0 by decide), if_neg (show ¬ (5 : Int) = 2 by decide), if_neg (show ¬ (5 : Int) = 1 by decide)]
        by_cases hg : a2 > 4294967295
        · rw [if_pos hg, if_pos hg]
        · rw [if_neg hg, if_neg hg]
          have el : wire_laid_s.f a2 4 = some (laidStr a2.toNat 4) := if_pos ⟨p4, p5, by decide, by decide⟩
          rw [el, Option.bind_some, if_pos (by rw [laidStr_size]; omega)]
    · rw [if_neg hm]
      by_cases n0 : a0 < 0
      · rw [if_pos n0]; rfl
      · by_cases n1 : a1 < 0
        · rw [if_neg n0, if_pos n1]; rfl
        · rw [if_neg n0, if_neg n1, u64_id (x := a0) (by omega) (by omega), u64_id (x := a1) (by omega) (by omega), wire_may_eval _ _ (by omega) (by omega), decide_eq_false hm]; rfl
  · cases h
set_option maxHeartbeats 1000000 in
theorem wire_Field_Bytes_s.calls (a0_0 : Int) (a0_1 : Int) (a0_2 : Int) (a0_3 : ByteArray) (r : ByteArray) (w : World) (h : wire_Field_Bytes_s.f a0_0 a0_1 a0_2 a0_3 = some r) :
    Calls Tryz.prog 74 #[.agg #[.int .i64 a0_0, .int .i64 a0_1, .int .u64 a0_2, .string a0_3]] w fun e w' => e = .returned (.string r) ∧ Below w.heap.size w w' := by
  obtain ⟨k, hk⟩ := wire_Field_Bytes_s.ev a0_0 a0_1 a0_2 a0_3 _ h
  exact wire_Field_Bytes.calls k a0_0 a0_1 a0_2 a0_3 r w hk
def wire_Text.f (a0 : Int) (a1 : ByteArray) : Option (ByteArray) := (wire_Field_Bytes_s.f a0 2 0 a1).bind fun t101 => (some t101)
set_option maxHeartbeats 8000000 in
set_option maxRecDepth 100000 in
theorem wire_Text.calls (a0 : Int) (a1 : ByteArray) (r : ByteArray) (w : World) (h : wire_Text.f a0 a1 = some r) :
    Calls Tryz.prog 37 #[.int .i64 a0, .string a1] w fun e w' => e = .returned (.string r) ∧ Below w.heap.size w w' := by
  have hu95 := Tryz.underlying95; have HB := mk0 (Below.refl w.heap.size w); have H : ((wire_Field_Bytes_s.f a0 2 0 a1).bind fun t101 => (some t101)) = some r := h; clear h; replace H := bnd H; obtain ⟨t101, A3, H⟩ := H; obtain rfl := Option.some.inj H
  go_enter Tryz.func37, Tryz.ntmps37
  go_wp2_with (first | ((with_reducible refine gate_callee (f := 74) rfl ?_); refine glE (some 8) rfl rfl Tryz.func74 (by kernel_rfl) rfl #[.agg #[.int .i64 a0, .int .i64 2, .int .u64 0, .string a1]] rfl ?_; (with_reducible refine (wire_Field_Bytes_s.calls a0 2 0 a1 t101 _ A3.out).mono ?_); rintro e w4 ⟨rfl, hb⟩; refine ⟨_, rfl, ?_⟩; replace HB := mk0 (below_step (hbA HB) hb); (try clear hb)))
  go_ret
  exact ⟨cl3, hbA HB⟩
def wire_Text_s.f (a0 : Int) (a1 : ByteArray) : Option ByteArray := wire_Field_Bytes_s.f a0 2 0 a1
theorem wire_Text_s.ev (a0 : Int) (a1 : ByteArray) (r) (h : wire_Text_s.f a0 a1 = some r) : ∃ k : Nat, wire_Text.f a0 a1 = some r := by
  unfold wire_Text_s.f at h
  exact ⟨0, by unfold wire_Text.f; rw [h]; rfl⟩
set_option maxHeartbeats 1000000 in
theorem wire_Text_s.calls (a0 : Int) (a1 : ByteArray) (r : ByteArray) (w : World) (h : wire_Text_s.f a0 a1 = some r) :
    Calls Tryz.prog 37 #[.int .i64 a0, .string a1] w fun e w' => e = .returned (.string r) ∧ Below w.heap.size w w' := by
  obtain ⟨k, hk⟩ := wire_Text_s.ev a0 a1 _ h
  exact wire_Text.calls a0 a1 r w hk
def Sh.lays166_ren : Go.Shelf.Ren := ⟨fun | 166 => 71 | 240 => 92 | 276 => 104 | n => n, fun | 0 => 0 | 3 => 3 | 4 => 4 | 5 => 5 | 9 => 9 | 20 => 20 | 37 => 80 | 70 => 126 | 72 => 128 | 75 => 130 | 80 => 134 | 164 => 173 | n => n, fun | n => n⟩
theorem Sh.lays166 : Go.Proofs.Lays.n166 Tryz.prog Sh.lays166_ren := {
  mixed := by kernel_rfl
  f166 := Tryz.func71.trans (congrArg some (by kernel_rfl))
  f240 := Tryz.func92.trans (congrArg some (by kernel_rfl))
  f276 := Tryz.func104.trans (congrArg some (by kernel_rfl))
  t0 := Tryz.underlying0
  a0 := Tryz.isAgg0
  z0 := Tryz.sizeOf0
  v0 := Tryz.zeroValue0
  t3 := Tryz.underlying3
  a3 := Tryz.isAgg3
  z3 := Tryz.sizeOf3
  v3 := Tryz.zeroValue3
  t4 := Tryz.underlying4
  a4 := Tryz.isAgg4
  z4 := Tryz.sizeOf4
  v4 := Tryz.zeroValue4
  t9 := Tryz.underlying9
  a9 := Tryz.isAgg9
  z9 := Tryz.sizeOf9
  v9 := Tryz.zeroValue9
  t20 := Tryz.underlying20
  a20 := Tryz.isAgg20
  z20 := Tryz.sizeOf20
  v20 := Tryz.zeroValue20
  t37 := Tryz.underlying80
  a37 := Tryz.isAgg80
  z37 := Tryz.sizeOf80
  v37 := Tryz.zeroValue80
  t70 := Tryz.underlying126
  a70 := Tryz.isAgg126
  z70 := Tryz.sizeOf126
  v70 := Tryz.zeroValue126
  t72 := Tryz.underlying128
  a72 := Tryz.isAgg128
  z72 := Tryz.sizeOf128
  v72 := Tryz.zeroValue128
  t75 := Tryz.underlying130
  a75 := Tryz.isAgg130
  z75 := Tryz.sizeOf130
  v75 := Tryz.zeroValue130
  t164 := Tryz.underlying173
  a164 := Tryz.isAgg173
  z164 := Tryz.sizeOf173
  v164 := Tryz.zeroValue173 }
theorem Sh.Builder_Extra_166 : Go.Proofs.Builder.Extra Tryz.prog Sh.lays166_ren := {
  sizeBuilder := by kernel_rfl
  liesBuilder := by kernel_rfl
  t5 := Tryz.underlying5
  a5 := Tryz.isAgg5
  z5 := Tryz.sizeOf5
  v5 := Tryz.zeroValue5
  infoByte := by kernel_rfl
  cellsByte := by kernel_rfl
  sizeByte := by kernel_rfl
  neB5 := by decide }
def Sh.lays169_ren : Go.Shelf.Ren := ⟨fun | 169 => 73 | n => n, fun | 0 => 0 | 3 => 3 | 5 => 5 | 9 => 9 | 37 => 80 | 70 => 126 | 72 => 128 | 127 => 159 | n => n, fun | n => n⟩
theorem Sh.lays169 : Go.Proofs.Lays.n169 Tryz.prog Sh.lays169_ren := {
  mixed := by kernel_rfl
  f169 := Tryz.func73.trans (congrArg some (by kernel_rfl))
  t0 := Tryz.underlying0
  a0 := Tryz.isAgg0
  z0 := Tryz.sizeOf0
  v0 := Tryz.zeroValue0
  t3 := Tryz.underlying3
  a3 := Tryz.isAgg3
  z3 := Tryz.sizeOf3
  v3 := Tryz.zeroValue3
  t9 := Tryz.underlying9
  a9 := Tryz.isAgg9
  z9 := Tryz.sizeOf9
  v9 := Tryz.zeroValue9
  t37 := Tryz.underlying80
  a37 := Tryz.isAgg80
  z37 := Tryz.sizeOf80
  v37 := Tryz.zeroValue80
  t70 := Tryz.underlying126
  a70 := Tryz.isAgg126
  z70 := Tryz.sizeOf126
  v70 := Tryz.zeroValue126
  t72 := Tryz.underlying128
  a72 := Tryz.isAgg128
  z72 := Tryz.sizeOf128
  v72 := Tryz.zeroValue128
  t127 := Tryz.underlying159
  a127 := Tryz.isAgg159
  z127 := Tryz.sizeOf159
  v127 := Tryz.zeroValue159 }
theorem Sh.Builder_Extra_169 : Go.Proofs.Builder.Extra Tryz.prog Sh.lays169_ren := {
  sizeBuilder := by kernel_rfl
  liesBuilder := by kernel_rfl
  t5 := Tryz.underlying5
  a5 := Tryz.isAgg5
  z5 := Tryz.sizeOf5
  v5 := Tryz.zeroValue5
  infoByte := by kernel_rfl
  cellsByte := by kernel_rfl
  sizeByte := by kernel_rfl
  neB5 := by decide }
theorem Sh.WriteString (B b : Nat) (bs : List Value) (s : ByteArray) (w : World) (h : Lib.IsBuilder 128 5 B b bs w) (hlen : bs.length + s.size ≤ 140737488355328) (hBw : B ≤ w.heap.size) :
    Calls Tryz.prog 71 #[.pointer (some ⟨b, 0, none⟩), .string s] w fun e w' => e = .returned (.tuple #[.int .i64 s.size, .nilIface]) ∧ (Lib.BuilderAt 128 5 B b (.pointer (some ⟨b, 0, none⟩)) (bs ++ Lib.strCells s) w' ∧ Below B w w') :=
  Go.Proofs.Any.Builder_WriteString Sh.lays166 Sh.Builder_Extra_166 B b bs s w h hlen hBw
theorem Sh.String (B b : Nat) (l : List UInt8) (w : World) (h : Lib.IsBuilder 128 5 B b (Lib.byteCells l) w) (hBw : B ≤ w.heap.size) :
    Calls Tryz.prog 73 #[.pointer (some ⟨b, 0, none⟩)] w fun e w' => e = .returned (.string ⟨l.toArray⟩) ∧ Below B w w' :=
  Go.Proofs.Any.Builder_String_any Sh.lays169 Sh.Builder_Extra_169 B b l w h hBw
theorem builderAt_below {T e : TypeId} {B b : Nat} {p : Value} {bs : List Value} {w w1 : World} (h : Lib.BuilderAt T e B b p bs w) (hb : Below w.heap.size w w1) : Lib.BuilderAt T e B b p bs w1 := by
  have hlt := h.lt
  obtain ⟨hB, v, hbk, hown, hne⟩ := h
  exact ⟨hB, v, (hb.block b hlt).trans hbk, own_move hown (fun k hk => hb.block k (own_lt hown k hk)), hne⟩
theorem isBuilder_below {T e : TypeId} {B b : Nat} {bs : List Value} {w w1 : World} (h : Lib.IsBuilder T e B b bs w) (hb : Below w.heap.size w w1) : Lib.IsBuilder T e B b bs w1 := by
  rcases h with h | h
  · exact .inl (builderAt_below h hb)
  · exact .inr (builderAt_below h hb)
theorem byteCells_append (a b : ByteArray) : Lib.byteCells a.data.toList ++ Lib.strCells b = Lib.byteCells (a ++ b).data.toList := by
  simp [Lib.byteCells, Lib.strCells, ByteArray.data_append]
def pack_Put.f (a0 : Int) (l1 : List Int) : Option ByteArray := if -9223372036854775808 ≤ a0 ∧ a0 < 9223372036854775808 ∧ l1.length ≤ 1000000000 then some (putS a0 l1) else none
theorem pack_Put_text (a0 : Int) (l1 : List Int) (h : -9223372036854775808 ≤ a0 ∧ a0 < 9223372036854775808 ∧ l1.length ≤ 1000000000) : wire_Text_s.f a0 (catS l1) = some (bytesS a0 2 0 (catS l1)) := by
  have hs := catS_size l1
  exact if_pos ⟨h.1, h.2.1, by decide, by decide, by decide, by decide, by omega⟩
set_option maxHeartbeats 8000000 in
set_option maxRecDepth 100000 in
theorem pack_Put.calls (a0 : Int) (A1 : Option Addr) (c1 : Nat) (l1 : List Int) (r : ByteArray) (w : World) (hr1 : Kd.C (Kd.int .i64) w A1 l1.length l1) (hc1 : l1.length ≤ c1) (h : pack_Put.f a0 l1 = some r) :
    Calls Tryz.prog 35 #[.int .i64 a0, .slice A1 l1.length c1] w fun e w' => e = .returned (.string r) ∧ Below w.heap.size w w' := by
  unfold pack_Put.f at h
  by_cases hb : -9223372036854775808 ≤ a0 ∧ a0 < 9223372036854775808 ∧ l1.length ≤ 1000000000
  · rw [if_pos hb] at h
    have Hput := Aside0.mk (Option.some.inj h)
    have Htext := Aside0.mk (pack_Put_text a0 l1 hb)
    have HL := Aside0.mk hb.2.2
    have HR1 := Aside0.mk hr1
    have HC1 := Aside0.mk hc1
    clear h hb hr1 hc1
    by_cases h0 : l1.length = 0
    · have hz : ((l1.length : Int) == 0) = true := by simp [h0]
      have Hn : Aside0 (l1 = []) := ⟨List.eq_nil_of_length_eq_zero h0⟩
      clear h0
      go_enter Tryz.func35, Tryz.ntmps35
      go_wp2
      go_ret
      exact ⟨by rw [← Hput.out, Hn.out]; rfl, Below.refl _ _⟩
    · have hz : ((l1.length : Int) == 0) = false := by simp; intro hh; exact h0 (by rw [hh]; rfl)
      have Hne : Aside0 (¬ l1 = []) := ⟨fun hh => h0 (by rw [hh]; rfl)⟩
      clear h0
      go_enter Tryz.func35, Tryz.ntmps35
      go_wp2
      have HB0 : Aside0 (Below w.heap.size w (w.alloc (Obj.cells #[Value.pointer none, Value.slice none 0 0] 128))) := ⟨below_alloc (Below.refl _ _) _⟩
      have HI0 : Aside0 (Lib.IsBuilder 128 5 w.heap.size w.heap.size (Lib.byteCells (catS (l1.take 0)).data.toList) (w.alloc (Obj.cells #[Value.pointer none, Value.slice none 0 0] 128))) := ⟨Lib.fresh_isBuilder _ _ w⟩
      go_loopg [13] l1.length (fun kq v13 w' => ∃ i : Nat, v13 = .int .i64 i ∧ Aside0 (i + kq = l1.length) ∧ i ≤ l1.length ∧ Aside0 (Lib.IsBuilder 128 5 w.heap.size w.heap.size (Lib.byteCells (catS (l1.take i)).data.toList) w') ∧ Aside0 (Below w.heap.size w w'))
      case atStart => exact ⟨0, rfl, ⟨by omega⟩, Nat.zero_le _, HI0, HB0⟩
      case round =>
        obtain ⟨i, rfl, HK, hi, HI, HB⟩ := hrel
        clear HB0 HI0
        by_cases hlt : i < l1.length
        · have hlt' : decide ((i : Int) < (l1.length : Int)) = true := by simpa using hlt
          obtain ⟨k1, rfl⟩ : ∃ m, gk = m + 1 := ⟨gk - 1, by have := HK.out; omega⟩
          have Hv : Aside0 (varint_Put.f (IntKind.u64.wrap (rd l1 i)) = some (vStr (IntKind.u64.wrap (rd l1 i)).toNat)) := ⟨if_pos (u64_range _)⟩
          have Hcat : Aside0 (Lib.byteCells (catS (l1.take i)).data.toList ++ Lib.strCells (vStr (IntKind.u64.wrap (rd l1 i)).toNat) = Lib.byteCells (catS (l1.take (i + 1))).data.toList) := ⟨by
            rw [byteCells_append, List.take_succ_eq_append_getElem hlt, catS_append]
            simp [catS, rd, List.getD_eq_getElem?_getD, hlt]⟩
          have Hlen : Aside0 ((Lib.byteCells (catS (l1.take i)).data.toList).length + (vStr (IntKind.u64.wrap (rd l1 i)).toNat).size ≤ 140737488355328) := ⟨by
            have h1 := catS_size (l1.take i)
            have h2 := vSize_10 (IntKind.u64.wrap (rd l1 i)).toNat (by have := u64_range (rd l1 i); omega)
            have h3 : (Lib.byteCells (catS (l1.take i)).data.toList).length = (catS (l1.take i)).size := by simp [Lib.byteCells]
            have h4 := HL.out
            rw [List.length_take] at h1
            rw [vStr_size, h3]
            omega⟩
          have Hw : Aside0 (wrap64 ((i : Int) + 1) = (i : Int) + 1) := ⟨by have := HL.out; exact wrap64_id (by omega) (by omega)⟩
          have p101 : 0 ≤ (i : Int) := Int.natCast_nonneg i
          have q101 : (i : Int) < (l1.length : Int) := by omega
          obtain ⟨ad101, e101, hx101_0⟩ := Kd.at_int HR1.out i p101 q101
          cases e101
          replace hx101_0 := (HB.out.cell (World.block_lt_of_cell? w _ hx101_0)).trans hx101_0
          rw [Int.toNat_natCast] at hx101_0
          replace p101 := eq_true p101
          replace q101 := eq_true q101
          go_wp2_with (first | (fail))
          refine (varint_Put.calls (IntKind.u64.wrap (rd l1 i)) _ _ Hv.out).mono ?_
          rintro e w8 ⟨rfl, hb⟩
          have n0_ := Aside0.mk (below_step HB.out hb)
          have n1_ := Aside0.mk (isBuilder_below HI.out hb)
          clear HB
          clear HI
          have HB := n0_
          have HI := n1_
          clear n0_ n1_
          clear hb
          go_wp2_with (first | (fail))
          refine (Sh.WriteString w.heap.size w.heap.size _ (vStr (IntKind.u64.wrap (rd l1 i)).toNat) _ HI.out Hlen.out (below_size HB.out)).mono ?_
          rintro e w9 ⟨rfl, hi8, hb⟩
          have n0_ := Aside0.mk (HB.out.trans hb)
          have n1_ := Aside0.mk (show Lib.IsBuilder 128 5 w.heap.size w.heap.size _ w9 from .inr hi8)
          clear HB
          clear HI
          have HB := n0_
          have HI := n1_
          clear n0_ n1_
          clear hb
          clear hi8
          go_wp2_with (first | (fail))
          go_roundg k1
          case measure => have := HK.out; omega
          case rel => exact ⟨i + 1, by rw [Hw.out]; rfl, ⟨by have := HK.out; omega⟩, by omega, ⟨by rw [← Hcat.out]; exact HI.out⟩, HB⟩
        · have hlt' : decide ((i : Int) < (l1.length : Int)) = false := by simpa using hlt
          have Hi : Aside0 (l1.take i = l1) := ⟨List.take_of_length_le (by omega)⟩
          have HI2 : Aside0 (Lib.IsBuilder 128 5 w.heap.size w.heap.size (Lib.byteCells (catS l1).data.toList) wr) := ⟨by have := HI.out; rw [Hi.out] at this; exact this⟩
          go_wp2_with (first | (fail))
          refine (Sh.String w.heap.size w.heap.size _ _ HI2.out (below_size HB.out)).mono ?_
          rintro e w8 ⟨rfl, hb⟩
          have n0_ := Aside0.mk (HB.out.trans hb)
          clear HB
          have HB := n0_
          clear n0_ hb
          go_wp2_with (first | (fail))
          refine (wire_Text_s.calls a0 (catS l1) _ _ Htext.out).mono ?_
          rintro e w9 ⟨rfl, hb⟩
          have n0_ := Aside0.mk (below_step HB.out hb)
          clear HB
          have HB := n0_
          clear n0_ hb
          go_wp2_with (first | (fail))
          go_ret
          exact ⟨by rw [← Hput.out, putS, if_neg Hne.out]; rfl, HB.out⟩
  · rw [if_neg hb] at h; cases h
def kEntry (k sz : Int) (s : ByteArray) (n : Nat) : MapEntry := { key := .int .i64 k, val := .agg #[.int .i64 sz, .string s], born := n }
def known5 : Array MapEntry := #[kEntry 1 4 ⟨#[102, 108, 111, 97, 116]⟩ 0, kEntry 2 1 ⟨#[98, 121, 116, 101]⟩ 1, kEntry 7 8 ⟨#[105, 110, 116]⟩ 2, kEntry 9 1 ⟨#[102, 108, 97, 103]⟩ 3, kEntry 14 8 ⟨#[103, 97, 117, 115, 115]⟩ 4]
theorem below_setObj {w W : World} {r : Nat} {o : Obj} (h : Below w.heap.size w W) (hr : w.heap.size ≤ r) : Below w.heap.size w { W with heap := W.heap.setIfInBounds r o } :=
  ⟨h.os, h.tape, h.output, by show _ ≤ (W.heap.setIfInBounds r o).size; rw [Array.size_setIfInBounds]; exact h.size, fun i hi => by
    show (W.heap.setIfInBounds r o)[i]? = _
    rw [Array.getElem?_setIfInBounds_ne (by omega)]; exact h.block i hi⟩
theorem insert_run {w W : World} {r : Nat} {es : Array MapEntry} {clock : Nat} (k : Int) (v : Value) (hb : W.heap[r]? = some (.map es clock)) (hf : Instr.findNow (.int .i64) (.int .i64 k) es.toList 0 = some none) (hr : w.heap.size ≤ r) (hB : Below w.heap.size w W) :
    ∃ W2, (Instr.mapUpdate 155 (.map (some r)) (.int .i64 k) v).run Tryz.prog W = .ok () W2 ∧ W2.heap[r]? = some (.map (es.push { key := .int .i64 k, val := v, born := clock }) (clock + 1)) ∧ Below w.heap.size w W2 := by
  have hk : MapKept.IsKey (.int .i64) (.int .i64 k) := by simp [MapKept.IsKey]
  have hd : Tryz.prog.underlying 30 = some (.int .i64) := Tryz.underlying30
  refine ⟨_, ?_, (MapKept.heap_set hb).1, below_setObj hB hr⟩
  simp [Instr.mapUpdate, run_underlying Tryz.underlying155, MapKept.run_getObj_map hb, MapKept.run_checkKey hd hk, MapKept.run_findKey hd hf, MapKept.run_setObj_map _ hb, Result.andThen]
set_option maxHeartbeats 4000000 in
theorem kind_known.calls (w : World) :
    Calls Tryz.prog 90 #[] w fun e w' => ∃ r, e = .returned (.map (some r)) ∧ w'.heap[r]? = some (.map known5 5) ∧ Below w.heap.size w w' := by
  obtain ⟨r, hr0⟩ : ∃ r, r = w.heap.size := ⟨_, rfl⟩
  have hr : w.heap.size ≤ r := by omega
  have b0 : Below w.heap.size w (w.alloc (.map #[] 0)) := below_alloc (Below.refl _ _) _
  have h0 : (w.alloc (.map #[] 0)).heap[r]? = some (.map #[] 0) := by rw [hr0]; exact blk_new w _
  have f0 : (Instr.makeMap 155 none).run Tryz.prog w = .ok (.map (some r)) (w.alloc (.map #[] 0)) := by rw [hr0]; rfl
  generalize w.alloc (.map #[] 0) = W0 at b0 h0 f0
  obtain ⟨W1, f1, h1, b1⟩ := insert_run (w := w) 1 (.agg #[.int .i64 4, .string ⟨#[102, 108, 111, 97, 116]⟩]) h0 rfl hr b0
  obtain ⟨W2, f2, h2, b2⟩ := insert_run (w := w) 2 (.agg #[.int .i64 1, .string ⟨#[98, 121, 116, 101]⟩]) h1 rfl hr b1
  obtain ⟨W3, f3, h3, b3⟩ := insert_run (w := w) 7 (.agg #[.int .i64 8, .string ⟨#[105, 110, 116]⟩]) h2 rfl hr b2
  obtain ⟨W4, f4, h4, b4⟩ := insert_run (w := w) 9 (.agg #[.int .i64 1, .string ⟨#[102, 108, 97, 103]⟩]) h3 rfl hr b3
  obtain ⟨W5, f5, h5, b5⟩ := insert_run (w := w) 14 (.agg #[.int .i64 8, .string ⟨#[103, 97, 117, 115, 115]⟩]) h4 rfl hr b4
  have H5 := Aside0.mk (show W5.heap[r]? = some (.map known5 5) from h5)
  have B5 := Aside0.mk b5
  clear h0 h1 h2 h3 h4 h5 b0 b1 b2 b3 b4 b5 hr hr0
  go_enter Tryz.func90, Tryz.ntmps90
  go_wp2
  go_ret
  exact ⟨r, rfl, H5.out, B5.out⟩
def sizeK (k : Int) : Int := if k = 1 then 4 else if k = 2 then 1 else if k = 7 then 8 else if k = 9 then 1 else if k = 14 then 8 else 0
def wordK (k : Int) : ByteArray := if k = 1 then ⟨#[102, 108, 111, 97, 116]⟩ else if k = 2 then ⟨#[98, 121, 116, 101]⟩ else if k = 7 then ⟨#[105, 110, 116]⟩ else if k = 9 then ⟨#[102, 108, 97, 103]⟩ else if k = 14 then ⟨#[103, 97, 117, 115, 115]⟩ else ⟨#[]⟩
def isK (k : Int) : Bool := decide (k = 1) || (decide (k = 2) || (decide (k = 7) || (decide (k = 9) || decide (k = 14))))
theorem find_known (k : Int) : ∃ o, Instr.findNow (.int .i64) (.int .i64 k) known5.toList 0 = some o ∧ o.map (·.2) = (if isK k = true then some (.agg #[.int .i64 (sizeK k), .string (wordK k)]) else none) := by
  have hs : ∀ a : Int, Instr.sameNow (.int .i64) (.int .i64 k) (.int .i64 a) = some (k == a) := fun a => by simp [Instr.sameNow]
  have hl : known5.toList = [kEntry 1 4 ⟨#[102, 108, 111, 97, 116]⟩ 0, kEntry 2 1 ⟨#[98, 121, 116, 101]⟩ 1, kEntry 7 8 ⟨#[105, 110, 116]⟩ 2, kEntry 9 1 ⟨#[102, 108, 97, 103]⟩ 3, kEntry 14 8 ⟨#[103, 97, 117, 115, 115]⟩ 4] := rfl
  rw [hl]
  simp only [Instr.findNow, kEntry, hs]
  by_cases h1 : k = 1
  · subst h1; exact ⟨_, rfl, rfl⟩
  by_cases h2 : k = 2
  · subst h2; exact ⟨_, rfl, rfl⟩
  by_cases h3 : k = 7
  · subst h3; exact ⟨_, rfl, rfl⟩
  by_cases h4 : k = 9
  · subst h4; exact ⟨_, rfl, rfl⟩
  by_cases h5 : k = 14
  · subst h5; exact ⟨_, rfl, rfl⟩
  rw [beq_eq_false_iff_ne.2 h1, beq_eq_false_iff_ne.2 h2, beq_eq_false_iff_ne.2 h3, beq_eq_false_iff_ne.2 h4, beq_eq_false_iff_ne.2 h5]
  refine ⟨none, rfl, ?_⟩
  unfold isK
  rw [decide_eq_false h1, decide_eq_false h2, decide_eq_false h3, decide_eq_false h4, decide_eq_false h5]
  rfl
theorem sizeK_no (k : Int) (h : isK k = false) : sizeK k = 0 ∧ wordK k = ⟨#[]⟩ := by
  unfold isK at h
  simp only [Bool.or_eq_false_iff, decide_eq_false_iff_not] at h
  unfold sizeK wordK
  rw [if_neg h.1, if_neg h.2.1, if_neg h.2.2.1, if_neg h.2.2.2.1, if_neg h.2.2.2.2, if_neg h.1, if_neg h.2.1, if_neg h.2.2.1, if_neg h.2.2.2.1, if_neg h.2.2.2.2]
  exact ⟨rfl, rfl⟩
theorem lookup_run {W : World} {r : Nat} (hb : W.heap[r]? = some (.map known5 5)) (k : Int) (c : Bool) : (Instr.lookup 155 (.map (some r)) (.int .i64 k) c).run Tryz.prog W = .ok (if c then .tuple #[.agg #[.int .i64 (sizeK k), .string (wordK k)], .bool (isK k)] else .agg #[.int .i64 (sizeK k), .string (wordK k)]) W := by
  have hk : MapKept.IsKey (.int .i64) (.int .i64 k) := by simp [MapKept.IsKey]
  have hd : Tryz.prog.underlying 30 = some (.int .i64) := Tryz.underlying30
  obtain ⟨o, ho, hm⟩ := find_known k
  cases hi : isK k with
  | true =>
    rw [if_pos hi] at hm
    obtain ⟨⟨i, v⟩, rfl, hv⟩ := Option.map_eq_some_iff.1 hm
    dsimp only at hv
    subst hv
    simp [Instr.lookup, run_underlying Tryz.underlying155, MapKept.run_getObj_map hb, MapKept.run_checkKey hd hk, MapKept.run_findKey hd ho, Result.andThen]
  | false =>
    rw [if_neg (by rw [hi]; simp)] at hm
    obtain rfl : o = none := by cases o with | none => rfl | some x => cases hm
    obtain ⟨s1, s2⟩ := sizeK_no k hi
    rw [s1, s2]
    simp [Instr.lookup, run_underlying Tryz.underlying155, MapKept.run_getObj_map hb, MapKept.run_checkKey hd hk, MapKept.run_findKey hd ho, Result.andThen, Tryz.zeroValue154]
set_option maxRecDepth 100000 in
theorem kind_Size.calls (k : Int) (w : World) :
    Calls Tryz.prog 56 #[.int .i64 k] w fun e w' => e = .returned (.int .i64 (sizeK k)) ∧ Below w.heap.size w w' := by
  have hf : ∀ w, (Instr.field 154 (.agg #[.int .i64 (sizeK k), .string (wordK k)]) 0).run Tryz.prog w = .ok (.int .i64 (sizeK k)) w := fun w => by
    simp [Instr.field, run_underlying Tryz.underlying154, asAgg, part, Tryz.isAgg3, Result.andThen]
  go_enter Tryz.func56, Tryz.ntmps56
  go_wp2_with (first | (fail))
  refine (kind_known.calls _).mono ?_
  rintro e w1 ⟨r, rfl, h, hb⟩
  have HB := Aside0.mk hb
  have hl : (Instr.lookup 155 (.map (some r)) (.int .i64 k) false).run Tryz.prog w1 = .ok (.agg #[.int .i64 (sizeK k), .string (wordK k)]) w1 := lookup_run h k false
  clear hb h
  go_wp2_with (first | (fail))
  go_ret
  exact ⟨rfl, HB.out⟩
set_option maxRecDepth 100000 in
theorem kind_String.calls (k : Int) (hk : isK k = true) (w : World) :
    Calls Tryz.prog 84 #[.int .i64 k] w fun e w' => e = .returned (.string (wordK k)) ∧ Below w.heap.size w w' := by
  go_enter Tryz.func84, Tryz.ntmps84
  go_wp2_with (first | (fail))
  refine (kind_known.calls _).mono ?_
  rintro e w1 ⟨r, rfl, h, hb⟩
  have HB := Aside0.mk hb
  have hl : (Instr.lookup 155 (.map (some r)) (.int .i64 k) true).run Tryz.prog w1 = .ok (.tuple #[.agg #[.int .i64 (sizeK k), .string (wordK k)], .bool (isK k)]) w1 := lookup_run h k true
  rw [hk] at hl
  clear hb h
  go_wp2_with (first | (fail))
  go_ret
  exact ⟨rfl, below_alloc HB.out _⟩
end Go.Proofs.YtgmggompdidcoaaGreatDoor.X
