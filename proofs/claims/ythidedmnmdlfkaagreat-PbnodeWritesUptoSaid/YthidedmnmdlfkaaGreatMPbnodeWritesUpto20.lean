import Derived.Test.YthidedmnmdlfkaaGreatMPbnodeWritesUpto2
import Derived.Test.YthidedmnmdlfkaaGreatMPbnodeWritesUpto19
import Derived.Test.YthidedmnmdlfkaaGreatMPbnodeWritesUpto5
import Derived.Test.YthidedmnmdlfkaaGreatMPbnodeWritesUpto4
import Derived.Test.YthidedmnmdlfkaaGreatMPbnodeWritesUpto3
namespace Go.Proofs.YthidedmnmdlfkaaGreat.X
open Go.RowKit Go.Proofs.YthidedmnmdlfkaaGreatW.PrintWords Go.Proofs.YthidedmnmdlfkaaGreatW.PrintLast Go.Proofs.YthidedmnmdlfkaaGreatW.PrintMore
attribute [local go_sem] max2_int min2_int max_two min_two max_three min_three max_four min_four
set_option linter.unusedVariables false
set_option linter.unusedSimpArgs false
def agateref11_PutInfo.l0 : Nat → ByteArray → Int → ByteArray → Int → List Int → Option (ByteArray)
 | 0, _, _, _, _, _ => none
 | k + 1, x3, x4, x102000, x102001, x102002 => if x4 < (x102002.length : Int) then (if 0 ≤ x4 then ((agateref02_Number_s.f 1 (IntKind.u64.wrap (rd x102002 x4))).bind fun t103 => ((agateref02_Text_s.f 1 t103).bind fun t104 => (if x3.size + t104.size ≤ 9223372036854775807 then (agateref11_PutInfo.l0 k (x3 ++ t104) (wrap64 (x4 + 1)) x102000 x102001 x102002) else (none)))) else (none)) else ((agateref02_Text_s.f 1 x102000).bind fun t105 => ((agateref02_Number_s.f 1 (IntKind.u64.wrap (x102001))).bind fun t106 => ((agateref02_Text_s.f 2 x3).bind fun t107 => (if t106.size + t107.size ≤ 9223372036854775807 then ((agateref02_Text_s.f 1 (t106 ++ t107)).bind fun t108 => ((agateref02_Text_s.f 2 t108).bind fun t109 => (if t105.size + t109.size ≤ 9223372036854775807 then (some (t105 ++ t109)) else (none)))) else (none)))))
def agateref11_PutInfo.f (k : Nat) (a0_0 : ByteArray) (a0_1 : Int) (l0_2 : List Int) : Option (ByteArray) := agateref11_PutInfo.l0 k (⟨#[]⟩ : ByteArray) 0 a0_0 a0_1 l0_2
def agateref11_PutInfo.T6 : Bool × List (List Nat × List Nat) := (true, [([], []), ([0], [0]), ([1], [1]), ([], []), ([3], [3]), ([4], [4]), ([5, 2], [5]), ([], []), ([7, 6], [7]), ([6, 8], [6, 8]), ([9, 8], [9]), ([10, 10], [10]), ([2, 11], [2, 11]), ([12, 11, 0, 1, 2, 3, 4, 5, 6, 7, 8, 9, 10, 11, 12], [12])])
def agateref11_PutInfo.B6 : List Nat := [0, 1, 3, 0, 8, 24, 63, 0, 255, 511, 1023, 2047, 4095, 8191]
theorem agateref11_PutInfo.tab6 : rtab .any (opsOf Tryz.f11 6) = agateref11_PutInfo.T6 := by kernel_rfl
theorem agateref11_PutInfo.bits6 : waitsOk agateref11_PutInfo.T6.2 agateref11_PutInfo.B6 = true := by kernel_rfl
set_option maxHeartbeats 8000000 in
set_option maxRecDepth 100000 in
theorem agateref11_PutInfo.calls (k : Nat) (a0_0 : ByteArray) (a0_1 : Int) (A0_2 : Option Addr) (c0_2 : Nat) (l0_2 : List Int) (r : ByteArray) (w : World) (hr0_2 : Kd.C (Kd.int .i64) w A0_2 l0_2.length l0_2) (hc0_2 : l0_2.length ≤ c0_2) (h : agateref11_PutInfo.f k a0_0 a0_1 l0_2 = some r) :
  Calls Tryz.prog 11 #[.agg #[.string a0_0, .int .i64 a0_1, .slice A0_2 l0_2.length c0_2]] w fun e w' => e = .returned (.string r) ∧ Below w.heap.size w w' := by
 have hu42 := Tryz.underlying42; have HR0_2 := mk0 hr0_2; have HC0_2 := mk0 hc0_2; clear hr0_2 hc0_2; have HB := mk0 (Below.refl w.heap.size w); have H : (agateref11_PutInfo.l0 k (⟨#[]⟩ : ByteArray) 0 a0_0 a0_1 l0_2) = some r := h; clear h; have H' := mk0 H; clear H
 go_enter Tryz.func11, Tryz.ntmps11
 go_wp2_with (first | ((with_reducible refine gate_dst (N := 1) rfl ?_); refine boxE (N := 1) (cs := #[.string a0_0, .int .i64 a0_1, .slice A0_2 l0_2.length c0_2]) (t := 42) ?_; intro gb101 hg w2 hbox hb; have BK101 := mk0 hbox; have GW101 := gwS HB hg; have GE101 := gwS HB hg; replace HB := hbS HB hb; clear hb hbox hg))
 go_loopg [3, 4] k (fun kq v3 v4 w' => ∃ (x3_1 : ByteArray) (x4_1 : Int), v3 = .string x3_1 ∧ v4 = .int .i64 x4_1 ∧ Aside0 (agateref11_PutInfo.l0 kq x3_1 x4_1 a0_0 a0_1 l0_2 = some r) ∧ Aside0 (kq ≤ k) ∧ Aside0 (w'.heap[gb101]? = some (.cells #[.string a0_0, .int .i64 a0_1, (.slice A0_2 l0_2.length c0_2)] 42 (0, 0))) ∧ Aside0 (Below w.heap.size w w'))
 case atStart => exact ⟨((⟨#[]⟩ : ByteArray)), (0), cl0, cl0, H', ⟨Nat.le_refl _⟩, ⟨bkA BK101⟩, ⟨hbA HB⟩⟩
 case round =>
  clear H'; obtain ⟨x3_1, x4_1, rfl, rfl, HA, HK1, BK101, HB⟩ := hrel
  cases gk with
  | zero => exact absurd HA.out (by simp [agateref11_PutInfo.l0])
  | succ k1 =>
   have H := HA.out; clear HA
   simp only [agateref11_PutInfo.l0] at H
   by_cases c3 : x4_1 < (l0_2.length : Int)
   ·
    rw [if_pos c3] at H; have c3b0 := decide_eq_true c3; clear c3; replace H := ifS H; obtain ⟨c4, H⟩ := H; have c4b0 := decide_eq_true c4; clear c4; replace H := bnd H; obtain ⟨t103, A5, H⟩ := H; replace H := bnd H; obtain ⟨t104, A6, H⟩ := H; replace H := ifS H; obtain ⟨c7, H⟩ := H; have c7b0 := eq_true c7; have c7b1 := decide_eq_true c7; try have c7b2 := eq_false (Nat.not_lt.2 c7)
    try have c7b3 := c7b2
    try simp only [ByteArray.size_append] at c7b3
    have H' := mk0 H; clear H; obtain ⟨hcz8_0, hcz8_1, hcz8_2⟩ := cz3 BK101; have p102 : 0 ≤ (x4_1 : Int) := ofd; have q102 : x4_1 < (l0_2.length : Int) := ofd; obtain ⟨ad102, e102, hx102_0⟩ := Kd.at_int HR0_2.out x4_1 p102 q102; cases e102; replace hx102_0 := hbc HB hx102_0; replace p102 := eq_true p102; replace q102 := eq_true q102
    go_wp2_with (first | ((with_reducible refine gate_callee (f := 26) rfl ?_); refine glE (some 19) rfl rfl Tryz.func26 (by kernel_rfl) rfl #[.int .i64 1, .int .u64 (IntKind.u64.wrap (rd l0_2 x4_1))] rfl ?_; (with_reducible refine (agateref02_Number_s.calls 1 (IntKind.u64.wrap (rd l0_2 x4_1)) t103 _ A5.out).mono ?_); rintro e w9 ⟨rfl, hb⟩; refine ⟨_, rfl, ?_⟩; replace BK101 := bkS BK101 hb; replace HB := hbS HB hb; (try clear hb)) | ((with_reducible refine gate_callee (f := 24) rfl ?_); refine glE (some 20) rfl rfl Tryz.func24 (by kernel_rfl) rfl #[.int .i64 1, .string t103] rfl ?_; (with_reducible refine (agateref02_Text_s.calls 1 t103 t104 _ A6.out).mono ?_); rintro e w10 ⟨rfl, hb⟩; refine ⟨_, rfl, ?_⟩; replace BK101 := bkS BK101 hb; replace HB := hbS HB hb; (try clear hb)))
    go_roundg k1
    case measure => have := HK1.out; omega
    case rel => exact ⟨(x3_1 ++ t104), (wrap64 (x4_1 + 1)), cl0, cl0, H', cl2 HK1, ⟨bkA BK101⟩, ⟨hbA HB⟩⟩
   ·
    rw [if_neg c3] at H; have c3b0 := decide_eq_false c3; clear c3; replace H := bnd H; obtain ⟨t105, A11, H⟩ := H; replace H := bnd H; obtain ⟨t106, A12, H⟩ := H; replace H := bnd H; obtain ⟨t107, A13, H⟩ := H; replace H := ifS H; obtain ⟨c14, H⟩ := H; have c14b0 := eq_true c14; have c14b1 := decide_eq_true c14; try have c14b2 := eq_false (Nat.not_lt.2 c14)
    try have c14b3 := c14b2
    try simp only [ByteArray.size_append] at c14b3
    replace H := bnd H; obtain ⟨t108, A15, H⟩ := H; replace H := bnd H; obtain ⟨t109, A16, H⟩ := H; replace H := ifS H; obtain ⟨c17, H⟩ := H; have c17b0 := eq_true c17; have c17b1 := decide_eq_true c17; try have c17b2 := eq_false (Nat.not_lt.2 c17)
    try have c17b3 := c17b2
    try simp only [ByteArray.size_append] at c17b3
    obtain rfl := Option.some.inj H; obtain ⟨hcz18_0, hcz18_1, hcz18_2⟩ := cz3 BK101
    try go_wp2
    replace BK101 := mk0 (blk_drew BK101.out); replace HB := mk0 (below_drew1 HB.out)
    refine start_ (n := 14) (S := fun w' => w'.cell? ⟨gb101, 0, none⟩ = some (.string a0_0) ∧ w'.cell? ⟨gb101, 1, none⟩ = some (.int .i64 a0_1) ∧ w'.cell? ⟨gb101, 2, none⟩ = some (.slice A0_2 l0_2.length c0_2)) (ds := []) (bA 14 0) (by kernel_rfl) rfl rfl ⟨bcA BK101 0, bcA BK101 1, bcA BK101 2⟩ (fun hHeld => ?_); refine with_tabW agateref11_PutInfo.tab6 agateref11_PutInfo.bits6 (fun HT_ HW_ => ?_)
    generalize wr.drew = w19 at BK101 HB hHeld ⊢
    refine puE (i := 0) (N := some 22) (bA 14 1) HT_ ?_
    refine puE (i := 3) (N := some 25) (bA 14 9) HT_ ?_
    refine puE (i := 7) (N := some 29) (bA 14 137) HT_ ?_
    refine taE (i := 1) (N := some 23) (bA 14 139) HT_ HW_ hHeld ?_
    refine taE (i := 4) (N := some 26) (bA 14 155) HT_ HW_ hHeld ?_
    refine puE (i := 5) (N := some 27) (bA 14 187) HT_ ?_
    refine one_ (i := 2) (N := some 24) (bA 14 191) rfl rfl (one_of HT_.out (by kernel_rfl)) (by decide) (fun K hK => ?_)
    refine goE Tryz.func24 (by kernel_rfl) rfl #[.int .i64 1, .string a0_0] (by rfl) rfl rfl ?_
    with_reducible refine (agateref02_Text_s.calls 1 a0_0 t105 _ A11.out).mono ?_
    rintro e w20 ⟨rfl, hb⟩
    refine ⟨_, rfl, ?_⟩
    replace BK101 := bkS BK101 hb; replace HB := hbS HB hb; try clear hb
    refine hK.out _ _ ⟨bcA BK101 0, bcA BK101 1, bcA BK101 2⟩ (fun hHeld => ?_)
    clear hK K
    refine noE 24 ?_
    refine one_ (i := 6) (N := some 28) (bA 14 255) rfl rfl (one_of HT_.out (by kernel_rfl)) (by decide) (fun K hK => ?_)
    refine goE Tryz.func26 (by kernel_rfl) rfl #[.int .i64 1, .int .u64 (IntKind.u64.wrap (a0_1))] (by rfl) rfl rfl ?_
    with_reducible refine (agateref02_Number_s.calls 1 (IntKind.u64.wrap (a0_1)) t106 _ A12.out).mono ?_
    rintro e w21 ⟨rfl, hb⟩
    refine ⟨_, rfl, ?_⟩
    replace BK101 := bkS BK101 hb; replace HB := hbS HB hb; try clear hb
    refine hK.out _ _ ⟨bcA BK101 0, bcA BK101 1, bcA BK101 2⟩ (fun hHeld => ?_)
    clear hK K
    refine noE 28 ?_
    refine one_ (i := 8) (N := some 30) (bA 14 511) rfl rfl (one_of HT_.out (by kernel_rfl)) (by decide) (fun K hK => ?_)
    refine goE Tryz.func24 (by kernel_rfl) rfl #[.int .i64 2, .string x3_1] (by rfl) rfl rfl ?_
    with_reducible refine (agateref02_Text_s.calls 2 x3_1 t107 _ A13.out).mono ?_
    rintro e w22 ⟨rfl, hb⟩
    refine ⟨_, rfl, ?_⟩
    replace BK101 := bkS BK101 hb; replace HB := hbS HB hb; try clear hb
    refine hK.out _ _ ⟨bcA BK101 0, bcA BK101 1, bcA BK101 2⟩ (fun hHeld => ?_)
    clear hK K
    refine noE 30 ?_
    refine puE (i := 9) (N := some 31) (bA 14 1023) HT_ ?_
    refine one_ (i := 10) (N := some 32) (bA 14 2047) rfl rfl (one_of HT_.out (by kernel_rfl)) (by decide) (fun K hK => ?_)
    refine goE Tryz.func24 (by kernel_rfl) rfl #[.int .i64 1, .string (t106 ++ t107)] (by rfl) rfl rfl ?_
    with_reducible refine (agateref02_Text_s.calls 1 (t106 ++ t107) t108 _ A15.out).mono ?_
    rintro e w23 ⟨rfl, hb⟩
    refine ⟨_, rfl, ?_⟩
    replace BK101 := bkS BK101 hb; replace HB := hbS HB hb; try clear hb
    refine hK.out _ _ ⟨bcA BK101 0, bcA BK101 1, bcA BK101 2⟩ (fun hHeld => ?_)
    clear hK K
    refine noE 32 ?_
    refine one_ (i := 11) (N := some 33) (bA 14 4095) rfl rfl (one_of HT_.out (by kernel_rfl)) (by decide) (fun K hK => ?_)
    refine goE Tryz.func24 (by kernel_rfl) rfl #[.int .i64 2, .string t108] (by rfl) rfl rfl ?_
    with_reducible refine (agateref02_Text_s.calls 2 t108 t109 _ A16.out).mono ?_
    rintro e w24 ⟨rfl, hb⟩
    refine ⟨_, rfl, ?_⟩
    replace BK101 := bkS BK101 hb; replace HB := hbS HB hb; try clear hb
    refine hK.out _ _ ⟨bcA BK101 0, bcA BK101 1, bcA BK101 2⟩ (fun hHeld => ?_)
    clear hK K
    refine noE 33 ?_
    refine puE (i := 12) (N := some 34) (bA 14 8191) HT_ ?_
    refine puE (i := 13) (N := some 2) (bA 14 16383) HT_ ?_
    refine done_ (done_of HT_.out (by kernel_rfl)) ?_
    try go_wp2
    go_ret
    exact ⟨cl3, hbA HB⟩
def agateref03_Put.l0 : Nat → Int → List Int → ByteArray → Int → Option (ByteArray)
 | 0, _, _, _, _ => none
 | k + 1, x0, x1, x5, x6 => if x6 < (x1.length : Int) then (if 0 ≤ x6 then ((agateref01_Put_s.f (IntKind.u64.wrap (rd x1 x6))).bind fun t102 => (if x5.size + (strOfNums t102).size ≤ 9223372036854775807 then (agateref03_Put.l0 k x0 x1 (x5 ++ (strOfNums t102)) (wrap64 (x6 + 1))) else (none))) else (none)) else ((agateref02_Text_s.f x0 x5).bind fun t105 => (some t105))
def agateref03_Put.f (k : Nat) (a0 : Int) (l1 : List Int) : Option (ByteArray) := if (l1.length : Int) = 0 then (some (⟨#[]⟩ : ByteArray)) else (agateref03_Put.l0 k a0 l1 (⟨#[]⟩ : ByteArray) 0)
set_option maxHeartbeats 8000000 in
set_option maxRecDepth 100000 in
theorem agateref03_Put.calls (k : Nat) (a0 : Int) (A1 : Option Addr) (c1 : Nat) (l1 : List Int) (r : ByteArray) (w : World) (hr1 : Kd.C (Kd.int .i64) w A1 l1.length l1) (hc1 : l1.length ≤ c1) (h : agateref03_Put.f k a0 l1 = some r) :
  Calls Tryz.prog 25 #[.int .i64 a0, .slice A1 l1.length c1] w fun e w' => e = .returned (.string r) ∧ Below w.heap.size w w' := by
 have HR1 := mk0 hr1; have HC1 := mk0 hc1; clear hr1 hc1; have HB := mk0 (Below.refl w.heap.size w); have H : (if (l1.length : Int) = 0 then (some (⟨#[]⟩ : ByteArray)) else (agateref03_Put.l0 k a0 l1 (⟨#[]⟩ : ByteArray) 0)) = some r := h; clear h
 by_cases c3 : (l1.length : Int) = 0
 ·
  rw [if_pos c3] at H; have c3b0 := beq_iff_eq.mpr c3; have c3b1 := bne_eq_false_iff_eq.mpr c3; clear c3; obtain rfl := Option.some.inj H
  go_enter Tryz.func25, Tryz.ntmps25
  go_wp2
  go_ret
  exact ⟨cl3, hbA HB⟩
 ·
  rw [if_neg c3] at H; have c3b0 := beq_eq_false_iff_ne.mpr c3; have c3b1 := bne_iff_ne.mpr c3; have c3b2 : ¬ (l1 = []) := fun h_ => c3 (by rw [h_]; rfl); have H' := mk0 H; clear H
  go_enter Tryz.func25, Tryz.ntmps25
  go_wp2
  go_loopg [5, 6] k (fun kq v5 v6 w' => ∃ (x5_1 : ByteArray) (x6_1 : Int), v5 = .string x5_1 ∧ v6 = .int .i64 x6_1 ∧ Aside0 (agateref03_Put.l0 kq a0 l1 x5_1 x6_1 = some r) ∧ Aside0 (kq ≤ k) ∧ Aside0 (Below w.heap.size w w'))
  case atStart => exact ⟨((⟨#[]⟩ : ByteArray)), (0), cl0, cl0, H', ⟨Nat.le_refl _⟩, ⟨hbA HB⟩⟩
  case round =>
   clear H'; try clear c1; try clear c3; try clear c3b0; try clear c3b1; try clear c3b2
   obtain ⟨x5_1, x6_1, rfl, rfl, HA, HK1, HB⟩ := hrel
   cases gk with
   | zero => exact absurd HA.out (by simp [agateref03_Put.l0])
   | succ k1 =>
    have H := HA.out; clear HA
    simp only [agateref03_Put.l0] at H
    by_cases c4 : x6_1 < (l1.length : Int)
    ·
     rw [if_pos c4] at H; have c4b0 := decide_eq_true c4; clear c4; replace H := ifS H; obtain ⟨c5, H⟩ := H; have c5b0 := decide_eq_true c5; clear c5; replace H := bnd H; obtain ⟨t102, A6, H⟩ := H; replace H := ifS H; obtain ⟨c7, H⟩ := H; have c7b0 := eq_true c7; have c7b1 := decide_eq_true c7; try have c7b2 := eq_false (Nat.not_lt.2 c7)
     try have c7b3 := c7b2
     try simp only [ByteArray.size_append] at c7b3
     have H' := mk0 H; clear H; have p101 : 0 ≤ (x6_1 : Int) := ofd; have q101 : x6_1 < (l1.length : Int) := ofd; obtain ⟨ad101, e101, hx101_0⟩ := Kd.at_int HR1.out x6_1 p101 q101; cases e101; replace hx101_0 := hbc HB hx101_0; replace p101 := eq_true p101; replace q101 := eq_true q101
     go_wp2_with (first | ((with_reducible refine gate_callee (f := 47) rfl ?_); refine glE (some 22) rfl rfl Tryz.func47 (by kernel_rfl) rfl #[.int .u64 (IntKind.u64.wrap (rd l1 x6_1))] rfl ?_; (with_reducible refine (agateref01_Put_s.calls (IntKind.u64.wrap (rd l1 x6_1)) t102 _ A6.out).mono ?_); rintro e w8 ⟨v103, rfl, ho0, hb⟩; refine ⟨_, rfl, ?_⟩; have HO104 := mk0 (Kd.R_lower ho0 (below_size (hbA HB))); replace HB := hbS HB hb; (try clear hb); (try clear ho0); have hcv9 := own_string (P := Tryz.prog) Tryz.underlying98 Tryz.underlying5 Tryz.underlying9 (Kd.own_of_R HO104.out)))
     go_roundg k1
     case measure => have := HK1.out; omega
     case rel => exact ⟨(x5_1 ++ (strOfNums t102)), (wrap64 (x6_1 + 1)), cl0, cl0, H', cl2 HK1, ⟨hbA HB⟩⟩
    ·
     rw [if_neg c4] at H; have c4b0 := decide_eq_false c4; clear c4; replace H := bnd H; obtain ⟨t105, A10, H⟩ := H; obtain rfl := Option.some.inj H
     go_wp2_with (first | ((with_reducible refine gate_callee (f := 24) rfl ?_); refine glE (some 27) rfl rfl Tryz.func24 (by kernel_rfl) rfl #[.int .i64 a0, .string x5_1] rfl ?_; (with_reducible refine (agateref02_Text_s.calls a0 x5_1 t105 _ A10.out).mono ?_); rintro e w11 ⟨rfl, hb⟩; refine ⟨_, rfl, ?_⟩; replace HB := hbS HB hb; (try clear hb)))
     go_ret
     exact ⟨cl3, hbA HB⟩
def agateref03_Put_s.f (a0 : Int) (l1 : List Int) : Option ByteArray := if -9223372036854775808 ≤ a0 ∧ a0 < 9223372036854775808 ∧ l1.length ≤ 1000000000 then some (putS a0 l1) else none
theorem refPut_eval (num : Int) (hn : -9223372036854775808 ≤ num ∧ num < 9223372036854775808) (l : List Int) (hl : l.length ≤ 1000000000) (d : Nat) : ∀ (k i : Nat), l.length - i = d → i ≤ l.length → d < k →
    agateref03_Put.l0 k num l (catS (l.take i)) i = some (bytesS num 2 0 (catS l)) := by
  induction d with
  | zero =>
    intro k i hd hi hk
    obtain ⟨k, rfl⟩ : ∃ m, k = m + 1 := ⟨k - 1, by omega⟩
    rw [agateref03_Put.l0, if_neg (by omega), List.take_of_length_le (by omega)]
    have hs := catS_size l
    have e : agateref02_Text_s.f num (catS l) = some (bytesS num 2 0 (catS l)) := if_pos ⟨hn.1, hn.2, by decide, by decide, by decide, by decide, by omega⟩
    rw [e]; rfl
  | succ d ih =>
    intro k i hd hi hk
    obtain ⟨k, rfl⟩ : ∃ m, k = m + 1 := ⟨k - 1, by omega⟩
    have h0 : i < l.length := by omega
    have e0 : rd l (i : Int) = l[i] := by simp [rd, List.getD_eq_getElem?_getD, h0]
    have hu := u64_range l[i]
    have e1 : agateref01_Put_s.f (IntKind.u64.wrap l[i]) = some ((vPut (IntKind.u64.wrap l[i]).toNat).map Int.ofNat) := if_pos hu
    have ew : wrap64 ((i : Int) + 1) = ((i + 1 : Nat) : Int) := by rw [wrap64_id (by omega) (by omega)]; omega
    have hs := catS_size (l.take i)
    rw [List.length_take] at hs
    have hv := vSize_10 (IntKind.u64.wrap l[i]).toNat (by omega)
    have ht : catS (l.take (i + 1)) = catS (l.take i) ++ vStr (IntKind.u64.wrap l[i]).toNat := by
      rw [List.take_succ_eq_append_getElem h0, catS_append]
      congr 1
      apply ns_inj
      simp [catS, ns_append, ns]
    rw [agateref03_Put.l0, if_pos (by omega), if_pos (by omega), e0, e1, Option.bind_some, ew]
    show (if (catS (l.take i)).size + (vStr (IntKind.u64.wrap l[i]).toNat).size ≤ 9223372036854775807 then agateref03_Put.l0 k num l (catS (l.take i) ++ vStr (IntKind.u64.wrap l[i]).toNat) ((i + 1 : Nat) : Int) else none) = _
    rw [if_pos (by rw [vStr_size]; clear ew e0 e1; omega), ← ht]
    exact ih k (i + 1) (by omega) (by omega) (by omega)
theorem agateref03_Put_s.ev (a0 : Int) (l1 : List Int) (r) (h : agateref03_Put_s.f a0 l1 = some r) : ∃ k, agateref03_Put.f k a0 l1 = some r := by
  unfold agateref03_Put_s.f at h
  split at h
  · rename_i hs
    rw [← h]
    refine ⟨l1.length + 1, ?_⟩
    unfold agateref03_Put.f putS
    by_cases h0 : l1 = []
    · rw [if_pos (by rw [h0]; rfl), if_pos h0]
    · have hne : l1.length ≠ 0 := fun h => h0 (List.eq_nil_of_length_eq_zero h)
      rw [if_neg (by omega), if_neg h0]
      exact refPut_eval a0 ⟨hs.1, hs.2.1⟩ l1 hs.2.2 l1.length _ 0 (by omega) (by omega) (by omega)
  · cases h
set_option maxHeartbeats 1000000 in
theorem agateref03_Put_s.calls (a0 : Int) (A1 : Option Addr) (c1 : Nat) (l1 : List Int) (r : ByteArray) (w : World) (hr1 : Kd.C (Kd.int .i64) w A1 l1.length l1) (hc1 : l1.length ≤ c1) (h : agateref03_Put_s.f a0 l1 = some r) :
    Calls Tryz.prog 25 #[.int .i64 a0, .slice A1 l1.length c1] w fun e w' => e = .returned (.string r) ∧ Below w.heap.size w w' := by
  obtain ⟨k, hk⟩ := agateref03_Put_s.ev a0 l1 _ h
  exact agateref03_Put.calls k a0 A1 c1 l1 r w hr1 hc1 hk
end Go.Proofs.YthidedmnmdlfkaaGreat.X
namespace Go.Proofs.YthidedmnmdlfkaaGreat.X
open Go.RowKit Go.Proofs.YthidedmnmdlfkaaGreatW.PrintWords Go.Proofs.YthidedmnmdlfkaaGreatW.PrintLast Go.Proofs.YthidedmnmdlfkaaGreatW.PrintMore
attribute [local go_sem] max2_int min2_int max_two min_two max_three min_three max_four min_four
set_option linter.unusedVariables false
set_option linter.unusedSimpArgs false
mutual
def agateref11_PutNode.l0 : Nat → ByteArray → Int → ByteArray → List ByteArray → ByteArray → List (S50) → Option (ByteArray)
 | 0, _, _, _, _, _, _ => none
 | k + 1, x3, x4, x102000, x102001, x102002, x102003 => if x4 < (x102001.length : Int) then (if 0 ≤ x4 then ((agateref02_Text_s.f 1 (rdOf ByteArray.empty x102001 x4)).bind fun t103 => (if x3.size + t103.size ≤ 9223372036854775807 then (agateref11_PutNode.l0 k (x3 ++ t103) (wrap64 (x4 + 1)) x102000 x102001 x102002 x102003) else (none))) else (none)) else ((agateref02_Text_s.f 2 x102002).bind fun t104 => (if x3.size + t104.size ≤ 9223372036854775807 then ((agateref02_Text_s.f 4 x102000).bind fun t105 => (if (x3 ++ t104).size + t105.size ≤ 9223372036854775807 then (agateref11_PutNode.l1 k ((x3 ++ t104) ++ t105) 0 x102000 x102001 x102002 x102003) else (none))) else (none)))
def agateref11_PutNode.l1 : Nat → ByteArray → Int → ByteArray → List ByteArray → ByteArray → List (S50) → Option (ByteArray)
 | 0, _, _, _, _, _, _ => none
 | k + 1, x3, x5, x102000, x102001, x102002, x102003 => if x5 < (x102003.length : Int) then (if 0 ≤ x5 then ((agateref02_Text_s.f 1 ((rd_T50 x102003 x5).f0)).bind fun t108 => ((agateref03_Put_s.f 8 ((rd_T50 x102003 x5).f3)).bind fun t109 => (if t108.size + t109.size ≤ 9223372036854775807 then ((agateref02_Number_s.f 20 7).bind fun t110 => (if (t108 ++ t109).size + t110.size ≤ 9223372036854775807 then (if (rd_T50 x102003 x5).f1 = true then ((agateref02_Text_s.f 1 ((rd_T50 x102003 x5).f0)).bind fun t111 => ((agateref02_Number_s.f 3 (IntKind.u64.wrap ((rd_T50 x102003 x5).f2))).bind fun t112 => (if t111.size + t112.size ≤ 9223372036854775807 then ((agateref02_Number_s.f 20 2).bind fun t113 => (if (t111 ++ t112).size + t113.size ≤ 9223372036854775807 then ((agateref02_Text_s.f 5 ((t111 ++ t112) ++ t113)).bind fun t114 => (if x3.size + t114.size ≤ 9223372036854775807 then (agateref11_PutNode.l1 k (x3 ++ t114) (wrap64 (x5 + 1)) x102000 x102001 x102002 x102003) else (none))) else (none))) else (none)))) else ((agateref02_Text_s.f 5 ((t108 ++ t109) ++ t110)).bind fun t115 => (if x3.size + t115.size ≤ 9223372036854775807 then (agateref11_PutNode.l1 k (x3 ++ t115) (wrap64 (x5 + 1)) x102000 x102001 x102002 x102003) else (none)))) else (none))) else (none)))) else (none)) else (some x3)
end
def agateref11_PutNode.f (k : Nat) (a0_0 : ByteArray) (l0_1 : List ByteArray) (a0_2 : ByteArray) (l0_3 : List (S50)) : Option (ByteArray) := agateref11_PutNode.l0 k (⟨#[]⟩ : ByteArray) 0 a0_0 l0_1 a0_2 l0_3
def agateref11_PutNode.T6 : Bool × List (List Nat × List Nat) := (true, [([], []), ([], []), ([1], [1]), ([2], [2]), ([0, 3], [0, 3]), ([], []), ([5], [5]), ([6, 3], [6]), ([4, 7], [4, 7]), ([8, 7, 0, 1, 2, 3, 4, 5, 6, 7, 8], [0, 8])])
def agateref11_PutNode.B6 : List Nat := [0, 0, 2, 6, 15, 0, 32, 110, 255, 511]
theorem agateref11_PutNode.tab6 : rtab .any (opsOf Tryz.f10 6) = agateref11_PutNode.T6 := by kernel_rfl
theorem agateref11_PutNode.bits6 : waitsOk agateref11_PutNode.T6.2 agateref11_PutNode.B6 = true := by kernel_rfl
def agateref11_PutNode.T11 : Bool × List (List Nat × List Nat) := (true, [([], []), ([0], [0]), ([1], [1]), ([], []), ([3], [3]), ([4, 2], [4]), ([2, 5], [2, 5]), ([5], []), ([6, 7], [6, 7]), ([8, 7, 0, 1, 2, 3, 4, 5, 6, 7, 8], [8])])
def agateref11_PutNode.B11 : List Nat := [0, 1, 3, 0, 8, 31, 63, 63, 255, 511]
theorem agateref11_PutNode.tab11 : rtab .any (opsOf Tryz.f10 11) = agateref11_PutNode.T11 := by kernel_rfl
theorem agateref11_PutNode.bits11 : waitsOk agateref11_PutNode.T11.2 agateref11_PutNode.B11 = true := by kernel_rfl
def agateref11_PutNode.T13 : Bool × List (List Nat × List Nat) := (true, [([], []), ([0], [0]), ([1], [1]), ([], []), ([3], [3]), ([4], [4]), ([5, 2], [5]), ([2, 6], [2, 6]), ([6], []), ([7, 8], [7, 8]), ([9, 8, 0, 1, 2, 3, 4, 5, 6, 7, 8, 9], [9])])
def agateref11_PutNode.B13 : List Nat := [0, 1, 3, 0, 8, 24, 63, 127, 127, 511, 1023]
theorem agateref11_PutNode.tab13 : rtab .any (opsOf Tryz.f10 13) = agateref11_PutNode.T13 := by kernel_rfl
theorem agateref11_PutNode.bits13 : waitsOk agateref11_PutNode.T13.2 agateref11_PutNode.B13 = true := by kernel_rfl
set_option maxHeartbeats 8000000 in
set_option maxRecDepth 100000 in
theorem agateref11_PutNode.calls (k : Nat) (a0_0 : ByteArray) (A0_1 : Option Addr) (c0_1 : Nat) (l0_1 : List ByteArray) (a0_2 : ByteArray) (A0_3 : Option Addr) (c0_3 : Nat) (l0_3 : List (S50)) (r : ByteArray) (w : World) (hr0_1 : Kd.C Kd.string w A0_1 l0_1.length l0_1) (hc0_1 : l0_1.length ≤ c0_1) (hr0_3 : Kd.C k50 w A0_3 l0_3.length l0_3) (hc0_3 : l0_3.length ≤ c0_3) (h : agateref11_PutNode.f k a0_0 l0_1 a0_2 l0_3 = some r) :
  Calls Tryz.prog 10 #[.agg #[.string a0_0, .slice A0_1 l0_1.length c0_1, .string a0_2, .slice A0_3 l0_3.length c0_3]] w fun e w' => e = .returned (.string r) ∧ Below w.heap.size w w' := by
 have hu39 := Tryz.underlying39; have hu50 := Tryz.underlying50; have HR0_1 := mk0 hr0_1; have HC0_1 := mk0 hc0_1; clear hr0_1 hc0_1; have HR0_3 := mk0 hr0_3; have HC0_3 := mk0 hc0_3; clear hr0_3 hc0_3; have HB := mk0 (Below.refl w.heap.size w); have H : (agateref11_PutNode.l0 k (⟨#[]⟩ : ByteArray) 0 a0_0 l0_1 a0_2 l0_3) = some r := h; clear h; have H' := mk0 H; clear H
 go_enter Tryz.func10, Tryz.ntmps10
 go_wp2_with (first | ((with_reducible refine gate_dst (N := 1) rfl ?_); refine boxE (N := 1) (cs := #[.string a0_0, .slice A0_1 l0_1.length c0_1, .string a0_2, .slice A0_3 l0_3.length c0_3]) (t := 39) ?_; intro gb101 hg w2 hbox hb; have BK101 := mk0 hbox; have GW101 := gwS HB hg; have GE101 := gwS HB hg; replace HB := hbS HB hb; clear hb hbox hg))
 go_loopg [3, 4] k (fun kq v3 v4 w' => ∃ (x3_1 : ByteArray) (x4_1 : Int), v3 = .string x3_1 ∧ v4 = .int .i64 x4_1 ∧ Aside0 (agateref11_PutNode.l0 kq x3_1 x4_1 a0_0 l0_1 a0_2 l0_3 = some r) ∧ Aside0 (kq ≤ k) ∧ Aside0 (w'.heap[gb101]? = some (.cells #[.string a0_0, (.slice A0_1 l0_1.length c0_1), .string a0_2, (.slice A0_3 l0_3.length c0_3)] 39 (0, 0))) ∧ Aside0 (Below w.heap.size w w'))
 case atStart => exact ⟨((⟨#[]⟩ : ByteArray)), (0), cl0, cl0, H', ⟨Nat.le_refl _⟩, ⟨bkA BK101⟩, ⟨hbA HB⟩⟩
 case round =>
  clear H'; obtain ⟨x3_1, x4_1, rfl, rfl, HA, HK1, BK101, HB⟩ := hrel
  cases gk with
  | zero => exact absurd HA.out (by simp [agateref11_PutNode.l0])
  | succ k1 =>
   have H := HA.out; clear HA
   simp only [agateref11_PutNode.l0] at H
   by_cases c3 : x4_1 < (l0_1.length : Int)
   ·
    rw [if_pos c3] at H; have c3b0 := decide_eq_true c3; clear c3; replace H := ifS H; obtain ⟨c4, H⟩ := H; have c4b0 := decide_eq_true c4; clear c4; replace H := bnd H; obtain ⟨t103, A5, H⟩ := H; replace H := ifS H; obtain ⟨c6, H⟩ := H; have c6b0 := eq_true c6; have c6b1 := decide_eq_true c6; try have c6b2 := eq_false (Nat.not_lt.2 c6)
    try have c6b3 := c6b2
    try simp only [ByteArray.size_append] at c6b3
    have H' := mk0 H; clear H; obtain ⟨hcz7_0, hcz7_1, hcz7_2, hcz7_3⟩ := cz4 BK101; have hfz7_0 := fz BK101 0; have hfz7_1 := fz BK101 1; have hfz7_2 := fz BK101 2; have hfz7_3 := fz BK101 3; have p102 : 0 ≤ (x4_1 : Int) := ofd; have q102 : x4_1 < (l0_1.length : Int) := ofd; obtain ⟨ad102, e102, hx102_0⟩ := Kd.at_string HR0_1.out x4_1 p102 q102; cases e102; replace hx102_0 := hbc HB hx102_0; replace p102 := eq_true p102; replace q102 := eq_true q102
    go_wp2_with (first | ((with_reducible refine gate_callee (f := 24) rfl ?_); refine glE (some 21) rfl rfl Tryz.func24 (by kernel_rfl) rfl #[.int .i64 1, .string (rdOf ByteArray.empty l0_1 x4_1)] rfl ?_; (with_reducible refine (agateref02_Text_s.calls 1 (rdOf ByteArray.empty l0_1 x4_1) t103 _ A5.out).mono ?_); rintro e w8 ⟨rfl, hb⟩; refine ⟨_, rfl, ?_⟩; replace BK101 := bkS BK101 hb; replace HB := hbS HB hb; (try clear hb)))
    go_roundg k1
    case measure => have := HK1.out; omega
    case rel => exact ⟨(x3_1 ++ t103), (wrap64 (x4_1 + 1)), cl0, cl0, H', cl2 HK1, ⟨bkA BK101⟩, ⟨hbA HB⟩⟩
   ·
    rw [if_neg c3] at H; have c3b0 := decide_eq_false c3; clear c3; replace H := bnd H; obtain ⟨t104, A9, H⟩ := H; replace H := ifS H; obtain ⟨c10, H⟩ := H; have c10b0 := eq_true c10; have c10b1 := decide_eq_true c10; try have c10b2 := eq_false (Nat.not_lt.2 c10)
    try have c10b3 := c10b2
    try simp only [ByteArray.size_append] at c10b3
    replace H := bnd H; obtain ⟨t105, A11, H⟩ := H; replace H := ifS H; obtain ⟨c12, H⟩ := H; have c12b0 := eq_true c12; have c12b1 := decide_eq_true c12; try have c12b2 := eq_false (Nat.not_lt.2 c12)
    try have c12b3 := c12b2
    try simp only [ByteArray.size_append] at c12b3
    have H' := mk0 H; clear H; obtain ⟨hcz13_0, hcz13_1, hcz13_2, hcz13_3⟩ := cz4 BK101; have hfz13_0 := fz BK101 0; have hfz13_1 := fz BK101 1; have hfz13_2 := fz BK101 2; have hfz13_3 := fz BK101 3
    try go_wp2
    replace BK101 := mk0 (blk_drew BK101.out); replace HB := mk0 (below_drew1 HB.out)
    refine start_ (n := 10) (S := fun w' => w'.cell? ⟨gb101, 0, none⟩ = some (.string a0_0) ∧ w'.cell? ⟨gb101, 1, none⟩ = some (.slice A0_1 l0_1.length c0_1) ∧ w'.cell? ⟨gb101, 2, none⟩ = some (.string a0_2) ∧ w'.cell? ⟨gb101, 3, none⟩ = some (.slice A0_3 l0_3.length c0_3)) (ds := []) (bA 10 0) (by kernel_rfl) rfl rfl ⟨bcA BK101 0, bcA BK101 1, bcA BK101 2, bcA BK101 3⟩ (fun hHeld => ?_); refine with_tabW agateref11_PutNode.tab6 agateref11_PutNode.bits6 (fun HT_ HW_ => ?_)
    generalize wr.drew = w14 at BK101 HB hHeld ⊢
    refine puE (i := 0) (N := some 23) (bA 10 1) HT_ ?_
    refine puE (i := 1) (N := some 24) (bA 10 3) HT_ ?_
    refine puE (i := 5) (N := some 28) (bA 10 35) HT_ ?_
    refine taE (i := 2) (N := some 25) (bA 10 39) HT_ HW_ hHeld ?_
    refine taE (i := 6) (N := some 29) (bA 10 103) HT_ HW_ hHeld ?_
    refine one_ (i := 3) (N := some 26) (bA 10 111) rfl rfl (one_of HT_.out (by kernel_rfl)) (by decide) (fun K hK => ?_)
    refine goE Tryz.func24 (by kernel_rfl) rfl #[.int .i64 2, .string a0_2] (by rfl) rfl rfl ?_
    with_reducible refine (agateref02_Text_s.calls 2 a0_2 t104 _ A9.out).mono ?_
    rintro e w15 ⟨rfl, hb⟩
    refine ⟨_, rfl, ?_⟩
    replace BK101 := bkS BK101 hb; replace HB := hbS HB hb; try clear hb
    refine hK.out _ _ ⟨bcA BK101 0, bcA BK101 1, bcA BK101 2, bcA BK101 3⟩ (fun hHeld => ?_)
    clear hK K
    refine noE 26 ?_
    refine puE (i := 4) (N := some 27) (bA 10 127) HT_ ?_
    refine one_ (i := 7) (N := some 30) (bA 10 255) rfl rfl (one_of HT_.out (by kernel_rfl)) (by decide) (fun K hK => ?_)
    refine goE Tryz.func24 (by kernel_rfl) rfl #[.int .i64 4, .string a0_0] (by rfl) rfl rfl ?_
    with_reducible refine (agateref02_Text_s.calls 4 a0_0 t105 _ A11.out).mono ?_
    rintro e w16 ⟨rfl, hb⟩
    refine ⟨_, rfl, ?_⟩
    replace BK101 := bkS BK101 hb; replace HB := hbS HB hb; try clear hb
    refine hK.out _ _ ⟨bcA BK101 0, bcA BK101 1, bcA BK101 2, bcA BK101 3⟩ (fun hHeld => ?_)
    clear hK K
    refine noE 30 ?_
    refine puE (i := 8) (N := some 31) (bA 10 511) HT_ ?_
    refine puE (i := 9) (N := some 3) (bA 10 1023) HT_ ?_
    refine done_ (done_of HT_.out (by kernel_rfl)) ?_
    try go_wp2
    go_loopg [3, 5] k1 (fun kq v3 v5 w' => ∃ (x3_2 : ByteArray) (x5_2 : Int), v3 = .string x3_2 ∧ v5 = .int .i64 x5_2 ∧ Aside0 (agateref11_PutNode.l1 kq x3_2 x5_2 a0_0 l0_1 a0_2 l0_3 = some r) ∧ Aside0 (kq ≤ k1) ∧ Aside0 (w'.heap[gb101]? = some (.cells #[.string a0_0, (.slice A0_1 l0_1.length c0_1), .string a0_2, (.slice A0_3 l0_3.length c0_3)] 39 (0, 0))) ∧ Aside0 (Below w.heap.size w w'))
    case atStart => exact ⟨((x3_1 ++ t104) ++ t105), (0), cl0, cl0, H', ⟨Nat.le_refl _⟩, ⟨bkA BK101⟩, ⟨hbA HB⟩⟩
    case round =>
     clear H'; obtain ⟨x3_2, x5_2, rfl, rfl, HA, HK2, BK101, HB⟩ := hrel
     cases gk with
     | zero => exact absurd HA.out (by simp [agateref11_PutNode.l1])
     | succ k2 =>
      have H := HA.out; clear HA
      simp only [agateref11_PutNode.l1] at H
      by_cases c17 : x5_2 < (l0_3.length : Int)
      ·
       rw [if_pos c17] at H; have c17b0 := decide_eq_true c17; clear c17; replace H := ifS H; obtain ⟨c18, H⟩ := H; have c18b0 := decide_eq_true c18; clear c18; replace H := bnd H; obtain ⟨t108, A19, H⟩ := H; replace H := bnd H; obtain ⟨t109, A20, H⟩ := H; replace H := ifS H; obtain ⟨c21, H⟩ := H; have c21b0 := eq_true c21; have c21b1 := decide_eq_true c21; try have c21b2 := eq_false (Nat.not_lt.2 c21)
       try have c21b3 := c21b2
       try simp only [ByteArray.size_append] at c21b3
       replace H := bnd H; obtain ⟨t110, A22, H⟩ := H; replace H := ifS H; obtain ⟨c23, H⟩ := H; have c23b0 := eq_true c23; have c23b1 := decide_eq_true c23; try have c23b2 := eq_false (Nat.not_lt.2 c23)
       try have c23b3 := c23b2
       try simp only [ByteArray.size_append] at c23b3
       obtain ⟨bq24, hbq24⟩ : ∃ b_ : Bool, b_ = ((rd_T50 l0_3 x5_2).f1) := ⟨_, rfl⟩; replace H : (if bq24 = true then ((agateref02_Text_s.f 1 ((rd_T50 l0_3 x5_2).f0)).bind fun t111 => ((agateref02_Number_s.f 3 (IntKind.u64.wrap ((rd_T50 l0_3 x5_2).f2))).bind fun t112 => (if t111.size + t112.size ≤ 9223372036854775807 then ((agateref02_Number_s.f 20 2).bind fun t113 => (if (t111 ++ t112).size + t113.size ≤ 9223372036854775807 then ((agateref02_Text_s.f 5 ((t111 ++ t112) ++ t113)).bind fun t114 => (if x3_2.size + t114.size ≤ 9223372036854775807 then (agateref11_PutNode.l1 k2 (x3_2 ++ t114) (wrap64 (x5_2 + 1)) a0_0 l0_1 a0_2 l0_3) else (none))) else (none))) else (none)))) else ((agateref02_Text_s.f 5 ((t108 ++ t109) ++ t110)).bind fun t115 => (if x3_2.size + t115.size ≤ 9223372036854775807 then (agateref11_PutNode.l1 k2 (x3_2 ++ t115) (wrap64 (x5_2 + 1)) a0_0 l0_1 a0_2 l0_3) else (none)))) = some r := by rw [← hbq24] at H; exact H
       have Nbq24 := mk0 hbq24; clear hbq24
       by_cases c25 : bq24 = true
       ·
        subst c25; have H1 : ((agateref02_Text_s.f 1 ((rd_T50 l0_3 x5_2).f0)).bind fun t111 => ((agateref02_Number_s.f 3 (IntKind.u64.wrap ((rd_T50 l0_3 x5_2).f2))).bind fun t112 => (if t111.size + t112.size ≤ 9223372036854775807 then ((agateref02_Number_s.f 20 2).bind fun t113 => (if (t111 ++ t112).size + t113.size ≤ 9223372036854775807 then ((agateref02_Text_s.f 5 ((t111 ++ t112) ++ t113)).bind fun t114 => (if x3_2.size + t114.size ≤ 9223372036854775807 then (agateref11_PutNode.l1 k2 (x3_2 ++ t114) (wrap64 (x5_2 + 1)) a0_0 l0_1 a0_2 l0_3) else (none))) else (none))) else (none)))) = some r := by rw [if_pos rfl] at H; exact H
        clear H; have H := H1; clear H1; replace H := bnd H; obtain ⟨t111, A26, H⟩ := H; replace H := bnd H; obtain ⟨t112, A27, H⟩ := H; replace H := ifS H; obtain ⟨c28, H⟩ := H; have c28b0 := eq_true c28; have c28b1 := decide_eq_true c28; try have c28b2 := eq_false (Nat.not_lt.2 c28)
        try have c28b3 := c28b2
        try simp only [ByteArray.size_append] at c28b3
        replace H := bnd H; obtain ⟨t113, A29, H⟩ := H; replace H := ifS H; obtain ⟨c30, H⟩ := H; have c30b0 := eq_true c30; have c30b1 := decide_eq_true c30; try have c30b2 := eq_false (Nat.not_lt.2 c30)
        try have c30b3 := c30b2
        try simp only [ByteArray.size_append] at c30b3
        replace H := bnd H; obtain ⟨t114, A31, H⟩ := H; replace H := ifS H; obtain ⟨c32, H⟩ := H; have c32b0 := eq_true c32; have c32b1 := decide_eq_true c32; try have c32b2 := eq_false (Nat.not_lt.2 c32)
        try have c32b3 := c32b2
        try simp only [ByteArray.size_append] at c32b3
        have H' := mk0 H; clear H; obtain ⟨hcz33_0, hcz33_1, hcz33_2, hcz33_3⟩ := cz4 BK101; have hfz33_0 := fz BK101 0; have hfz33_1 := fz BK101 1; have hfz33_2 := fz BK101 2; have hfz33_3 := fz BK101 3; have p106 : 0 ≤ (x5_2 : Int) := ofd; have q106 : x5_2 < (l0_3.length : Int) := ofd; obtain ⟨ad106, A106_3, c106_3, e106, hx106_0, hx106_1, hx106_2, hx106_3, hl106_3, hi106_3⟩ := at_T50 HR0_3.out x5_2 p106 q106
        (try rw [← Nbq24.out] at hx106_1)
        cases e106; replace hx106_0 := hbc HB hx106_0; replace hx106_1 := hbc HB hx106_1; replace hx106_2 := hbc HB hx106_2; replace hx106_3 := hbc HB hx106_3; have HR106_3 := mk0 hi106_3; have HC106_3 := mk0 hl106_3; clear hi106_3 hl106_3; replace p106 := eq_true p106; replace q106 := eq_true q106
        try go_wp2_with (first | ((with_reducible refine gate_dst (N := 6) rfl ?_); refine boxE (N := 6) (cs := #[.string (⟨#[]⟩ : ByteArray), .bool false, .int .i64 0, .slice none 0 0]) (t := 50) ?_; intro gb107 hg w34 hbox hb; have BK107 := mk0 hbox; have GW107 := gwS HB hg; have GE107 := gwS HB hg; replace HB := hbS HB hb; have NB101_107 := neS BK101 hg; have NB107_101 := neT BK101 hg; replace BK101 := bkS BK101 hb; clear hb hbox hg; have hnb35 := NB107_101.out; have hnc35 := NB101_107.out; obtain ⟨hcz36_0, hcz36_1, hcz36_2, hcz36_3⟩ := cz4 BK107; have hfz36_0 := fz BK107 0; have hfz36_1 := fz BK107 1; have hfz36_2 := fz BK107 2; have hfz36_3 := blk_frozen BK107.out 3))
        have n0_ : Aside0 (((((w34.setCell ⟨gb107, 0, none⟩ (.string ((rd_T50 l0_3 x5_2).f0))).setCell ⟨gb107, 1, none⟩ (.bool true)).setCell ⟨gb107, 2, none⟩ (.int .i64 ((rd_T50 l0_3 x5_2).f2))).setCell ⟨gb107, 3, none⟩ (.slice A106_3 ((rd_T50 l0_3 x5_2).f3).length c106_3)).heap[gb101]? = some (.cells #[.string a0_0, .slice A0_1 l0_1.length c0_1, .string a0_2, .slice (some ad106) l0_3.length c0_3] 39 (0, 0))) := ⟨bkW BK101⟩; have n1_ : Aside0 (((((w34.setCell ⟨gb107, 0, none⟩ (.string ((rd_T50 l0_3 x5_2).f0))).setCell ⟨gb107, 1, none⟩ (.bool true)).setCell ⟨gb107, 2, none⟩ (.int .i64 ((rd_T50 l0_3 x5_2).f2))).setCell ⟨gb107, 3, none⟩ (.slice A106_3 ((rd_T50 l0_3 x5_2).f3).length c106_3)).heap[gb107]? = some (.cells #[.string ((rd_T50 l0_3 x5_2).f0), .bool true, .int .i64 ((rd_T50 l0_3 x5_2).f2), .slice A106_3 ((rd_T50 l0_3 x5_2).f3).length c106_3] 50 (0, 0))) := ⟨bkW BK107⟩; have n2_ : Aside0 (Below w.heap.size w ((((w34.setCell ⟨gb107, 0, none⟩ (.string ((rd_T50 l0_3 x5_2).f0))).setCell ⟨gb107, 1, none⟩ (.bool true)).setCell ⟨gb107, 2, none⟩ (.int .i64 ((rd_T50 l0_3 x5_2).f2))).setCell ⟨gb107, 3, none⟩ (.slice A106_3 ((rd_T50 l0_3 x5_2).f3).length c106_3))) := ⟨hbA HB⟩; try clear BK101; try clear BK107; try clear HB
        generalize ((((w34.setCell ⟨gb107, 0, none⟩ (.string ((rd_T50 l0_3 x5_2).f0))).setCell ⟨gb107, 1, none⟩ (.bool true)).setCell ⟨gb107, 2, none⟩ (.int .i64 ((rd_T50 l0_3 x5_2).f2))).setCell ⟨gb107, 3, none⟩ (.slice A106_3 ((rd_T50 l0_3 x5_2).f3).length c106_3)) = w37 at n0_ n1_ n2_ ⊢
        have BK101 := n0_; have BK107 := n1_; have HB := n2_; clear n0_ n1_ n2_; replace BK101 := mk0 (blk_drew BK101.out); replace BK107 := mk0 (blk_drew BK107.out); replace HB := mk0 (below_drew1 HB.out)
        refine start_ (n := 10) (S := fun w' => w'.cell? ⟨gb107, 0, none⟩ = some (.string ((rd_T50 l0_3 x5_2).f0)) ∧ w'.cell? ⟨gb107, 1, none⟩ = some (.bool true) ∧ w'.cell? ⟨gb107, 2, none⟩ = some (.int .i64 ((rd_T50 l0_3 x5_2).f2)) ∧ w'.cell? ⟨gb107, 3, none⟩ = some (.slice A106_3 ((rd_T50 l0_3 x5_2).f3).length c106_3)) (ds := []) (bA 10 0) (by kernel_rfl) rfl rfl ⟨bcA BK107 0, bcA BK107 1, bcA BK107 2, bcA BK107 3⟩ (fun hHeld => ?_); refine with_tabW agateref11_PutNode.tab11 agateref11_PutNode.bits11 (fun HT_ HW_ => ?_)
        generalize w37.drew = w38 at BK101 BK107 HB hHeld ⊢
        refine puE (i := 0) (N := some 44) (bA 10 1) HT_ ?_
        refine puE (i := 3) (N := some 47) (bA 10 9) HT_ ?_
        refine taE (i := 1) (N := some 45) (bA 10 11) HT_ HW_ hHeld ?_
        refine taE (i := 4) (N := some 48) (bA 10 27) HT_ HW_ hHeld ?_
        refine one_ (i := 2) (N := some 46) (bA 10 31) rfl rfl (one_of HT_.out (by kernel_rfl)) (by decide) (fun K hK => ?_)
        refine goE Tryz.func24 (by kernel_rfl) rfl #[.int .i64 1, .string ((rd_T50 l0_3 x5_2).f0)] (by rfl) rfl rfl ?_
        with_reducible refine (agateref02_Text_s.calls 1 ((rd_T50 l0_3 x5_2).f0) t108 _ A19.out).mono ?_
        rintro e w39 ⟨rfl, hb⟩
        refine ⟨_, rfl, ?_⟩
        replace BK101 := bkS BK101 hb; replace BK107 := bkS BK107 hb; replace HB := hbS HB hb; try clear hb
        refine hK.out _ _ ⟨bcA BK107 0, bcA BK107 1, bcA BK107 2, bcA BK107 3⟩ (fun hHeld => ?_)
        clear hK K
        refine noE 46 ?_
        refine one_ (i := 5) (N := some 49) (bA 10 63) rfl rfl (one_of HT_.out (by kernel_rfl)) (by decide) (fun K hK => ?_)
        refine goE Tryz.func25 (by kernel_rfl) rfl #[.int .i64 8, .slice A106_3 ((rd_T50 l0_3 x5_2).f3).length c106_3] (by rfl) rfl rfl ?_
        with_reducible refine (agateref03_Put_s.calls 8 _ _ ((rd_T50 l0_3 x5_2).f3) t109 _ ?side1 ?side2 A20.out).mono ?_
        (case side1 => repeat (first | exact (Kd.C_below HR106_3.out HB.out) | (with_reducible refine Kd.C_alloc ?_ _) | (with_reducible refine Kd.C_drewN ?_ _) | (with_reducible refine Kd.C_drew ?_)))
        (case side2 => exact HC106_3.out)
        rintro e w40 ⟨rfl, hb⟩
        refine ⟨_, rfl, ?_⟩
        replace BK101 := bkS BK101 hb; replace BK107 := bkS BK107 hb; replace HB := hbS HB hb; try clear hb
        refine hK.out _ _ ⟨bcA BK107 0, bcA BK107 1, bcA BK107 2, bcA BK107 3⟩ (fun hHeld => ?_)
        clear hK K
        refine noE 49 ?_
        refine puE (i := 6) (N := some 50) (bA 10 127) HT_ ?_
        refine one_ (i := 7) (N := some 51) (bA 10 255) rfl rfl (one_of HT_.out (by kernel_rfl)) (by decide) (fun K hK => ?_)
        refine goE Tryz.func26 (by kernel_rfl) rfl #[.int .i64 20, .int .u64 7] (by rfl) rfl rfl ?_
        with_reducible refine (agateref02_Number_s.calls 20 7 t110 _ A22.out).mono ?_
        rintro e w41 ⟨rfl, hb⟩
        refine ⟨_, rfl, ?_⟩
        replace BK101 := bkS BK101 hb; replace BK107 := bkS BK107 hb; replace HB := hbS HB hb; try clear hb
        refine hK.out _ _ ⟨bcA BK107 0, bcA BK107 1, bcA BK107 2, bcA BK107 3⟩ (fun hHeld => ?_)
        clear hK K
        refine noE 51 ?_
        refine puE (i := 8) (N := some 52) (bA 10 511) HT_ ?_
        refine puE (i := 9) (N := some 7) (bA 10 1023) HT_ ?_
        refine done_ (done_of HT_.out (by kernel_rfl)) ?_
        obtain ⟨hcz42_0, hcz42_1, hcz42_2, hcz42_3⟩ := cz4 BK107; have hfz42_0 := fz BK107 0; have hfz42_1 := fz BK107 1; have hfz42_2 := fz BK107 2; have hfz42_3 := fz BK107 3
        try go_wp2
        replace BK101 := mk0 (blk_drew BK101.out); replace BK107 := mk0 (blk_drew BK107.out); replace HB := mk0 (below_drew1 HB.out)
        refine start_ (n := 11) (S := fun w' => w'.cell? ⟨gb107, 0, none⟩ = some (.string ((rd_T50 l0_3 x5_2).f0)) ∧ w'.cell? ⟨gb107, 1, none⟩ = some (.bool true) ∧ w'.cell? ⟨gb107, 2, none⟩ = some (.int .i64 ((rd_T50 l0_3 x5_2).f2)) ∧ w'.cell? ⟨gb107, 3, none⟩ = some (.slice A106_3 ((rd_T50 l0_3 x5_2).f3).length c106_3)) (ds := []) (bA 11 0) (by kernel_rfl) rfl rfl ⟨bcA BK107 0, bcA BK107 1, bcA BK107 2, bcA BK107 3⟩ (fun hHeld => ?_); refine with_tabW agateref11_PutNode.tab13 agateref11_PutNode.bits13 (fun HT_ HW_ => ?_)
        generalize w41.drew = w43 at BK101 BK107 HB hHeld ⊢
        refine puE (i := 0) (N := some 55) (bA 11 1) HT_ ?_
        refine puE (i := 3) (N := some 58) (bA 11 9) HT_ ?_
        refine taE (i := 1) (N := some 56) (bA 11 11) HT_ HW_ hHeld ?_
        refine taE (i := 4) (N := some 59) (bA 11 27) HT_ HW_ hHeld ?_
        refine puE (i := 5) (N := some 60) (bA 11 59) HT_ ?_
        refine one_ (i := 2) (N := some 57) (bA 11 63) rfl rfl (one_of HT_.out (by kernel_rfl)) (by decide) (fun K hK => ?_)
        refine goE Tryz.func24 (by kernel_rfl) rfl #[.int .i64 1, .string ((rd_T50 l0_3 x5_2).f0)] (by rfl) rfl rfl ?_
        with_reducible refine (agateref02_Text_s.calls 1 ((rd_T50 l0_3 x5_2).f0) t111 _ A26.out).mono ?_
        rintro e w44 ⟨rfl, hb⟩
        refine ⟨_, rfl, ?_⟩
        replace BK101 := bkS BK101 hb; replace BK107 := bkS BK107 hb; replace HB := hbS HB hb; try clear hb
        refine hK.out _ _ ⟨bcA BK107 0, bcA BK107 1, bcA BK107 2, bcA BK107 3⟩ (fun hHeld => ?_)
        clear hK K
        refine noE 57 ?_
        refine one_ (i := 6) (N := some 61) (bA 11 127) rfl rfl (one_of HT_.out (by kernel_rfl)) (by decide) (fun K hK => ?_)
        refine goE Tryz.func26 (by kernel_rfl) rfl #[.int .i64 3, .int .u64 (IntKind.u64.wrap ((rd_T50 l0_3 x5_2).f2))] (by rfl) rfl rfl ?_
        with_reducible refine (agateref02_Number_s.calls 3 (IntKind.u64.wrap ((rd_T50 l0_3 x5_2).f2)) t112 _ A27.out).mono ?_
        rintro e w45 ⟨rfl, hb⟩
        refine ⟨_, rfl, ?_⟩
        replace BK101 := bkS BK101 hb; replace BK107 := bkS BK107 hb; replace HB := hbS HB hb; try clear hb
        refine hK.out _ _ ⟨bcA BK107 0, bcA BK107 1, bcA BK107 2, bcA BK107 3⟩ (fun hHeld => ?_)
        clear hK K
        refine noE 61 ?_
        refine puE (i := 7) (N := some 62) (bA 11 255) HT_ ?_
        refine one_ (i := 8) (N := some 63) (bA 11 511) rfl rfl (one_of HT_.out (by kernel_rfl)) (by decide) (fun K hK => ?_)
        refine goE Tryz.func26 (by kernel_rfl) rfl #[.int .i64 20, .int .u64 2] (by rfl) rfl rfl ?_
        with_reducible refine (agateref02_Number_s.calls 20 2 t113 _ A29.out).mono ?_
        rintro e w46 ⟨rfl, hb⟩
        refine ⟨_, rfl, ?_⟩
        replace BK101 := bkS BK101 hb; replace BK107 := bkS BK107 hb; replace HB := hbS HB hb; try clear hb
        refine hK.out _ _ ⟨bcA BK107 0, bcA BK107 1, bcA BK107 2, bcA BK107 3⟩ (fun hHeld => ?_)
        clear hK K
        refine noE 63 ?_
        refine puE (i := 9) (N := some 64) (bA 11 1023) HT_ ?_
        refine puE (i := 10) (N := some 7) (bA 11 2047) HT_ ?_
        refine done_ (done_of HT_.out (by kernel_rfl)) ?_
        try go_wp2_with (first | ((with_reducible refine gate_callee (f := 24) rfl ?_); refine glE (some 67) rfl rfl Tryz.func24 (by kernel_rfl) rfl #[.int .i64 5, .string ((t111 ++ t112) ++ t113)] rfl ?_; (with_reducible refine (agateref02_Text_s.calls 5 ((t111 ++ t112) ++ t113) t114 _ A31.out).mono ?_); rintro e w47 ⟨rfl, hb⟩; refine ⟨_, rfl, ?_⟩; replace BK101 := bkS BK101 hb; replace BK107 := bkS BK107 hb; replace HB := hbS HB hb; (try clear hb)))
        go_roundg k2
        case measure => have := HK1.out; have := HK2.out; omega
        case rel => exact ⟨(x3_2 ++ t114), (wrap64 (x5_2 + 1)), cl0, cl0, H', ⟨by have := HK1.out; have := HK2.out; omega⟩, ⟨bkA BK101⟩, ⟨hbA HB⟩⟩
       ·
        replace c25 := Bool.eq_false_iff.mpr c25; subst c25; have H1 : ((agateref02_Text_s.f 5 ((t108 ++ t109) ++ t110)).bind fun t115 => (if x3_2.size + t115.size ≤ 9223372036854775807 then (agateref11_PutNode.l1 k2 (x3_2 ++ t115) (wrap64 (x5_2 + 1)) a0_0 l0_1 a0_2 l0_3) else (none))) = some r := by rw [if_neg (show ¬ (false = true) by decide)] at H; exact H
        clear H; have H := H1; clear H1; replace H := bnd H; obtain ⟨t115, A48, H⟩ := H; replace H := ifS H; obtain ⟨c49, H⟩ := H; have c49b0 := eq_true c49; have c49b1 := decide_eq_true c49; try have c49b2 := eq_false (Nat.not_lt.2 c49)
        try have c49b3 := c49b2
        try simp only [ByteArray.size_append] at c49b3
        have H' := mk0 H; clear H; obtain ⟨hcz50_0, hcz50_1, hcz50_2, hcz50_3⟩ := cz4 BK101; have hfz50_0 := fz BK101 0; have hfz50_1 := fz BK101 1; have hfz50_2 := fz BK101 2; have hfz50_3 := fz BK101 3; have p106 : 0 ≤ (x5_2 : Int) := ofd; have q106 : x5_2 < (l0_3.length : Int) := ofd; obtain ⟨ad106, A106_3, c106_3, e106, hx106_0, hx106_1, hx106_2, hx106_3, hl106_3, hi106_3⟩ := at_T50 HR0_3.out x5_2 p106 q106
        (try rw [← Nbq24.out] at hx106_1)
        cases e106; replace hx106_0 := hbc HB hx106_0; replace hx106_1 := hbc HB hx106_1; replace hx106_2 := hbc HB hx106_2; replace hx106_3 := hbc HB hx106_3; have HR106_3 := mk0 hi106_3; have HC106_3 := mk0 hl106_3; clear hi106_3 hl106_3; replace p106 := eq_true p106; replace q106 := eq_true q106
        try go_wp2_with (first | ((with_reducible refine gate_dst (N := 6) rfl ?_); refine boxE (N := 6) (cs := #[.string (⟨#[]⟩ : ByteArray), .bool false, .int .i64 0, .slice none 0 0]) (t := 50) ?_; intro gb107 hg w51 hbox hb; have BK107 := mk0 hbox; have GW107 := gwS HB hg; have GE107 := gwS HB hg; replace HB := hbS HB hb; have NB101_107 := neS BK101 hg; have NB107_101 := neT BK101 hg; replace BK101 := bkS BK101 hb; clear hb hbox hg; have hnb52 := NB107_101.out; have hnc52 := NB101_107.out; obtain ⟨hcz53_0, hcz53_1, hcz53_2, hcz53_3⟩ := cz4 BK107; have hfz53_0 := fz BK107 0; have hfz53_1 := fz BK107 1; have hfz53_2 := fz BK107 2; have hfz53_3 := blk_frozen BK107.out 3))
        have n0_ : Aside0 (((((w51.setCell ⟨gb107, 0, none⟩ (.string ((rd_T50 l0_3 x5_2).f0))).setCell ⟨gb107, 1, none⟩ (.bool false)).setCell ⟨gb107, 2, none⟩ (.int .i64 ((rd_T50 l0_3 x5_2).f2))).setCell ⟨gb107, 3, none⟩ (.slice A106_3 ((rd_T50 l0_3 x5_2).f3).length c106_3)).heap[gb101]? = some (.cells #[.string a0_0, .slice A0_1 l0_1.length c0_1, .string a0_2, .slice (some ad106) l0_3.length c0_3] 39 (0, 0))) := ⟨bkW BK101⟩; have n1_ : Aside0 (((((w51.setCell ⟨gb107, 0, none⟩ (.string ((rd_T50 l0_3 x5_2).f0))).setCell ⟨gb107, 1, none⟩ (.bool false)).setCell ⟨gb107, 2, none⟩ (.int .i64 ((rd_T50 l0_3 x5_2).f2))).setCell ⟨gb107, 3, none⟩ (.slice A106_3 ((rd_T50 l0_3 x5_2).f3).length c106_3)).heap[gb107]? = some (.cells #[.string ((rd_T50 l0_3 x5_2).f0), .bool false, .int .i64 ((rd_T50 l0_3 x5_2).f2), .slice A106_3 ((rd_T50 l0_3 x5_2).f3).length c106_3] 50 (0, 0))) := ⟨bkW BK107⟩; have n2_ : Aside0 (Below w.heap.size w ((((w51.setCell ⟨gb107, 0, none⟩ (.string ((rd_T50 l0_3 x5_2).f0))).setCell ⟨gb107, 1, none⟩ (.bool false)).setCell ⟨gb107, 2, none⟩ (.int .i64 ((rd_T50 l0_3 x5_2).f2))).setCell ⟨gb107, 3, none⟩ (.slice A106_3 ((rd_T50 l0_3 x5_2).f3).length c106_3))) := ⟨hbA HB⟩; try clear BK101; try clear BK107; try clear HB
        generalize ((((w51.setCell ⟨gb107, 0, none⟩ (.string ((rd_T50 l0_3 x5_2).f0))).setCell ⟨gb107, 1, none⟩ (.bool false)).setCell ⟨gb107, 2, none⟩ (.int .i64 ((rd_T50 l0_3 x5_2).f2))).setCell ⟨gb107, 3, none⟩ (.slice A106_3 ((rd_T50 l0_3 x5_2).f3).length c106_3)) = w54 at n0_ n1_ n2_ ⊢
        have BK101 := n0_; have BK107 := n1_; have HB := n2_; clear n0_ n1_ n2_; replace BK101 := mk0 (blk_drew BK101.out); replace BK107 := mk0 (blk_drew BK107.out); replace HB := mk0 (below_drew1 HB.out)
        refine start_ (n := 10) (S := fun w' => w'.cell? ⟨gb107, 0, none⟩ = some (.string ((rd_T50 l0_3 x5_2).f0)) ∧ w'.cell? ⟨gb107, 1, none⟩ = some (.bool false) ∧ w'.cell? ⟨gb107, 2, none⟩ = some (.int .i64 ((rd_T50 l0_3 x5_2).f2)) ∧ w'.cell? ⟨gb107, 3, none⟩ = some (.slice A106_3 ((rd_T50 l0_3 x5_2).f3).length c106_3)) (ds := []) (bA 10 0) (by kernel_rfl) rfl rfl ⟨bcA BK107 0, bcA BK107 1, bcA BK107 2, bcA BK107 3⟩ (fun hHeld => ?_); refine with_tabW agateref11_PutNode.tab11 agateref11_PutNode.bits11 (fun HT_ HW_ => ?_)
        generalize w54.drew = w55 at BK101 BK107 HB hHeld ⊢
        refine puE (i := 0) (N := some 44) (bA 10 1) HT_ ?_
        refine puE (i := 3) (N := some 47) (bA 10 9) HT_ ?_
        refine taE (i := 1) (N := some 45) (bA 10 11) HT_ HW_ hHeld ?_
        refine taE (i := 4) (N := some 48) (bA 10 27) HT_ HW_ hHeld ?_
        refine one_ (i := 2) (N := some 46) (bA 10 31) rfl rfl (one_of HT_.out (by kernel_rfl)) (by decide) (fun K hK => ?_)
        refine goE Tryz.func24 (by kernel_rfl) rfl #[.int .i64 1, .string ((rd_T50 l0_3 x5_2).f0)] (by rfl) rfl rfl ?_
        with_reducible refine (agateref02_Text_s.calls 1 ((rd_T50 l0_3 x5_2).f0) t108 _ A19.out).mono ?_
        rintro e w56 ⟨rfl, hb⟩
        refine ⟨_, rfl, ?_⟩
        replace BK101 := bkS BK101 hb; replace BK107 := bkS BK107 hb; replace HB := hbS HB hb; try clear hb
        refine hK.out _ _ ⟨bcA BK107 0, bcA BK107 1, bcA BK107 2, bcA BK107 3⟩ (fun hHeld => ?_)
        clear hK K
        refine noE 46 ?_
        refine one_ (i := 5) (N := some 49) (bA 10 63) rfl rfl (one_of HT_.out (by kernel_rfl)) (by decide) (fun K hK => ?_)
        refine goE Tryz.func25 (by kernel_rfl) rfl #[.int .i64 8, .slice A106_3 ((rd_T50 l0_3 x5_2).f3).length c106_3] (by rfl) rfl rfl ?_
        with_reducible refine (agateref03_Put_s.calls 8 _ _ ((rd_T50 l0_3 x5_2).f3) t109 _ ?side1 ?side2 A20.out).mono ?_
        (case side1 => repeat (first | exact (Kd.C_below HR106_3.out HB.out) | (with_reducible refine Kd.C_alloc ?_ _) | (with_reducible refine Kd.C_drewN ?_ _) | (with_reducible refine Kd.C_drew ?_)))
        (case side2 => exact HC106_3.out)
        rintro e w57 ⟨rfl, hb⟩
        refine ⟨_, rfl, ?_⟩
        replace BK101 := bkS BK101 hb; replace BK107 := bkS BK107 hb; replace HB := hbS HB hb; try clear hb
        refine hK.out _ _ ⟨bcA BK107 0, bcA BK107 1, bcA BK107 2, bcA BK107 3⟩ (fun hHeld => ?_)
        clear hK K
        refine noE 49 ?_
        refine puE (i := 6) (N := some 50) (bA 10 127) HT_ ?_
        refine one_ (i := 7) (N := some 51) (bA 10 255) rfl rfl (one_of HT_.out (by kernel_rfl)) (by decide) (fun K hK => ?_)
        refine goE Tryz.func26 (by kernel_rfl) rfl #[.int .i64 20, .int .u64 7] (by rfl) rfl rfl ?_
        with_reducible refine (agateref02_Number_s.calls 20 7 t110 _ A22.out).mono ?_
        rintro e w58 ⟨rfl, hb⟩
        refine ⟨_, rfl, ?_⟩
        replace BK101 := bkS BK101 hb; replace BK107 := bkS BK107 hb; replace HB := hbS HB hb; try clear hb
        refine hK.out _ _ ⟨bcA BK107 0, bcA BK107 1, bcA BK107 2, bcA BK107 3⟩ (fun hHeld => ?_)
        clear hK K
        refine noE 51 ?_
        refine puE (i := 8) (N := some 52) (bA 10 511) HT_ ?_
        refine puE (i := 9) (N := some 7) (bA 10 1023) HT_ ?_
        refine done_ (done_of HT_.out (by kernel_rfl)) ?_
        obtain ⟨hcz59_0, hcz59_1, hcz59_2, hcz59_3⟩ := cz4 BK107; have hfz59_0 := fz BK107 0; have hfz59_1 := fz BK107 1; have hfz59_2 := fz BK107 2; have hfz59_3 := fz BK107 3
        try go_wp2_with (first | ((with_reducible refine gate_callee (f := 24) rfl ?_); refine glE (some 67) rfl rfl Tryz.func24 (by kernel_rfl) rfl #[.int .i64 5, .string ((t108 ++ t109) ++ t110)] rfl ?_; (with_reducible refine (agateref02_Text_s.calls 5 ((t108 ++ t109) ++ t110) t115 _ A48.out).mono ?_); rintro e w60 ⟨rfl, hb⟩; refine ⟨_, rfl, ?_⟩; replace BK101 := bkS BK101 hb; replace BK107 := bkS BK107 hb; replace HB := hbS HB hb; (try clear hb)))
        go_roundg k2
        case measure => have := HK1.out; have := HK2.out; omega
        case rel => exact ⟨(x3_2 ++ t115), (wrap64 (x5_2 + 1)), cl0, cl0, H', ⟨by have := HK1.out; have := HK2.out; omega⟩, ⟨bkA BK101⟩, ⟨hbA HB⟩⟩
      ·
       rw [if_neg c17] at H; have c17b0 := decide_eq_false c17; clear c17; obtain rfl := Option.some.inj H; obtain ⟨hcz61_0, hcz61_1, hcz61_2, hcz61_3⟩ := cz4 BK101; have hfz61_0 := fz BK101 0; have hfz61_1 := fz BK101 1; have hfz61_2 := fz BK101 2; have hfz61_3 := fz BK101 3
       go_wp2
       go_ret
       exact ⟨cl3, hbA HB⟩
end Go.Proofs.YthidedmnmdlfkaaGreat.X
