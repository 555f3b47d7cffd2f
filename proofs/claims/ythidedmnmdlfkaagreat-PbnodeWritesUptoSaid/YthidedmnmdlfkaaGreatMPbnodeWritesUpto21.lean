import Derived.Test.YthidedmnmdlfkaaGreatMPbnodeWritesUpto2
import Derived.Test.YthidedmnmdlfkaaGreatMPbnodeWritesUpto11
import Derived.Test.YthidedmnmdlfkaaGreatMPbnodeWritesUpto5
import Derived.Test.YthidedmnmdlfkaaGreatMPbnodeWritesUpto20
import Derived.Test.YthidedmnmdlfkaaGreatMPbnodeWritesUpto19
import Derived.Test.YthidedmnmdlfkaaGreatMPbnodeWritesUpto16
import Derived.Test.YthidedmnmdlfkaaGreatMPbnodeWritesUpto18
import Derived.Test.YthidedmnmdlfkaaGreatMPbnodeWritesUpto4
import Derived.Test.YthidedmnmdlfkaaGreatMPbnodeWritesUpto3
import Derived.Test.YthidedmnmdlfkaaGreatMPbnodeWritesUpto7
import Derived.Test.YthidedmnmdlfkaaGreatMPbnodeWritesUpto17
namespace Go.Proofs.YthidedmnmdlfkaaGreat.X
open Go.RowKit Go.Proofs.YthidedmnmdlfkaaGreatW.PrintWords Go.Proofs.YthidedmnmdlfkaaGreatW.PrintLast Go.Proofs.YthidedmnmdlfkaaGreatW.PrintMore
attribute [local go_sem] max2_int min2_int max_two min_two max_three min_three max_four min_four
set_option linter.unusedVariables false
set_option linter.unusedSimpArgs false
def pbnode_PutInfo.l0 : Nat → ByteArray → List Int → Int → Int → ByteArray → Int → List Int → Option (ByteArray)
 | 0, _, _, _, _, _, _, _ => none
 | k + 1, x3, x7, x8, x9, x102000, x102001, x102002 => if x9 < x8 then (if 0 ≤ x9 then (if x9 < (x7.length : Int) then ((wire_Number_s.f 1 (IntKind.u64.wrap (rd x7 x9))).bind fun t103 => ((wire_Text_s.f 1 t103).bind fun t104 => (if x3.size + t104.size ≤ 9223372036854775807 then (pbnode_PutInfo.l0 k (x3 ++ t104) x7 x8 (wrap64 (x9 + 1)) x102000 x102001 x102002) else (none)))) else (none)) else (none)) else ((wire_Text_s.f 1 x102000).bind fun t105 => ((wire_Number_s.f 1 (IntKind.u64.wrap (x102001))).bind fun t106 => ((wire_Text_s.f 2 x3).bind fun t107 => (if t106.size + t107.size ≤ 9223372036854775807 then ((wire_Text_s.f 1 (t106 ++ t107)).bind fun t108 => ((wire_Text_s.f 2 t108).bind fun t109 => (if t105.size + t109.size ≤ 9223372036854775807 then (some (t105 ++ t109)) else (none)))) else (none)))))
def pbnode_PutInfo.f (k : Nat) (a0_0 : ByteArray) (a0_1 : Int) (l0_2 : List Int) : Option (ByteArray) := pbnode_PutInfo.l0 k (⟨#[]⟩ : ByteArray) l0_2 (l0_2.length : Int) 0 a0_0 a0_1 l0_2
def pbnode_PutInfo.T7 : Bool × List (List Nat × List Nat) := (true, [([], []), ([0], [0]), ([1], [1]), ([], []), ([3], [3]), ([4], [4]), ([5, 2], [5]), ([], []), ([7, 6], [7]), ([6, 8], [6, 8]), ([9, 8], [9]), ([10, 10], [10]), ([2, 11], [2, 11]), ([12, 11, 0, 1, 2, 3, 4, 5, 6, 7, 8, 9, 10, 11, 12], [12])])
def pbnode_PutInfo.B7 : List Nat := [0, 1, 3, 0, 8, 24, 63, 0, 255, 511, 1023, 2047, 4095, 8191]
theorem pbnode_PutInfo.tab7 : rtab .any (opsOf Tryz.f9 7) = pbnode_PutInfo.T7 := by kernel_rfl
theorem pbnode_PutInfo.bits7 : waitsOk pbnode_PutInfo.T7.2 pbnode_PutInfo.B7 = true := by kernel_rfl
set_option maxHeartbeats 8000000 in
set_option maxRecDepth 100000 in
theorem pbnode_PutInfo.calls (k : Nat) (a0_0 : ByteArray) (a0_1 : Int) (A0_2 : Option Addr) (c0_2 : Nat) (l0_2 : List Int) (r : ByteArray) (w : World) (hr0_2 : Kd.C (Kd.int .i64) w A0_2 l0_2.length l0_2) (hc0_2 : l0_2.length ≤ c0_2) (h : pbnode_PutInfo.f k a0_0 a0_1 l0_2 = some r) :
  Calls Tryz.prog 9 #[.agg #[.string a0_0, .int .i64 a0_1, .slice A0_2 l0_2.length c0_2]] w fun e w' => e = .returned (.string r) ∧ Below w.heap.size w w' := by
 have hu29 := Tryz.underlying29; have HR0_2 := mk0 hr0_2; have HC0_2 := mk0 hc0_2; clear hr0_2 hc0_2; have HB := mk0 (Below.refl w.heap.size w); have H : (pbnode_PutInfo.l0 k (⟨#[]⟩ : ByteArray) l0_2 (l0_2.length : Int) 0 a0_0 a0_1 l0_2) = some r := h; clear h; have H' := mk0 H; clear H
 go_enter Tryz.func9, Tryz.ntmps9
 go_wp2_with (first | ((with_reducible refine gate_dst (N := 1) rfl ?_); refine boxE (N := 1) (cs := #[.string a0_0, .int .i64 a0_1, .slice A0_2 l0_2.length c0_2]) (t := 29) ?_; intro gb101 hg w2 hbox hb; have BK101 := mk0 hbox; have GW101 := gwS HB hg; have GE101 := gwS HB hg; replace HB := hbS HB hb; clear hb hbox hg; obtain ⟨hcz3_0, hcz3_1, hcz3_2⟩ := cz3 BK101; have hfz3_2 := blk_frozen BK101.out 2))
 go_loopg [3, 9] k (fun kq v3 v9 w' => ∃ (x3_1 : ByteArray) (x9_1 : Int), v3 = .string x3_1 ∧ v9 = .int .i64 x9_1 ∧ Aside0 (pbnode_PutInfo.l0 kq x3_1 l0_2 (l0_2.length : Int) x9_1 a0_0 a0_1 l0_2 = some r) ∧ Aside0 (kq ≤ k) ∧ Aside0 (w'.heap[gb101]? = some (.cells #[.string a0_0, .int .i64 a0_1, (.slice A0_2 l0_2.length c0_2)] 29 (0, 0))) ∧ Aside0 (Below w.heap.size w w'))
 case atStart => exact ⟨((⟨#[]⟩ : ByteArray)), (0), cl0, cl0, H', ⟨Nat.le_refl _⟩, ⟨bkA BK101⟩, ⟨hbA HB⟩⟩
 case round =>
  clear H'; try clear hcz3_0; try clear hcz3_1; try clear hcz3_2; try clear hfz3_2
  obtain ⟨x3_1, x9_1, rfl, rfl, HA, HK1, BK101, HB⟩ := hrel
  cases gk with
  | zero => exact absurd HA.out (by simp [pbnode_PutInfo.l0])
  | succ k1 =>
   have H := HA.out; clear HA
   simp only [pbnode_PutInfo.l0] at H
   by_cases c4 : x9_1 < (l0_2.length : Int)
   ·
    rw [if_pos c4] at H; have c4b0 := decide_eq_true c4; clear c4; replace H := ifS H; obtain ⟨c5, H⟩ := H; have c5b0 := decide_eq_true c5; clear c5
    by_cases c6 : x9_1 < (l0_2.length : Int)
    ·
     rw [if_pos c6] at H; have c6b0 := decide_eq_true c6; clear c6; replace H := bnd H; obtain ⟨t103, A7, H⟩ := H; replace H := bnd H; obtain ⟨t104, A8, H⟩ := H; replace H := ifS H; obtain ⟨c9, H⟩ := H; have c9b0 := eq_true c9; have c9b1 := decide_eq_true c9; try have c9b2 := eq_false (Nat.not_lt.2 c9)
     try have c9b3 := c9b2
     try simp only [ByteArray.size_append] at c9b3
     have H' := mk0 H; clear H; have p102 : 0 ≤ (x9_1 : Int) := ofd; have q102 : x9_1 < (l0_2.length : Int) := ofd; obtain ⟨ad102, e102, hx102_0⟩ := Kd.at_int HR0_2.out x9_1 p102 q102; cases e102; replace hx102_0 := hbc HB hx102_0; replace p102 := eq_true p102; replace q102 := eq_true q102
     go_wp2_with (first | ((with_reducible refine gate_callee (f := 23) rfl ?_); refine glE (some 16) rfl rfl Tryz.func23 (by kernel_rfl) rfl #[.int .i64 1, .int .u64 (IntKind.u64.wrap (rd l0_2 x9_1))] rfl ?_; (with_reducible refine (wire_Number_s.calls 1 (IntKind.u64.wrap (rd l0_2 x9_1)) t103 _ A7.out).mono ?_); rintro e w10 ⟨rfl, hb⟩; refine ⟨_, rfl, ?_⟩; replace BK101 := bkS BK101 hb; replace HB := hbS HB hb; (try clear hb)) | ((with_reducible refine gate_callee (f := 21) rfl ?_); refine glE (some 17) rfl rfl Tryz.func21 (by kernel_rfl) rfl #[.int .i64 1, .string t103] rfl ?_; (with_reducible refine (wire_Text_s.calls 1 t103 t104 _ A8.out).mono ?_); rintro e w11 ⟨rfl, hb⟩; refine ⟨_, rfl, ?_⟩; replace BK101 := bkS BK101 hb; replace HB := hbS HB hb; (try clear hb)))
     go_roundg k1
     case measure => have := HK1.out; omega
     case rel => exact ⟨(x3_1 ++ t104), (wrap64 (x9_1 + 1)), cl0, cl0, H', cl2 HK1, ⟨bkA BK101⟩, ⟨hbA HB⟩⟩
    ·
     exact absurd (of_decide_eq_true c4b0) c6
   ·
    rw [if_neg c4] at H; have c4b0 := decide_eq_false c4; clear c4; replace H := bnd H; obtain ⟨t105, A12, H⟩ := H; replace H := bnd H; obtain ⟨t106, A13, H⟩ := H; replace H := bnd H; obtain ⟨t107, A14, H⟩ := H; replace H := ifS H; obtain ⟨c15, H⟩ := H; have c15b0 := eq_true c15; have c15b1 := decide_eq_true c15; try have c15b2 := eq_false (Nat.not_lt.2 c15)
    try have c15b3 := c15b2
    try simp only [ByteArray.size_append] at c15b3
    replace H := bnd H; obtain ⟨t108, A16, H⟩ := H; replace H := bnd H; obtain ⟨t109, A17, H⟩ := H; replace H := ifS H; obtain ⟨c18, H⟩ := H; have c18b0 := eq_true c18; have c18b1 := decide_eq_true c18; try have c18b2 := eq_false (Nat.not_lt.2 c18)
    try have c18b3 := c18b2
    try simp only [ByteArray.size_append] at c18b3
    obtain rfl := Option.some.inj H
    try go_wp2
    replace BK101 := mk0 (blk_drew BK101.out); replace HB := mk0 (below_drew1 HB.out)
    refine start_ (n := 14) (S := fun w' => w'.cell? ⟨gb101, 0, none⟩ = some (.string a0_0) ∧ w'.cell? ⟨gb101, 1, none⟩ = some (.int .i64 a0_1) ∧ w'.cell? ⟨gb101, 2, none⟩ = some (.slice A0_2 l0_2.length c0_2)) (ds := []) (bA 14 0) (by kernel_rfl) rfl rfl ⟨bcA BK101 0, bcA BK101 1, bcA BK101 2⟩ (fun hHeld => ?_); refine with_tabW pbnode_PutInfo.tab7 pbnode_PutInfo.bits7 (fun HT_ HW_ => ?_)
    generalize wr.drew = w19 at BK101 HB hHeld ⊢
    refine puE (i := 0) (N := some 20) (bA 14 1) HT_ ?_
    refine puE (i := 3) (N := some 23) (bA 14 9) HT_ ?_
    refine puE (i := 7) (N := some 27) (bA 14 137) HT_ ?_
    refine taE (i := 1) (N := some 21) (bA 14 139) HT_ HW_ hHeld ?_
    refine taE (i := 4) (N := some 24) (bA 14 155) HT_ HW_ hHeld ?_
    refine puE (i := 5) (N := some 25) (bA 14 187) HT_ ?_
    refine one_ (i := 2) (N := some 22) (bA 14 191) rfl rfl (one_of HT_.out (by kernel_rfl)) (by decide) (fun K hK => ?_)
    refine goE Tryz.func21 (by kernel_rfl) rfl #[.int .i64 1, .string a0_0] (by rfl) rfl rfl ?_
    with_reducible refine (wire_Text_s.calls 1 a0_0 t105 _ A12.out).mono ?_
    rintro e w20 ⟨rfl, hb⟩
    refine ⟨_, rfl, ?_⟩
    replace BK101 := bkS BK101 hb; replace HB := hbS HB hb; try clear hb
    refine hK.out _ _ ⟨bcA BK101 0, bcA BK101 1, bcA BK101 2⟩ (fun hHeld => ?_)
    clear hK K
    refine noE 22 ?_
    refine one_ (i := 6) (N := some 26) (bA 14 255) rfl rfl (one_of HT_.out (by kernel_rfl)) (by decide) (fun K hK => ?_)
    refine goE Tryz.func23 (by kernel_rfl) rfl #[.int .i64 1, .int .u64 (IntKind.u64.wrap (a0_1))] (by rfl) rfl rfl ?_
    with_reducible refine (wire_Number_s.calls 1 (IntKind.u64.wrap (a0_1)) t106 _ A13.out).mono ?_
    rintro e w21 ⟨rfl, hb⟩
    refine ⟨_, rfl, ?_⟩
    replace BK101 := bkS BK101 hb; replace HB := hbS HB hb; try clear hb
    refine hK.out _ _ ⟨bcA BK101 0, bcA BK101 1, bcA BK101 2⟩ (fun hHeld => ?_)
    clear hK K
    refine noE 26 ?_
    refine one_ (i := 8) (N := some 28) (bA 14 511) rfl rfl (one_of HT_.out (by kernel_rfl)) (by decide) (fun K hK => ?_)
    refine goE Tryz.func21 (by kernel_rfl) rfl #[.int .i64 2, .string x3_1] (by rfl) rfl rfl ?_
    with_reducible refine (wire_Text_s.calls 2 x3_1 t107 _ A14.out).mono ?_
    rintro e w22 ⟨rfl, hb⟩
    refine ⟨_, rfl, ?_⟩
    replace BK101 := bkS BK101 hb; replace HB := hbS HB hb; try clear hb
    refine hK.out _ _ ⟨bcA BK101 0, bcA BK101 1, bcA BK101 2⟩ (fun hHeld => ?_)
    clear hK K
    refine noE 28 ?_
    refine puE (i := 9) (N := some 29) (bA 14 1023) HT_ ?_
    refine one_ (i := 10) (N := some 30) (bA 14 2047) rfl rfl (one_of HT_.out (by kernel_rfl)) (by decide) (fun K hK => ?_)
    refine goE Tryz.func21 (by kernel_rfl) rfl #[.int .i64 1, .string (t106 ++ t107)] (by rfl) rfl rfl ?_
    with_reducible refine (wire_Text_s.calls 1 (t106 ++ t107) t108 _ A16.out).mono ?_
    rintro e w23 ⟨rfl, hb⟩
    refine ⟨_, rfl, ?_⟩
    replace BK101 := bkS BK101 hb; replace HB := hbS HB hb; try clear hb
    refine hK.out _ _ ⟨bcA BK101 0, bcA BK101 1, bcA BK101 2⟩ (fun hHeld => ?_)
    clear hK K
    refine noE 30 ?_
    refine one_ (i := 11) (N := some 31) (bA 14 4095) rfl rfl (one_of HT_.out (by kernel_rfl)) (by decide) (fun K hK => ?_)
    refine goE Tryz.func21 (by kernel_rfl) rfl #[.int .i64 2, .string t108] (by rfl) rfl rfl ?_
    with_reducible refine (wire_Text_s.calls 2 t108 t109 _ A17.out).mono ?_
    rintro e w24 ⟨rfl, hb⟩
    refine ⟨_, rfl, ?_⟩
    replace BK101 := bkS BK101 hb; replace HB := hbS HB hb; try clear hb
    refine hK.out _ _ ⟨bcA BK101 0, bcA BK101 1, bcA BK101 2⟩ (fun hHeld => ?_)
    clear hK K
    refine noE 31 ?_
    refine puE (i := 12) (N := some 32) (bA 14 8191) HT_ ?_
    refine puE (i := 13) (N := some 2) (bA 14 16383) HT_ ?_
    refine done_ (done_of HT_.out (by kernel_rfl)) ?_
    try go_wp2
    go_ret
    exact ⟨cl3, hbA HB⟩
def fldT (num : Int) (s : ByteArray) : S75 := ⟨num, 2, 0, s⟩
def fldN (num v : Int) : S75 := ⟨num, 0, v, ⟨#[]⟩⟩
def fieldsA (a : S65) : List S75 := fldT 1 a.f0 :: ((if a.f1 = true then [fldN 3 (IntKind.u64.wrap a.f2)] else if a.f3 = [] then [] else [fldT 8 (catS a.f3)]) ++ [fldN 20 (if a.f1 = true then 2 else 7)])
def fieldsN (op : ByteArray) (ins : List ByteArray) (out : ByteArray) (al : List S65) : List S75 := ins.map (fldT 1) ++ (fldT 2 out :: fldT 4 op :: al.map (fun a => fldT 5 (laidF (fieldsA a))))
def dimT (d : Int) : ByteArray := laidF [fldN 1 (IntKind.u64.wrap d)]
def fieldsD (dims : List Int) : List S75 := dims.map (fun d => fldT 1 (dimT d))
def fieldsI (nm : ByteArray) (kd : Int) (dims : List Int) : List S75 := [fldT 1 nm, fldT 2 (laidF [fldT 1 (laidF [fldN 1 (IntKind.u64.wrap kd), fldT 2 (laidF (fieldsD dims))])])]
theorem laidF_append : ∀ (a b : List S75), laidF (a ++ b) = laidF a ++ laidF b
  | [], b => (bytes_nil_append _).symm
  | x :: a, b => by rw [List.cons_append, laidF, laidF, laidF_append a b, bytes_assoc]
theorem laidF_one (x : S75) : laidF [x] = bytesS x.f0 x.f1 x.f2 x.f3 := by rw [laidF, laidF]; exact bytes_append_nil _
theorem laidF_cons (x : S75) (l : List S75) : laidF (x :: l) = laidF [x] ++ laidF l := by rw [laidF_one, laidF]
theorem text_f (num : Int) (h0 : 1 ≤ num) (h1 : num ≤ 100) (s : ByteArray) (hs : s.size ≤ 140737488351232) : wire_Text_s.f num s = some (laidF [fldT num s]) := by
  rw [laidF_one]; exact if_pos ⟨by omega, by omega, by decide, by decide, by decide, by decide, hs⟩
theorem num_f (num v : Int) (h0 : 1 ≤ num) (h1 : num ≤ 100) (hv : 0 ≤ v ∧ v < 18446744073709551616) : wire_Number_s.f num v = some (laidF [fldN num v]) := by
  rw [laidF_one]; exact if_pos ⟨by omega, by omega, by decide, by decide, hv.1, hv.2, by decide⟩
theorem rtext_f (num : Int) (h0 : 1 ≤ num) (h1 : num ≤ 100) (s : ByteArray) (hs : s.size ≤ 140737488351232) : agateref02_Text_s.f num s = some (laidF [fldT num s]) := by
  rw [laidF_one]; exact if_pos ⟨by omega, by omega, by decide, by decide, by decide, by decide, hs⟩
theorem rnum_f (num v : Int) (h0 : 1 ≤ num) (h1 : num ≤ 100) (hv : 0 ≤ v ∧ v < 18446744073709551616) : agateref02_Number_s.f num v = some (laidF [fldN num v]) := by
  rw [laidF_one]; exact if_pos ⟨by omega, by omega, by decide, by decide, hv.1, hv.2, by decide⟩
theorem fldT_size (num : Int) (s : ByteArray) (hs : s.size ≤ 140737488351232) : (laidF [fldT num s]).size ≤ 20 + s.size := by
  rw [laidF_one]; exact bytes_size (fldT num s) (by show (0 : Int) ≤ 0; decide) (by show (0 : Int) < _; decide) hs
theorem fldN_size (num v : Int) (hv : 0 ≤ v ∧ v < 18446744073709551616) : (laidF [fldN num v]).size ≤ 20 := by
  rw [laidF_one]; exact bytes_size (fldN num v) hv.1 hv.2 (by show (0 : Nat) ≤ _; decide)
theorem put_f (l : List Int) (hl : l.length ≤ 1048576) : pack_Put.f 8 l = some (laidF (if l = [] then [] else [fldT 8 (catS l)])) := by
  have h : pack_Put.f 8 l = some (putS 8 l) := if_pos ⟨by decide, by decide, by omega⟩
  rw [h]; unfold putS
  split
  · rfl
  · rw [laidF_one]; rfl
theorem rput_f (l : List Int) (hl : l.length ≤ 1048576) : agateref03_Put_s.f 8 l = some (laidF (if l = [] then [] else [fldT 8 (catS l)])) := by
  have h : agateref03_Put_s.f 8 l = some (putS 8 l) := if_pos ⟨by decide, by decide, by omega⟩
  rw [h]; unfold putS
  split
  · rfl
  · rw [laidF_one]; rfl
theorem put_size (l : List Int) (hl : l.length ≤ 1048576) : (laidF (if l = [] then [] else [fldT 8 (catS l)])).size ≤ 20 + 10 * l.length := by
  have := catS_size l
  split
  · exact Nat.zero_le _
  · have := fldT_size 8 (catS l) (by omega); omega
theorem fieldsA_one (a : S65) (h : a.f1 = true) : laidF (fieldsA a) = (laidF [fldT 1 a.f0] ++ laidF [fldN 3 (IntKind.u64.wrap a.f2)]) ++ laidF [fldN 20 2] := by
  unfold fieldsA; rw [if_pos h, if_pos h, ← laidF_append, ← laidF_append]; rfl
theorem fieldsA_row (a : S65) (h : ¬ a.f1 = true) : laidF (fieldsA a) = (laidF [fldT 1 a.f0] ++ laidF (if a.f3 = [] then [] else [fldT 8 (catS a.f3)])) ++ laidF [fldN 20 7] := by
  unfold fieldsA; rw [if_neg h, if_neg h, ← laidF_append, ← laidF_append]; simp
theorem putAttr_f (a : S65) (hn : a.f0.size ≤ 1048576) (hl : a.f3.length ≤ 1048576) : pbnode_putAttr.f a.f0 a.f1 a.f2 a.f3 = some (laidF (fieldsA a)) := by
  have hu := u64_range a.f2
  have s1 := fldT_size 1 a.f0 (by omega)
  unfold pbnode_putAttr.f
  rw [text_f 1 (by decide) (by decide) a.f0 (by omega)]
  by_cases h : a.f1 = true
  · have s2 := fldN_size 3 (IntKind.u64.wrap a.f2) hu
    have s3 := fldN_size 20 2 (by decide)
    rw [if_pos h, Option.bind_some, num_f 3 _ (by decide) (by decide) hu, Option.bind_some, if_pos (by omega), num_f 20 2 (by decide) (by decide) (by decide), Option.bind_some, if_pos (by rw [ByteArray.size_append]; omega), fieldsA_one a h]
  · have s2 := put_size a.f3 hl
    have s3 := fldN_size 20 7 (by decide)
    rw [if_neg h, Option.bind_some, put_f a.f3 hl, Option.bind_some, if_pos (by omega), num_f 20 7 (by decide) (by decide) (by decide), Option.bind_some, if_pos (by rw [ByteArray.size_append]; omega), fieldsA_row a h]
theorem fieldsA_size (a : S65) (hn : a.f0.size ≤ 1048576) (hl : a.f3.length ≤ 1048576) : (laidF (fieldsA a)).size ≤ 60 + a.f0.size + 10 * a.f3.length := by
  have hu := u64_range a.f2
  have s1 := fldT_size 1 a.f0 (by omega)
  by_cases h : a.f1 = true
  · have s2 := fldN_size 3 (IntKind.u64.wrap a.f2) hu
    have s3 := fldN_size 20 2 (by decide)
    rw [fieldsA_one a h, ByteArray.size_append, ByteArray.size_append]; omega
  · have s2 := put_size a.f3 hl
    have s3 := fldN_size 20 7 (by decide)
    rw [fieldsA_row a h, ByteArray.size_append, ByteArray.size_append]; omega
def okA (al : List S65) : Prop := ∀ a ∈ al, a.f0.size ≤ 1048576 ∧ a.f3.length ≤ 1048576
def fA (a : S65) : S75 := fldT 5 (laidF (fieldsA a))
theorem fA_size (a : S65) (h : a.f0.size ≤ 1048576 ∧ a.f3.length ≤ 1048576) : (laidF [fA a]).size ≤ 20000000 := by
  have h1 := fieldsA_size a h.1 h.2
  have h2 := fldT_size 5 (laidF (fieldsA a)) (by omega)
  unfold fA; omega
theorem putNode_l1 (al : List S65) (hal : al.length ≤ 1048576) (ho : okA al) (d : Nat) : ∀ (k i : Nat) (acc : ByteArray), al.length - i = d → i ≤ al.length → d < k → acc.size ≤ 100000000000000 + i * 20000000 →
    pbnode_PutNode.l1 k acc al (al.length : Int) (i : Int) = some (acc ++ laidF ((al.drop i).map fA)) := by
  induction d with
  | zero =>
    intro k i acc hd hi hk hs
    obtain ⟨k, rfl⟩ : ∃ m, k = m + 1 := ⟨k - 1, by omega⟩
    simp only [pbnode_PutNode.l1]
    rw [if_neg (by omega), List.drop_of_length_le (by omega)]; exact congrArg some (bytes_append_nil acc).symm
  | succ d ih =>
    intro k i acc hd hi hk hs
    obtain ⟨k, rfl⟩ : ∃ m, k = m + 1 := ⟨k - 1, by omega⟩
    have hlt : i < al.length := by omega
    have e0 : rd_T65 al (i : Int) = al[i] := by simp [rd_T65, hlt]
    have hq := ho al[i] (List.getElem_mem _)
    have h1 := fieldsA_size al[i] hq.1 hq.2
    have h2 := fA_size al[i] hq
    have ih' := ih k (i + 1) (acc ++ laidF [fA al[i]]) (by omega) (by omega) (by omega) (by rw [ByteArray.size_append]; omega)
    simp only [pbnode_PutNode.l1]
    rw [if_pos (by omega), if_pos (by omega), if_pos (by omega), e0, putAttr_f al[i] hq.1 hq.2, Option.bind_some, text_f 5 (by decide) (by decide) _ (by omega), Option.bind_some, if_pos (by show acc.size + (laidF [fA al[i]]).size ≤ _; omega), wrap64_id (by omega) (by omega)]
    rw [List.drop_eq_getElem_cons hlt, List.map_cons, show fA al[i] :: (al.drop (i + 1)).map fA = [fA al[i]] ++ (al.drop (i + 1)).map fA from rfl, laidF_append, ← bytes_assoc]
    exact ih'
theorem putNode_l0 (op : ByteArray) (ins : List ByteArray) (out : ByteArray) (al : List S65) (hal : al.length ≤ 1048576) (ho : okA al) (hil : ins.length ≤ 1048576) (hin : ∀ x ∈ ins, x.size ≤ 1048576) (hop : op.size ≤ 1048576) (hout : out.size ≤ 1048576) (d : Nat) : ∀ (k i : Nat) (acc : ByteArray), ins.length - i = d → i ≤ ins.length → al.length + d + 1 < k → acc.size ≤ i * 2000000 →
    pbnode_PutNode.l0 k acc ins (ins.length : Int) (i : Int) op ins out al = some (acc ++ laidF ((ins.drop i).map (fldT 1) ++ (fldT 2 out :: fldT 4 op :: al.map fA))) := by
  induction d with
  | zero =>
    intro k i acc hd hi hk hs
    obtain ⟨k, rfl⟩ : ∃ m, k = m + 1 := ⟨k - 1, by omega⟩
    have s2 := fldT_size 2 out (by omega)
    have s4 := fldT_size 4 op (by omega)
    simp only [pbnode_PutNode.l0]
    rw [if_neg (by omega), List.drop_of_length_le (by omega), text_f 2 (by decide) (by decide) out (by omega), Option.bind_some, text_f 4 (by decide) (by decide) op (by omega), Option.bind_some, if_pos (by omega), if_pos (by rw [ByteArray.size_append]; omega)]
    have h := putNode_l1 al hal ho al.length k 0 (acc ++ (laidF [fldT 2 out] ++ laidF [fldT 4 op])) (by omega) (by omega) (by omega) (by rw [ByteArray.size_append, ByteArray.size_append]; omega)
    rw [List.drop_zero] at h
    rw [List.map_nil, List.nil_append, show fldT 2 out :: fldT 4 op :: al.map fA = ([fldT 2 out] ++ [fldT 4 op]) ++ al.map fA from rfl, laidF_append, laidF_append, ← bytes_assoc acc (laidF [fldT 2 out] ++ laidF [fldT 4 op]) _]
    exact h
  | succ d ih =>
    intro k i acc hd hi hk hs
    obtain ⟨k, rfl⟩ : ∃ m, k = m + 1 := ⟨k - 1, by omega⟩
    have hlt : i < ins.length := by omega
    have e0 : rdOf ByteArray.empty ins (i : Int) = ins[i] := by simp [rdOf, hlt]
    have hq := hin ins[i] (List.getElem_mem _)
    have s1 := fldT_size 1 ins[i] (by omega)
    have ih' := ih k (i + 1) (acc ++ laidF [fldT 1 ins[i]]) (by omega) (by omega) (by omega) (by rw [ByteArray.size_append]; omega)
    simp only [pbnode_PutNode.l0]
    rw [if_pos (by omega), if_pos (by omega), if_pos (by omega), e0, text_f 1 (by decide) (by decide) _ (by omega), Option.bind_some, if_pos (by omega), wrap64_id (by omega) (by omega)]
    rw [List.drop_eq_getElem_cons hlt, List.map_cons, List.cons_append]
    generalize (List.map (fldT 1) (List.drop (i + 1) ins) ++ fldT 2 out :: fldT 4 op :: List.map fA al) = R at ih' ⊢
    rw [laidF_cons _ R, ← bytes_assoc]
    exact ih'
theorem refNode_l1 (op : ByteArray) (ins : List ByteArray) (out : ByteArray) (al : List S65) (hal : al.length ≤ 1048576) (ho : okA al) (d : Nat) : ∀ (k i : Nat) (acc : ByteArray), al.length - i = d → i ≤ al.length → d < k → acc.size ≤ 100000000000000 + i * 20000000 →
    agateref11_PutNode.l1 k acc (i : Int) op ins out (al.map toA) = some (acc ++ laidF ((al.drop i).map fA)) := by
  induction d with
  | zero =>
    intro k i acc hd hi hk hs
    obtain ⟨k, rfl⟩ : ∃ m, k = m + 1 := ⟨k - 1, by omega⟩
    simp only [agateref11_PutNode.l1]
    rw [if_neg (by rw [List.length_map]; omega), List.drop_of_length_le (by omega)]; exact congrArg some (bytes_append_nil acc).symm
  | succ d ih =>
    intro k i acc hd hi hk hs
    obtain ⟨k, rfl⟩ : ∃ m, k = m + 1 := ⟨k - 1, by omega⟩
    have hlt : i < al.length := by omega
    have e0 : rd_T50 (al.map toA) (i : Int) = toA al[i] := by simp [rd_T50, hlt]
    have hq := ho al[i] (List.getElem_mem _)
    have h1 := fieldsA_size al[i] hq.1 hq.2
    have h2 := fA_size al[i] hq
    have ih' := ih k (i + 1) (acc ++ laidF [fA al[i]]) (by omega) (by omega) (by omega) (by rw [ByteArray.size_append]; omega)
    have hu := u64_range al[i].f2
    have s1 := fldT_size 1 al[i].f0 (by omega)
    have s2 := fldN_size 3 (IntKind.u64.wrap al[i].f2) hu
    have s3 := fldN_size 20 2 (by decide)
    have s4 := put_size al[i].f3 hq.2
    have s5 := fldN_size 20 7 (by decide)
    have goal : (if acc.size + (laidF [fldT 5 (laidF (fieldsA al[i]))]).size ≤ 9223372036854775807 then (agateref11_PutNode.l1 k (acc ++ laidF [fldT 5 (laidF (fieldsA al[i]))]) (wrap64 ((i : Int) + 1)) op ins out (al.map toA)) else none) = some (acc ++ laidF ((al.drop i).map fA)) := by
      rw [if_pos (by show acc.size + (laidF [fA al[i]]).size ≤ _; omega), wrap64_id (by omega) (by omega)]
      rw [List.drop_eq_getElem_cons hlt, List.map_cons, show fA al[i] :: (al.drop (i + 1)).map fA = [fA al[i]] ++ (al.drop (i + 1)).map fA from rfl, laidF_append, ← bytes_assoc]
      exact ih'
    simp only [agateref11_PutNode.l1]
    rw [if_pos (by rw [List.length_map]; omega), if_pos (by omega), e0]
    show ((agateref02_Text_s.f 1 al[i].f0).bind fun t108 => (agateref03_Put_s.f 8 al[i].f3).bind fun t109 => _) = _
    rw [rtext_f 1 (by decide) (by decide) _ (by omega), Option.bind_some, rput_f al[i].f3 hq.2, Option.bind_some, if_pos (by omega), rnum_f 20 7 (by decide) (by decide) (by decide), Option.bind_some, if_pos (by rw [ByteArray.size_append]; omega)]
    show (if al[i].f1 = true then _ else _) = _
    by_cases h : al[i].f1 = true
    · rw [if_pos h, rtext_f 1 (by decide) (by decide) (toA al[i]).f0 (by show al[i].f0.size ≤ _; omega), Option.bind_some, rnum_f 3 (IntKind.u64.wrap (toA al[i]).f2) (by decide) (by decide) hu, Option.bind_some, if_pos (by show (laidF [fldT 1 al[i].f0]).size + (laidF [fldN 3 (IntKind.u64.wrap al[i].f2)]).size ≤ _; omega), rnum_f 20 2 (by decide) (by decide) (by decide), Option.bind_some, if_pos (by rw [ByteArray.size_append]; show (laidF [fldT 1 al[i].f0]).size + (laidF [fldN 3 (IntKind.u64.wrap al[i].f2)]).size + _ ≤ _; omega)]
      show ((agateref02_Text_s.f 5 ((laidF [fldT 1 al[i].f0] ++ laidF [fldN 3 (IntKind.u64.wrap al[i].f2)]) ++ laidF [fldN 20 2])).bind _) = _
      rw [← fieldsA_one al[i] h, rtext_f 5 (by decide) (by decide) _ (by omega), Option.bind_some]
      exact goal
    · rw [if_neg h, ← fieldsA_row al[i] h, rtext_f 5 (by decide) (by decide) _ (by omega), Option.bind_some]
      exact goal
theorem refNode_l0 (op : ByteArray) (ins : List ByteArray) (out : ByteArray) (al : List S65) (hal : al.length ≤ 1048576) (ho : okA al) (hil : ins.length ≤ 1048576) (hin : ∀ x ∈ ins, x.size ≤ 1048576) (hop : op.size ≤ 1048576) (hout : out.size ≤ 1048576) (d : Nat) : ∀ (k i : Nat) (acc : ByteArray), ins.length - i = d → i ≤ ins.length → al.length + d + 1 < k → acc.size ≤ i * 2000000 →
    agateref11_PutNode.l0 k acc (i : Int) op ins out (al.map toA) = some (acc ++ laidF ((ins.drop i).map (fldT 1) ++ (fldT 2 out :: fldT 4 op :: al.map fA))) := by
  induction d with
  | zero =>
    intro k i acc hd hi hk hs
    obtain ⟨k, rfl⟩ : ∃ m, k = m + 1 := ⟨k - 1, by omega⟩
    have s2 := fldT_size 2 out (by omega)
    have s4 := fldT_size 4 op (by omega)
    simp only [agateref11_PutNode.l0]
    rw [if_neg (by omega), List.drop_of_length_le (by omega), rtext_f 2 (by decide) (by decide) out (by omega), Option.bind_some, if_pos (by omega), rtext_f 4 (by decide) (by decide) op (by omega), Option.bind_some, if_pos (by rw [ByteArray.size_append]; omega)]
    have h := refNode_l1 op ins out al hal ho al.length k 0 ((acc ++ laidF [fldT 2 out]) ++ laidF [fldT 4 op]) (by omega) (by omega) (by omega) (by rw [ByteArray.size_append, ByteArray.size_append]; omega)
    rw [List.drop_zero] at h
    rw [List.map_nil, List.nil_append, laidF_cons _ (fldT 4 op :: al.map fA), laidF_cons _ (al.map fA), ← bytes_assoc acc, ← bytes_assoc (acc ++ laidF [fldT 2 out])]
    exact h
  | succ d ih =>
    intro k i acc hd hi hk hs
    obtain ⟨k, rfl⟩ : ∃ m, k = m + 1 := ⟨k - 1, by omega⟩
    have hlt : i < ins.length := by omega
    have e0 : rdOf ByteArray.empty ins (i : Int) = ins[i] := by simp [rdOf, hlt]
    have hq := hin ins[i] (List.getElem_mem _)
    have s1 := fldT_size 1 ins[i] (by omega)
    have ih' := ih k (i + 1) (acc ++ laidF [fldT 1 ins[i]]) (by omega) (by omega) (by omega) (by rw [ByteArray.size_append]; omega)
    simp only [agateref11_PutNode.l0]
    rw [if_pos (by omega), if_pos (by omega), e0, rtext_f 1 (by decide) (by decide) _ (by omega), Option.bind_some, if_pos (by omega), wrap64_id (by omega) (by omega)]
    rw [List.drop_eq_getElem_cons hlt, List.map_cons, List.cons_append]
    generalize (List.map (fldT 1) (List.drop (i + 1) ins) ++ fldT 2 out :: fldT 4 op :: List.map fA al) = R at ih' ⊢
    rw [laidF_cons _ R, ← bytes_assoc]
    exact ih'
structure NodeSmall (op : ByteArray) (ins : List ByteArray) (out : ByteArray) (al : List S65) : Prop where
  hal : al.length ≤ 1048576
  hok : okA al
  hil : ins.length ≤ 1048576
  hins : ∀ x ∈ ins, x.size ≤ 1048576
  hop : op.size ≤ 1048576
  hout : out.size ≤ 1048576
theorem putNode_f {op : ByteArray} {ins : List ByteArray} {out : ByteArray} {al : List S65} (h : NodeSmall op ins out al) (k : Nat) (hk : al.length + ins.length + 1 < k) : pbnode_PutNode.f k op ins out al = some (laidF (fieldsN op ins out al)) := by
  have := putNode_l0 op ins out al h.hal h.hok h.hil h.hins h.hop h.hout ins.length k 0 ⟨#[]⟩ (by omega) (by omega) hk (Nat.zero_le _)
  rw [bytes_nil_append] at this
  exact this
theorem refNode_f {op : ByteArray} {ins : List ByteArray} {out : ByteArray} {al : List S65} (h : NodeSmall op ins out al) (k : Nat) (hk : al.length + ins.length + 1 < k) : agateref11_PutNode.f k op ins out (al.map toA) = some (laidF (fieldsN op ins out al)) := by
  have := refNode_l0 op ins out al h.hal h.hok h.hil h.hins h.hop h.hout ins.length k 0 ⟨#[]⟩ (by omega) (by omega) hk (Nat.zero_le _)
  rw [bytes_nil_append] at this
  exact this
theorem dimT_size (d : Int) : (dimT d).size ≤ 20 := fldN_size 1 _ (u64_range d)
theorem putInfo_l0 (nm : ByteArray) (kd : Int) (dims : List Int) (hdl : dims.length ≤ 1048576) (hnm : nm.size ≤ 1048576) (d : Nat) : ∀ (k i : Nat) (acc : ByteArray), dims.length - i = d → i ≤ dims.length → d < k → acc.size ≤ i * 100 → acc ++ laidF ((dims.drop i).map (fun d => fldT 1 (dimT d))) = laidF (fieldsD dims) →
    pbnode_PutInfo.l0 k acc dims (dims.length : Int) (i : Int) nm kd dims = some (laidF (fieldsI nm kd dims)) := by
  induction d with
  | zero =>
    intro k i acc hd hi hk hs hacc
    obtain ⟨k, rfl⟩ : ∃ m, k = m + 1 := ⟨k - 1, by omega⟩
    rw [List.drop_of_length_le (by omega)] at hacc
    obtain rfl : acc = laidF (fieldsD dims) := (bytes_append_nil acc).symm.trans hacc
    have hu := u64_range kd
    have s1 := fldT_size 1 nm (by omega)
    have s2 := fldN_size 1 (IntKind.u64.wrap kd) hu
    have s3 := fldT_size 2 (laidF (fieldsD dims)) (by omega)
    have s4 := fldT_size 1 (laidF [fldN 1 (IntKind.u64.wrap kd)] ++ laidF [fldT 2 (laidF (fieldsD dims))]) (by rw [ByteArray.size_append]; omega)
    rw [ByteArray.size_append] at s4
    have s5 := fldT_size 2 (laidF [fldT 1 (laidF [fldN 1 (IntKind.u64.wrap kd)] ++ laidF [fldT 2 (laidF (fieldsD dims))])]) (by omega)
    simp only [pbnode_PutInfo.l0]
    rw [if_neg (by omega), text_f 1 (by decide) (by decide) nm (by omega), Option.bind_some, num_f 1 _ (by decide) (by decide) hu, Option.bind_some, text_f 2 (by decide) (by decide) _ (by omega), Option.bind_some, if_pos (by omega), text_f 1 (by decide) (by decide) _ (by rw [ByteArray.size_append]; omega), Option.bind_some, text_f 2 (by decide) (by decide) _ (by omega), Option.bind_some, if_pos (by omega)]
    unfold fieldsI
    rw [laidF_cons _ [_], laidF_cons _ [fldT 2 (laidF (fieldsD dims))]]
  | succ d ih =>
    intro k i acc hd hi hk hs hacc
    obtain ⟨k, rfl⟩ : ∃ m, k = m + 1 := ⟨k - 1, by omega⟩
    have hlt : i < dims.length := by omega
    have e0 : rd dims (i : Int) = dims[i] := by simp [rd, hlt]
    have hu := u64_range dims[i]
    have s1 := dimT_size dims[i]
    have s2 := fldT_size 1 (dimT dims[i]) (by omega)
    rw [List.drop_eq_getElem_cons hlt, List.map_cons, laidF_cons, ← bytes_assoc] at hacc
    have ih' := ih k (i + 1) _ (by omega) (by omega) (by omega) (by rw [ByteArray.size_append]; omega) hacc
    simp only [pbnode_PutInfo.l0]
    rw [if_pos (by omega), if_pos (by omega), if_pos (by omega), e0, num_f 1 _ (by decide) (by decide) hu, Option.bind_some]
    show ((wire_Text_s.f 1 (dimT dims[i])).bind _) = _
    rw [text_f 1 (by decide) (by decide) _ (by omega), Option.bind_some, if_pos (by omega), wrap64_id (by omega) (by omega)]
    exact ih'
theorem refInfo_l0 (nm : ByteArray) (kd : Int) (dims : List Int) (hdl : dims.length ≤ 1048576) (hnm : nm.size ≤ 1048576) (d : Nat) : ∀ (k i : Nat) (acc : ByteArray), dims.length - i = d → i ≤ dims.length → d < k → acc.size ≤ i * 100 → acc ++ laidF ((dims.drop i).map (fun d => fldT 1 (dimT d))) = laidF (fieldsD dims) →
    agateref11_PutInfo.l0 k acc (i : Int) nm kd dims = some (laidF (fieldsI nm kd dims)) := by
  induction d with
  | zero =>
    intro k i acc hd hi hk hs hacc
    obtain ⟨k, rfl⟩ : ∃ m, k = m + 1 := ⟨k - 1, by omega⟩
    rw [List.drop_of_length_le (by omega)] at hacc
    obtain rfl : acc = laidF (fieldsD dims) := (bytes_append_nil acc).symm.trans hacc
    have hu := u64_range kd
    have s1 := fldT_size 1 nm (by omega)
    have s2 := fldN_size 1 (IntKind.u64.wrap kd) hu
    have s3 := fldT_size 2 (laidF (fieldsD dims)) (by omega)
    have s4 := fldT_size 1 (laidF [fldN 1 (IntKind.u64.wrap kd)] ++ laidF [fldT 2 (laidF (fieldsD dims))]) (by rw [ByteArray.size_append]; omega)
    rw [ByteArray.size_append] at s4
    have s5 := fldT_size 2 (laidF [fldT 1 (laidF [fldN 1 (IntKind.u64.wrap kd)] ++ laidF [fldT 2 (laidF (fieldsD dims))])]) (by omega)
    simp only [agateref11_PutInfo.l0]
    rw [if_neg (by omega), rtext_f 1 (by decide) (by decide) nm (by omega), Option.bind_some, rnum_f 1 _ (by decide) (by decide) hu, Option.bind_some, rtext_f 2 (by decide) (by decide) _ (by omega), Option.bind_some, if_pos (by omega), rtext_f 1 (by decide) (by decide) _ (by rw [ByteArray.size_append]; omega), Option.bind_some, rtext_f 2 (by decide) (by decide) _ (by omega), Option.bind_some, if_pos (by omega)]
    unfold fieldsI
    rw [laidF_cons _ [_], laidF_cons _ [fldT 2 (laidF (fieldsD dims))]]
  | succ d ih =>
    intro k i acc hd hi hk hs hacc
    obtain ⟨k, rfl⟩ : ∃ m, k = m + 1 := ⟨k - 1, by omega⟩
    have hlt : i < dims.length := by omega
    have e0 : rd dims (i : Int) = dims[i] := by simp [rd, hlt]
    have hu := u64_range dims[i]
    have s1 := dimT_size dims[i]
    have s2 := fldT_size 1 (dimT dims[i]) (by omega)
    rw [List.drop_eq_getElem_cons hlt, List.map_cons, laidF_cons, ← bytes_assoc] at hacc
    have ih' := ih k (i + 1) _ (by omega) (by omega) (by omega) (by rw [ByteArray.size_append]; omega) hacc
    simp only [agateref11_PutInfo.l0]
    rw [if_pos (by omega), if_pos (by omega), e0, rnum_f 1 _ (by decide) (by decide) hu, Option.bind_some]
    show ((agateref02_Text_s.f 1 (dimT dims[i])).bind _) = _
    rw [rtext_f 1 (by decide) (by decide) _ (by omega), Option.bind_some, if_pos (by omega), wrap64_id (by omega) (by omega)]
    exact ih'
theorem putInfo_f (nm : ByteArray) (kd : Int) (dims : List Int) (hdl : dims.length ≤ 1048576) (hnm : nm.size ≤ 1048576) (k : Nat) (hk : dims.length < k) : pbnode_PutInfo.f k nm kd dims = some (laidF (fieldsI nm kd dims)) :=
  putInfo_l0 nm kd dims hdl hnm dims.length k 0 ⟨#[]⟩ (by omega) (by omega) hk (Nat.zero_le _) (bytes_nil_append _)
theorem refInfo_f (nm : ByteArray) (kd : Int) (dims : List Int) (hdl : dims.length ≤ 1048576) (hnm : nm.size ≤ 1048576) (k : Nat) (hk : dims.length < k) : agateref11_PutInfo.f k nm kd dims = some (laidF (fieldsI nm kd dims)) :=
  refInfo_l0 nm kd dims hdl hnm dims.length k 0 ⟨#[]⟩ (by omega) (by omega) hk (Nat.zero_le _) (bytes_nil_append _)
def goodF (x : S75) : Prop := 1 ≤ x.f0 ∧ x.f0 ≤ 100 ∧ x.f3.size ≤ 140737488351232 ∧ (x.f1 = 2 ∧ x.f2 = 0 ∨ x.f1 = 0 ∧ x.f3 = ⟨#[]⟩ ∧ 0 ≤ x.f2 ∧ x.f2 < 18446744073709551616)
theorem goodT (num : Int) (h0 : 1 ≤ num) (h1 : num ≤ 100) (s : ByteArray) (hs : s.size ≤ 140737488351232) : goodF (fldT num s) := ⟨h0, h1, hs, .inl ⟨rfl, rfl⟩⟩
theorem goodN (num v : Int) (h0 : 1 ≤ num) (h1 : num ≤ 100) (hv : 0 ≤ v ∧ v < 18446744073709551616) : goodF (fldN num v) := ⟨h0, h1, by show (0 : Nat) ≤ _; decide, .inr ⟨rfl, rfl, hv.1, hv.2⟩⟩
theorem good_may {x : S75} (h : goodF x) : mayF x ∧ 0 ≤ x.f2 ∧ x.f2 < 18446744073709551616 ∧ x.f3.size ≤ 140737488351232 := by
  obtain ⟨h0, h1, h2, h3⟩ := h
  rcases h3 with ⟨h3, h4⟩ | ⟨h3, h4, h5, h6⟩
  · exact ⟨⟨h0, by omega, by omega, by omega⟩, by omega, by omega, h2⟩
  · exact ⟨⟨h0, by omega, by omega, by omega⟩, h5, h6, h2⟩
theorem good_back {x : S75} (h : goodF x) : toP (fieldOf x) = x := by
  obtain ⟨h0, h1, h2, h3⟩ := h
  obtain ⟨a, b, c, d⟩ := x
  rcases h3 with ⟨h3, h4⟩ | ⟨h3, h4, h5, h6⟩
  · simp only at h3 h4; subst h3; subst h4; rfl
  · simp only at h3 h4; subst h3; subst h4; rfl
theorem fields_laid (l : List S75) (h : ∀ x ∈ l, goodF x) (hs : (laidF l).size ≤ 1048576) : (fieldsS (laidF l)).1.map toP = l ∧ (fieldsS (laidF l)).2 = 0 ∧ (fieldsS (laidF l)).1.length = l.length := by
  have e : fieldsS (laidF l) = (l.map fieldOf, 0) := by
    unfold fieldsS
    rw [if_neg (by omega)]
    exact fieldsF_laid l (fun x hx => good_may (h x hx)) _ (laidF_len l (fun x hx => (good_may (h x hx)).1))
  rw [e]
  refine ⟨?_, rfl, List.length_map ..⟩
  show (l.map fieldOf).map toP = l
  rw [List.map_map]
  have : l.map (toP ∘ fieldOf) = l.map id := List.map_congr_left (fun x hx => good_back (h x hx))
  rw [this, List.map_id]
theorem filter_T {α : Type} (num m : Int) (g : α → ByteArray) (l : List α) : (l.map (fun a => fldT m (g a))).filter (fun x => x.f0 == num) = if m = num then l.map (fun a => fldT m (g a)) else [] := by
  induction l with
  | nil => split <;> rfl
  | cons a l ih =>
    rw [List.map_cons, List.filter_cons, ih]
    show (if (m == num) = true then _ else _) = _
    by_cases h : m = num
    · rw [if_pos (beq_iff_eq.2 h), if_pos h, if_pos h]
    · rw [if_neg (fun e => h (beq_iff_eq.1 e)), if_neg h, if_neg h]
theorem textsL_T {α : Type} (m : Int) (g : α → ByteArray) : ∀ (l : List α) (out : List ByteArray), textsL ((l.map (fun a => fldT m (g a))).map flP) out = (out ++ l.map g, 0)
  | [], out => by simp [textsL]
  | a :: l, out => by
    rw [List.map_cons, List.map_cons, textsL, if_pos (show (flP (fldT m (g a))).2.1 = 2 from rfl), textsL_T m g l, List.map_cons]
    show (out ++ [g a] ++ l.map g, 0) = _
    rw [List.append_assoc]; rfl
theorem filter_N (num : Int) (op : ByteArray) (ins : List ByteArray) (out : ByteArray) (al : List S65) :
    (fieldsN op ins out al).filter (fun x => x.f0 == num) = (if (1 : Int) = num then ins.map (fldT 1) else []) ++ ((if (2 : Int) = num then [fldT 2 out] else []) ++ ((if (4 : Int) = num then [fldT 4 op] else []) ++ (if (5 : Int) = num then al.map fA else []))) := by
  unfold fieldsN
  rw [List.filter_append, filter_T num 1 (fun s => s) ins, show fldT 2 out :: fldT 4 op :: al.map (fun a => fldT 5 (laidF (fieldsA a))) = [fldT 2 out] ++ ([fldT 4 op] ++ al.map (fun a => fldT 5 (laidF (fieldsA a)))) from rfl, List.filter_append, List.filter_append]
  rw [show al.map fA = al.map (fun a => fldT 5 (laidF (fieldsA a))) from rfl, filter_T num 5 _ al]
  have h2 := filter_T num 2 (fun s => s) [out]
  have h4 := filter_T num 4 (fun s => s) [op]
  simp only [List.map_cons, List.map_nil] at h2 h4
  rw [h2, h4]
def nrmA (a : S65) : S65 := if a.f1 = true then ⟨a.f0, true, a.f2, []⟩ else ⟨a.f0, false, 0, a.f3⟩
def mayA (a : S65) : Prop := nameR a.f0 = true ∧ inRc a.f2 ∧ (∀ x ∈ a.f3, inRc x) ∧ a.f0.size ≤ 6000 ∧ a.f3.length ≤ 6000
theorem wrap_u64d {n : Int} (h : inRc n) : wrap64 (IntKind.u64.wrap n) = n := by
  have := u64_range n
  rw [u64_wrap]
  obtain ⟨h0, h1⟩ := h
  unfold wrap64
  omega
theorem catS_len : ∀ (part : List Int), part.length ≤ (catS part).size
  | [] => Nat.zero_le _
  | n :: part => by
    have h := catS_len part
    have := vSize_pos (IntKind.u64.wrap n).toNat
    rw [catS, ByteArray.size_append, vStr_size, List.length_cons]; omega
theorem fieldsA_t (a : S65) (h : a.f1 = true) : fieldsA a = [fldT 1 a.f0, fldN 3 (IntKind.u64.wrap a.f2), fldN 20 2] := by
  unfold fieldsA; rw [if_pos h, if_pos h]; rfl
theorem fieldsA_n (a : S65) (h : ¬ a.f1 = true) (h2 : a.f3 = []) : fieldsA a = [fldT 1 a.f0, fldN 20 7] := by
  unfold fieldsA; rw [if_neg h, if_neg h, if_pos h2]; rfl
theorem fieldsA_r (a : S65) (h : ¬ a.f1 = true) (h2 : ¬ a.f3 = []) : fieldsA a = [fldT 1 a.f0, fldT 8 (catS a.f3), fldN 20 7] := by
  unfold fieldsA; rw [if_neg h, if_neg h, if_neg h2]; rfl
theorem goodA (a : S65) (h : mayA a) : ∀ x ∈ fieldsA a, goodF x := by
  obtain ⟨h1, h2, h3, h4, h5⟩ := h
  have hc := catS_size a.f3
  have g1 : goodF (fldT 1 a.f0) := goodT 1 (by decide) (by decide) _ (by omega)
  have g2 := goodN 3 (IntKind.u64.wrap a.f2) (by decide) (by decide) (u64_range _)
  have g3 := goodN 20 2 (by decide) (by decide) ⟨by decide, by decide⟩
  have g4 := goodN 20 7 (by decide) (by decide) ⟨by decide, by decide⟩
  have g5 : goodF (fldT 8 (catS a.f3)) := goodT 8 (by decide) (by decide) _ (by omega)
  intro x hx
  by_cases e : a.f1 = true
  · rw [fieldsA_t a e] at hx
    simp only [List.mem_cons, List.not_mem_nil, or_false] at hx
    rcases hx with rfl | rfl | rfl <;> assumption
  · by_cases e2 : a.f3 = []
    · rw [fieldsA_n a e e2] at hx
      simp only [List.mem_cons, List.not_mem_nil, or_false] at hx
      rcases hx with rfl | rfl <;> assumption
    · rw [fieldsA_r a e e2] at hx
      simp only [List.mem_cons, List.not_mem_nil, or_false] at hx
      rcases hx with rfl | rfl | rfl <;> assumption
theorem attr_read (a : S65) (h : mayA a) : ∃ n i k row, AttrMsg (laidF (fieldsA a)) n i k row ∧ attrOf n i k row = nrmA a := by
  have hg := goodA a h
  obtain ⟨h1, h2, h3, h4, h5⟩ := h
  have hs := fieldsA_size a (by omega) (by omega)
  have hc := catS_size a.f3
  have hcl := catS_len a.f3
  obtain ⟨e1, e2, e3⟩ := fields_laid (fieldsA a) hg (by omega)
  have hd : ∀ x ∈ (fieldsS (laidF (fieldsA a))).1.map toP, x.f3.size ≤ 140737488351232 := by
    rw [e1]; intro x hx; exact (hg x hx).2.2.1
  have hlen : (fieldsA a).length ≤ 3 := by
    by_cases e : a.f1 = true
    · rw [fieldsA_t a e]; exact Nat.le_refl _
    · by_cases e4 : a.f3 = []
      · rw [fieldsA_n a e e4]; exact Nat.le_succ _
      · rw [fieldsA_r a e e4]; exact Nat.le_refl _
  have hnm : ∃ K, tensor_Name.f K a.f0 = some true := tensor_Name_s.ev a.f0 true (by unfold tensor_Name_s.f; rw [if_pos (by omega), h1])
  by_cases e : a.f1 = true
  · have hl := fieldsA_t a e
    refine ⟨some (fldT 1 a.f0), some (fldN 3 (IntKind.u64.wrap a.f2)), some (fldN 20 2), [], ⟨by omega, e2, by omega, hd, by rw [e1, hl]; rfl, fun y hy => by cases hy; rfl, by rw [e1, hl]; rfl, fun y hy => by cases hy; rfl, by rw [e1, hl]; rfl, fun y hy => by cases hy; rfl, by rw [e1, hl]; rfl, hnm, .inl rfl, Nat.zero_le _⟩, ?_⟩
    unfold attrOf nrmA
    rw [if_pos (show (lastTup (some (fldN 20 2))).2.2.1 = 2 from rfl), if_pos e]
    show (⟨a.f0, true, wrap64 (IntKind.u64.wrap a.f2), []⟩ : S65) = _
    rw [wrap_u64d h2]
  · by_cases e4 : a.f3 = []
    · have hl := fieldsA_n a e e4
      refine ⟨some (fldT 1 a.f0), none, some (fldN 20 7), [], ⟨by omega, e2, by omega, hd, by rw [e1, hl]; rfl, fun y hy => by cases hy; rfl, by rw [e1, hl]; rfl, (fun y hy => nomatch hy), by rw [e1, hl]; rfl, fun y hy => by cases hy; rfl, by rw [e1, hl]; rfl, hnm, .inr rfl, Nat.zero_le _⟩, ?_⟩
      unfold attrOf nrmA
      rw [if_neg (show ¬ (lastTup (some (fldN 20 7))).2.2.1 = 2 from by decide), if_neg e, e4]
      rfl
    · have hl := fieldsA_r a e e4
      have hr : intsL ((([fldT 1 a.f0, fldT 8 (catS a.f3), fldN 20 7] : List S75).filter fun x => x.f0 == 8).map flP) [] = (a.f3, 0) := by
        show intsL [((8 : Int), (2 : Int), (0 : Int), catS a.f3)] [] = _
        have hp := packed_catc a.f3 (catS a.f3).size [] hcl (by simp; omega) h3
        rw [List.nil_append] at hp
        rw [intsL, if_neg (show ¬ (2 : Int) = 0 from by decide), if_pos (show (2 : Int) = 2 from rfl)]
        show (if (packedF (catS a.f3).size [] (catS a.f3)).2 ≠ 0 then _ else intsL [] (packedF (catS a.f3).size [] (catS a.f3)).1) = _
        rw [hp, if_neg (by simp), intsL]
      refine ⟨some (fldT 1 a.f0), none, some (fldN 20 7), a.f3, ⟨by omega, e2, by omega, hd, by rw [e1, hl]; rfl, fun y hy => by cases hy; rfl, by rw [e1, hl]; rfl, (fun y hy => nomatch hy), by rw [e1, hl]; rfl, fun y hy => by cases hy; rfl, by rw [e1, hl]; exact hr, hnm, .inr rfl, by omega⟩, ?_⟩
      unfold attrOf nrmA
      rw [if_neg (show ¬ (lastTup (some (fldN 20 7))).2.2.1 = 2 from by decide), if_neg e]
      rfl
structure MayN (op : ByteArray) (ins : List ByteArray) (out : ByteArray) (al : List S65) : Prop where
  sm : NodeSmall op ins out al
  it : ins.length ≤ 64
  each : ∀ a ∈ al, mayA a
  di : ∀ (j : Nat) (hj : j < al.length), al[j].f0 ∉ (al.map (fun x => x.f0)).take j
  size : (laidF (fieldsN op ins out al)).size ≤ 1048576
  al6 : al.length ≤ 6000
theorem node_read {op : ByteArray} {ins : List ByteArray} {out : ByteArray} {al : List S65} (h : MayN op ins out al) :
    NodeMsg (laidF (fieldsN op ins out al)) out ins (al.map (fun a => laidF (fieldsA a))) (some (fldT 4 op)) none (al.map nrmA) := by
  have hg : ∀ x ∈ fieldsN op ins out al, goodF x := by
    intro x hx
    unfold fieldsN at hx
    rcases List.mem_append.1 hx with hx | hx
    · obtain ⟨s, hs, rfl⟩ := List.mem_map.1 hx
      have := h.sm.hins s hs
      exact goodT 1 (by decide) (by decide) s (by omega)
    · rcases List.mem_cons.1 hx with rfl | hx
      · have := h.sm.hout
        exact goodT 2 (by decide) (by decide) out (by omega)
      · rcases List.mem_cons.1 hx with rfl | hx
        · have := h.sm.hop
          exact goodT 4 (by decide) (by decide) op (by omega)
        · obtain ⟨a, ha, rfl⟩ := List.mem_map.1 hx
          have h0 := h.each a ha
          have := fieldsA_size a (by have := h0.2.2.2.1; omega) (by have := h0.2.2.2.2; omega)
          have h4 := h0.2.2.2.1
          have h5 := h0.2.2.2.2
          exact goodT 5 (by decide) (by decide) _ (by omega)
  obtain ⟨e1, e2, e3⟩ := fields_laid _ hg h.size
  have hs := h.size
  have hl : (fieldsN op ins out al).length ≤ 1048576 := by
    have h1 := laidF_len _ (fun x hx => (good_may (hg x hx)).1)
    omega
  have f2 := filter_N 2 op ins out al
  have f5 := filter_N 5 op ins out al
  have f1 := filter_N 1 op ins out al
  have f4 := filter_N 4 op ins out al
  have f7 := filter_N 7 op ins out al
  simp only [show ((1 : Int) = 1) = True from by decide, show ((2 : Int) = 1) = False from by decide, show ((4 : Int) = 1) = False from by decide, show ((5 : Int) = 1) = False from by decide,
    show ((1 : Int) = 2) = False from by decide, show ((2 : Int) = 2) = True from by decide, show ((4 : Int) = 2) = False from by decide, show ((5 : Int) = 2) = False from by decide,
    show ((1 : Int) = 4) = False from by decide, show ((2 : Int) = 4) = False from by decide, show ((4 : Int) = 4) = True from by decide, show ((5 : Int) = 4) = False from by decide,
    show ((1 : Int) = 5) = False from by decide, show ((2 : Int) = 5) = False from by decide, show ((4 : Int) = 5) = False from by decide, show ((5 : Int) = 5) = True from by decide,
    show ((1 : Int) = 7) = False from by decide, show ((2 : Int) = 7) = False from by decide, show ((4 : Int) = 7) = False from by decide, show ((5 : Int) = 7) = False from by decide,
    if_true, if_false, List.append_nil, List.nil_append] at f1 f2 f4 f5 f7
  refine ⟨by omega, e2, by omega, ?_, ?_, ?_, ?_, fun y hy => by cases hy; rfl, ?_, (fun y hy => nomatch hy), rfl, h.it, ?_, ?_, ?_, ?_⟩
  · rw [e1, f2]
    exact textsL_T 2 (fun s => s) [out] []
  · rw [e1, f5]
    have := textsL_T 5 (fun a => laidF (fieldsA a)) al []
    rw [List.nil_append] at this
    exact this
  · rw [e1, f1]
    have := textsL_T 1 (fun s => s) ins []
    rw [List.nil_append, List.map_id'] at this
    exact this
  · rw [e1, f4]; rfl
  · rw [e1, f7]; rfl
  · rw [List.length_map]; have := h.al6; omega
  · rw [List.length_map, List.length_map]
  · intro j hj hj2
    rw [List.length_map] at hj
    obtain ⟨n, i, k, row, h1, h2⟩ := attr_read al[j] (h.each _ (List.getElem_mem hj))
    refine ⟨n, i, k, row, ?_, ?_⟩
    · rw [List.getElem_map]; exact h1
    · rw [List.getElem_map]; exact h2
  · intro j hj
    rw [List.length_map] at hj
    have e : (al.map nrmA).map (fun x => x.f0) = al.map (fun x => x.f0) := by
      rw [List.map_map]
      exact List.map_congr_left (fun a _ => by show (nrmA a).f0 = a.f0; unfold nrmA; split <;> rfl)
    rw [e, List.getElem_map]
    have : (nrmA al[j]).f0 = al[j].f0 := by unfold nrmA; split <;> rfl
    rw [this]
    exact h.di j hj
theorem fieldsD_size : ∀ (dims : List Int), (laidF (fieldsD dims)).size ≤ 40 * dims.length
  | [] => Nat.zero_le _
  | d :: dims => by
    have h := fieldsD_size dims
    have h0 := dimT_size d
    have h1 := fldT_size 1 (dimT d) (by omega)
    show (laidF (fldT 1 (dimT d) :: fieldsD dims)).size ≤ _
    rw [laidF_cons, ByteArray.size_append, List.length_cons]; omega
theorem laidF_two (x y : S75) : (laidF [x, y]).size = (laidF [x]).size + (laidF [y]).size := by
  rw [laidF_cons, ByteArray.size_append]
theorem sizeK_pos {k : Int} (h : 0 < sizeK k) : 0 ≤ k ∧ k ≤ 14 := by
  unfold sizeK at h
  split at h
  · omega
  · split at h
    · omega
    · split at h
      · omega
      · split at h
        · omega
        · split at h
          · omega
          · omega
set_option maxHeartbeats 1000000 in
theorem info_read (nm : ByteArray) (kd : Int) (dims : List Int) (hn : nameR nm = true) (hns : nm.size ≤ 6000) (hk : 0 < sizeK kd) (hd : ∀ x ∈ dims, inRc x) (h6 : dims.length ≤ 6000) :
    InfoMsg (laidF (fieldsI nm kd dims)) (some (fldT 1 nm)) (some (fldN 1 kd)) (laidF [fldT 1 (laidF [fldN 1 (IntKind.u64.wrap kd), fldT 2 (laidF (fieldsD dims))])]) (laidF [fldN 1 (IntKind.u64.wrap kd), fldT 2 (laidF (fieldsD dims))]) (laidF (fieldsD dims)) (dims.map dimT) dims := by
  have hk2 := sizeK_pos hk
  have hwk : IntKind.u64.wrap kd = kd := by rw [u64_wrap]; omega
  rw [show fieldsI nm kd dims = [fldT 1 nm, fldT 2 (laidF [fldT 1 (laidF [fldN 1 (IntKind.u64.wrap kd), fldT 2 (laidF (fieldsD dims))])])] from rfl, hwk]
  have s0 := fieldsD_size dims
  have gD : ∀ x ∈ fieldsD dims, goodF x := by
    intro x hx
    obtain ⟨d, hd', rfl⟩ := List.mem_map.1 hx
    have := dimT_size d
    exact goodT 1 (by decide) (by decide) _ (by omega)
  obtain ⟨d1, d2, d3⟩ := fields_laid (fieldsD dims) gD (by omega)
  have dl : (fieldsD dims).length = dims.length := List.length_map ..
  generalize hb3 : laidF (fieldsD dims) = b3 at *
  have s1 := fldT_size 2 b3 (by omega)
  have s1n := fldN_size 1 kd ⟨by omega, by omega⟩
  have s2 := laidF_two (fldN 1 kd) (fldT 2 b3)
  have g2 : ∀ x ∈ [fldN 1 kd, fldT 2 b3], goodF x := by
    intro x hx
    simp only [List.mem_cons, List.not_mem_nil, or_false] at hx
    rcases hx with rfl | rfl
    · exact goodN 1 kd (by decide) (by decide) ⟨by omega, by omega⟩
    · exact goodT 2 (by decide) (by decide) _ (by omega)
  obtain ⟨e1, e2, e3⟩ := fields_laid [fldN 1 kd, fldT 2 b3] g2 (by omega)
  generalize hb2 : laidF [fldN 1 kd, fldT 2 b3] = b2 at *
  have s3 := fldT_size 1 b2 (by omega)
  have g1 : ∀ x ∈ [fldT 1 b2], goodF x := by
    intro x hx
    rw [List.mem_singleton.1 hx]
    exact goodT 1 (by decide) (by decide) _ (by omega)
  obtain ⟨f1, f2, f3⟩ := fields_laid [fldT 1 b2] g1 (by omega)
  generalize hb1 : laidF [fldT 1 b2] = b1 at *
  have s4 := fldT_size 1 nm (by omega)
  have s5 := fldT_size 2 b1 (by omega)
  have s6 := laidF_two (fldT 1 nm) (fldT 2 b1)
  have g0 : ∀ x ∈ [fldT 1 nm, fldT 2 b1], goodF x := by
    intro x hx
    simp only [List.mem_cons, List.not_mem_nil, or_false] at hx
    rcases hx with rfl | rfl
    · exact goodT 1 (by decide) (by decide) _ (by omega)
    · exact goodT 2 (by decide) (by decide) _ (by omega)
  obtain ⟨j1, j2, j3⟩ := fields_laid [fldT 1 nm, fldT 2 b1] g0 (by omega)
  have l3 : [fldT 1 nm, fldT 2 b1].length = 2 := rfl
  have l2 : [fldT 1 b2].length = 1 := rfl
  have l1 : [fldN 1 kd, fldT 2 b3].length = 2 := rfl
  refine ⟨by omega, j2, by omega, by rw [j1]; rfl, fun y hy => by cases hy; rfl, by rw [j1]; exact textsL_T 2 (fun s => s) [b1] [],
    by omega, f2, by omega, by rw [f1]; exact textsL_T 1 (fun s => s) [b2] [], by omega, e2, by omega, by rw [e1]; rfl, fun y hy => by cases hy; rfl,
    by rw [e1]; exact textsL_T 2 (fun s => s) [b3] [], by omega, d2, by omega, ?_, by rw [List.length_map]; omega, by rw [List.length_map], ?_, tensor_Name_s.ev nm true (by unfold tensor_Name_s.f; rw [if_pos (by omega), hn]), by show 0 ≤ kd; omega, by show kd ≤ 1048576; omega, by show sizeK kd ≠ 0; omega⟩
  · rw [d1]
    have h := filter_T 1 1 dimT dims
    rw [if_pos rfl] at h
    rw [show fieldsD dims = dims.map (fun d => fldT 1 (dimT d)) from rfl, h]
    have := textsL_T 1 dimT dims []
    rw [List.nil_append] at this
    exact this
  · intro j hj hj2
    have s := dimT_size dims[j]
    have hu := u64_range dims[j]
    obtain ⟨k1, k2, k3⟩ := fields_laid [fldN 1 (IntKind.u64.wrap dims[j])] (fun x hx => by
      rw [List.mem_singleton.1 hx]; exact goodN 1 _ (by decide) (by decide) hu) (by show (dimT dims[j]).size ≤ _; omega)
    rw [List.getElem_map]
    have l0 : [fldN 1 (IntKind.u64.wrap dims[j])].length = 1 := rfl
    refine ⟨by omega, k2, ?_, fldN 1 (IntKind.u64.wrap dims[j]), ?_, rfl, wrap_u64d (hd _ (List.getElem_mem hj2))⟩
    · show (fieldsS (laidF [fldN 1 (IntKind.u64.wrap dims[j])])).1.length ≤ _
      omega
    · show (((fieldsS (laidF [fldN 1 (IntKind.u64.wrap dims[j])])).1.map toP).filter fun x => x.f0 == 1).getLast? = _
      rw [k1]; rfl
theorem texts_size : ∀ (l : List ByteArray), (∀ x ∈ l, x.size ≤ 6000) → (laidF (l.map (fldT 1))).size ≤ (l.map (fun x => 20 + x.size)).sum
  | [], _ => Nat.zero_le _
  | s :: l, h => by
    have h0 := h s (List.mem_cons_self ..)
    have h1 := texts_size l (fun x hx => h x (List.mem_cons_of_mem _ hx))
    have h2 := fldT_size 1 s (by omega)
    rw [List.map_cons, laidF_cons, ByteArray.size_append, List.map_cons, List.sum_cons]; omega
theorem attrs_size : ∀ (l : List S65), (∀ a ∈ l, a.f0.size ≤ 6000 ∧ a.f3.length ≤ 6000) → (laidF (l.map fA)).size ≤ (l.map (fun a => 80 + a.f0.size + 10 * a.f3.length)).sum
  | [], _ => Nat.zero_le _
  | a :: l, h => by
    have h0 := h a (List.mem_cons_self ..)
    have h1 := attrs_size l (fun x hx => h x (List.mem_cons_of_mem _ hx))
    have h2 := fieldsA_size a (by omega) (by omega)
    have h3 := fldT_size 5 (laidF (fieldsA a)) (by omega)
    rw [List.map_cons, laidF_cons, ByteArray.size_append, List.map_cons, List.sum_cons]
    show (laidF [fldT 5 (laidF (fieldsA a))]).size + _ ≤ _
    omega
theorem node_size (op : ByteArray) (ins : List ByteArray) (out : ByteArray) (al : List S65) (hop : op.size ≤ 6000) (hout : out.size ≤ 6000) (hi : ∀ x ∈ ins, x.size ≤ 6000) (ha : ∀ a ∈ al, a.f0.size ≤ 6000 ∧ a.f3.length ≤ 6000) :
    (laidF (fieldsN op ins out al)).size ≤ (ins.map (fun x => 20 + x.size)).sum + (20 + out.size) + (20 + op.size) + (al.map (fun a => 80 + a.f0.size + 10 * a.f3.length)).sum := by
  have h1 := texts_size ins hi
  have h2 := attrs_size al ha
  have h3 := fldT_size 2 out (by omega)
  have h4 := fldT_size 4 op (by omega)
  unfold fieldsN
  rw [laidF_append, ByteArray.size_append, laidF_cons (fldT 2 out), ByteArray.size_append, laidF_cons (fldT 4 op), ByteArray.size_append]
  show _ + (_ + (_ + (laidF (al.map fA)).size)) ≤ _
  omega
end Go.Proofs.YthidedmnmdlfkaaGreat.X
