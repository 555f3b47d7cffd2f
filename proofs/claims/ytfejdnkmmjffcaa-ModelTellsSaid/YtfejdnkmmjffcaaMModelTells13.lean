import Derived.Test.YtfejdnkmmjffcaaMModelTells3
import Derived.Test.YtfejdnkmmjffcaaMModelTells11
import Derived.Test.YtfejdnkmmjffcaaMModelTells4
namespace Go.Proofs.Ytfejdnkmmjffcaa.X
open Go.RowKit Go.Proofs.YtfejdnkmmjffcaaW.PrintWords Go.Proofs.YtfejdnkmmjffcaaW.PrintLast Go.Proofs.YtfejdnkmmjffcaaW.PrintMore
attribute [local go_sem] max2_int min2_int max_two min_two max_three min_three max_four min_four
set_option linter.unusedVariables false
set_option linter.unusedSimpArgs false
mutual
def agateref10_Nodes.j0 : Nat → Bool → ByteArray → List ByteArray → ByteArray → List (S90) → ByteArray → List ByteArray → ByteArray → List (S90) → Option (Bool)
 | 0, _, _, _, _, _, _, _, _, _ => none
 | k + 1, x36, x102000, x102001, x102002, x102003, x103000, x103001, x103002, x103003 => if x36 = true then (some false) else (agateref10_Nodes.l0 k 0 x102000 x102001 x102002 x102003 x103000 x103001 x103002 x103003)
def agateref10_Nodes.l0 : Nat → Int → ByteArray → List ByteArray → ByteArray → List (S90) → ByteArray → List ByteArray → ByteArray → List (S90) → Option (Bool)
 | 0, _, _, _, _, _, _, _, _, _ => none
 | k + 1, x5, x102000, x102001, x102002, x102003, x103000, x103001, x103002, x103003 => if x5 < (x102001.length : Int) then (if 0 ≤ x5 then (if x5 < (x103001.length : Int) then (if (rdOf ByteArray.empty x102001 x5).toList = (rdOf ByteArray.empty x103001 x5).toList then (agateref10_Nodes.l0 k (wrap64 (x5 + 1)) x102000 x102001 x102002 x102003 x103000 x103001 x103002 x103003) else (some false)) else (none)) else (none)) else (agateref10_Nodes.l1 k 0 x102000 x102001 x102002 x102003 x103000 x103001 x103002 x103003)
def agateref10_Nodes.l1 : Nat → Int → ByteArray → List ByteArray → ByteArray → List (S90) → ByteArray → List ByteArray → ByteArray → List (S90) → Option (Bool)
 | 0, _, _, _, _, _, _, _, _, _ => none
 | k + 1, x6, x102000, x102001, x102002, x102003, x103000, x103001, x103002, x103003 => if x6 < (x102003.length : Int) then (if 0 ≤ x6 then (if x6 < (x103003.length : Int) then ((agateref10_Attrs.f k ((rd_T90 x102003 x6).f0) ((rd_T90 x102003 x6).f1) ((rd_T90 x102003 x6).f2) ((rd_T90 x102003 x6).f3) ((rd_T90 x103003 x6).f0) ((rd_T90 x103003 x6).f1) ((rd_T90 x103003 x6).f2) ((rd_T90 x103003 x6).f3)).bind fun t107 => (if t107 = true then (agateref10_Nodes.l1 k (wrap64 (x6 + 1)) x102000 x102001 x102002 x102003 x103000 x103001 x103002 x103003) else (some false))) else (none)) else (none)) else (some true)
end
def agateref10_Nodes.f (k : Nat) (a0_0 : ByteArray) (l0_1 : List ByteArray) (a0_2 : ByteArray) (l0_3 : List (S90)) (a1_0 : ByteArray) (l1_1 : List ByteArray) (a1_2 : ByteArray) (l1_3 : List (S90)) : Option (Bool) := if a0_0.toList = a1_0.toList then (if a0_2.toList = a1_2.toList then (if (l0_1.length : Int) = (l1_1.length : Int) then (agateref10_Nodes.j0 k ((l0_3.length : Int) != (l1_3.length : Int)) a0_0 l0_1 a0_2 l0_3 a1_0 l1_1 a1_2 l1_3) else (agateref10_Nodes.j0 k true a0_0 l0_1 a0_2 l0_3 a1_0 l1_1 a1_2 l1_3)) else (agateref10_Nodes.j0 k true a0_0 l0_1 a0_2 l0_3 a1_0 l1_1 a1_2 l1_3)) else (agateref10_Nodes.j0 k true a0_0 l0_1 a0_2 l0_3 a1_0 l1_1 a1_2 l1_3)
def agateref10_Nodes.T6 : Bool × List (List Nat × List Nat) := (true, [([], []), ([0], [0]), ([], []), ([1, 2], [1, 2]), ([3], [3]), ([], []), ([5], [5]), ([], []), ([6, 7], [6, 7]), ([8], [8]), ([4, 9], [4, 9])])
def agateref10_Nodes.B6 : List Nat := [0, 1, 0, 7, 15, 0, 32, 0, 224, 480, 1023]
theorem agateref10_Nodes.tab6 : rtab .any (opsOf Try.f24 6) = agateref10_Nodes.T6 := by kernel_rfl
theorem agateref10_Nodes.bits6 : waitsOk agateref10_Nodes.T6.2 agateref10_Nodes.B6 = true := by kernel_rfl
def agateref10_Nodes.T11 : Bool × List (List Nat × List Nat) := (true, [([], []), ([0], [0]), ([], []), ([1, 2], [1, 2]), ([3], [3]), ([], []), ([5], [5]), ([], []), ([6, 7], [6, 7]), ([8], [8]), ([4, 9], [4, 9]), ([10], [10])])
def agateref10_Nodes.B11 : List Nat := [0, 1, 0, 7, 15, 0, 32, 0, 224, 480, 1023, 2047]
theorem agateref10_Nodes.tab11 : rtab .any (opsOf Try.f24 11) = agateref10_Nodes.T11 := by kernel_rfl
theorem agateref10_Nodes.bits11 : waitsOk agateref10_Nodes.T11.2 agateref10_Nodes.B11 = true := by kernel_rfl
set_option maxHeartbeats 8000000 in
set_option maxRecDepth 100000 in
theorem agateref10_Nodes.calls (k : Nat) (a0_0 : ByteArray) (A0_1 : Option Addr) (c0_1 : Nat) (l0_1 : List ByteArray) (a0_2 : ByteArray) (A0_3 : Option Addr) (c0_3 : Nat) (l0_3 : List (S90)) (a1_0 : ByteArray) (A1_1 : Option Addr) (c1_1 : Nat) (l1_1 : List ByteArray) (a1_2 : ByteArray) (A1_3 : Option Addr) (c1_3 : Nat) (l1_3 : List (S90)) (r : Bool) (w : World) (hr0_1 : Kd.C Kd.string w A0_1 l0_1.length l0_1) (hc0_1 : l0_1.length ≤ c0_1) (hr0_3 : Kd.C k90 w A0_3 l0_3.length l0_3) (hc0_3 : l0_3.length ≤ c0_3) (hr1_1 : Kd.C Kd.string w A1_1 l1_1.length l1_1) (hc1_1 : l1_1.length ≤ c1_1) (hr1_3 : Kd.C k90 w A1_3 l1_3.length l1_3) (hc1_3 : l1_3.length ≤ c1_3) (h : agateref10_Nodes.f k a0_0 l0_1 a0_2 l0_3 a1_0 l1_1 a1_2 l1_3 = some r) :
  Calls Try.prog 24 #[.agg #[.string a0_0, .slice A0_1 l0_1.length c0_1, .string a0_2, .slice A0_3 l0_3.length c0_3], .agg #[.string a1_0, .slice A1_1 l1_1.length c1_1, .string a1_2, .slice A1_3 l1_3.length c1_3]] w fun e w' => e = .returned (.bool r) ∧ Below w.heap.size w w' := by
 have hu59 := Try.underlying59; have hu90 := Try.underlying90; have HR0_1 := mk0 hr0_1; have HC0_1 := mk0 hc0_1; clear hr0_1 hc0_1; have HR0_3 := mk0 hr0_3; have HC0_3 := mk0 hc0_3; clear hr0_3 hc0_3; have HR1_1 := mk0 hr1_1; have HC1_1 := mk0 hc1_1; clear hr1_1 hc1_1; have HR1_3 := mk0 hr1_3; have HC1_3 := mk0 hc1_3; clear hr1_3 hc1_3; have HB := mk0 (Below.refl w.heap.size w); have H : (if a0_0.toList = a1_0.toList then (if a0_2.toList = a1_2.toList then (if (l0_1.length : Int) = (l1_1.length : Int) then (agateref10_Nodes.j0 k ((l0_3.length : Int) != (l1_3.length : Int)) a0_0 l0_1 a0_2 l0_3 a1_0 l1_1 a1_2 l1_3) else (agateref10_Nodes.j0 k true a0_0 l0_1 a0_2 l0_3 a1_0 l1_1 a1_2 l1_3)) else (agateref10_Nodes.j0 k true a0_0 l0_1 a0_2 l0_3 a1_0 l1_1 a1_2 l1_3)) else (agateref10_Nodes.j0 k true a0_0 l0_1 a0_2 l0_3 a1_0 l1_1 a1_2 l1_3)) = some r := h; clear h; have HC3 := mk0 H; clear H
 go_enter Try.func24, Try.ntmps24
 go_upto_region 1 with (first | ((with_reducible refine gate_dst (N := 2) rfl ?_); (try (refine gate_guard (by rfl) ?_; dsimp only)); refine boxE (N := 2) (cs := #[.string a0_0, .slice A0_1 l0_1.length c0_1, .string a0_2, .slice A0_3 l0_3.length c0_3]) (t := 59) ?_; intro gb101 hg w4 hbox hb; have BK101 := mk0 hbox; have GW101 := gwS HB hg; have GE101 := gwS HB hg; replace HB := hbS HB hb; clear hb hbox hg) | ((with_reducible refine gate_dst (N := 3) rfl ?_); (try (refine gate_guard (by rfl) ?_; dsimp only)); refine boxE (N := 3) (cs := #[.string a1_0, .slice A1_1 l1_1.length c1_1, .string a1_2, .slice A1_3 l1_3.length c1_3]) (t := 59) ?_; intro gb102 hg w5 hbox hb; have BK102 := mk0 hbox; have GW102 := gwS HB hg; have GE102 := gwS HB hg; replace HB := hbS HB hb; have NB101_102 := neS BK101 hg; have NB102_101 := neT BK101 hg; replace BK101 := bkS BK101 hb; clear hb hbox hg))
 (try simp only [Act.put, List.setIfInBounds_toArray, List.set_cons_zero, List.set_cons_succ])
 go_cut [36] (fun v36 wc => ∃ (kq : Nat) (x36_2 : Bool), v36 = .bool x36_2 ∧ Aside0 (agateref10_Nodes.j0 kq x36_2 a0_0 l0_1 a0_2 l0_3 a1_0 l1_1 a1_2 l1_3 = some r) ∧ Aside0 (kq ≤ k) ∧ Aside0 (wc.heap[gb101]? = some (.cells #[.string a0_0, (.slice A0_1 l0_1.length c0_1), .string a0_2, (.slice A0_3 l0_3.length c0_3)] 59 (0, 0))) ∧ Aside0 (wc.heap[gb102]? = some (.cells #[.string a1_0, (.slice A1_1 l1_1.length c1_1), .string a1_2, (.slice A1_3 l1_3.length c1_3)] 59 (0, 0))) ∧ Aside0 (Below w.heap.size w wc))
 case first =>
  have H := HC3.out; clear HC3
  by_cases c6 : a0_0.toList = a1_0.toList
  ·
   rw [if_pos c6] at H; have c6b0 := beq_iff_eq.mpr c6; have c6b1 := bne_eq_false_iff_eq.mpr c6; clear c6
   (first | rw [c6b0] | (simp only [i64_w, i32_w]; rw [c6b0]) | skip)
   by_cases c7 : a0_2.toList = a1_2.toList
   ·
    rw [if_pos c7] at H; have c7b0 := beq_iff_eq.mpr c7; have c7b1 := bne_eq_false_iff_eq.mpr c7; clear c7
    by_cases c8 : (l0_1.length : Int) = (l1_1.length : Int)
    ·
     rw [if_pos c8] at H; have c8b0 := beq_iff_eq.mpr c8; have c8b1 := bne_eq_false_iff_eq.mpr c8; have c8b2 : (l0_1.length == l1_1.length) = true := by first | simpa using c8 | (simp at c8 ⊢; omega)
     clear c8; have H' := mk0 H; clear H; have hnb9 := NB101_102.out; have hnc9 := NB102_101.out; obtain ⟨hcz10_0, hcz10_1, hcz10_2, hcz10_3⟩ := cz4 BK101; obtain ⟨hcz11_0, hcz11_1, hcz11_2, hcz11_3⟩ := cz4 BK102
     go_wp2
     go_meet
     case rel => exact ⟨_, (((l0_3.length : Int) != (l1_3.length : Int))), cl0, H', cl1, ⟨bkA BK101⟩, ⟨bkA BK102⟩, ⟨hbA HB⟩⟩
    ·
     rw [if_neg c8] at H; have c8b0 := beq_eq_false_iff_ne.mpr c8; have c8b1 := bne_iff_ne.mpr c8; have c8b2 : (l0_1.length == l1_1.length) = false := by first | simpa using c8 | (simp at c8 ⊢; omega)
     have H' := mk0 H; clear H; have hnb12 := NB101_102.out; have hnc12 := NB102_101.out; obtain ⟨hcz13_0, hcz13_1, hcz13_2, hcz13_3⟩ := cz4 BK101; obtain ⟨hcz14_0, hcz14_1, hcz14_2, hcz14_3⟩ := cz4 BK102
     go_wp2
     go_meet
     case rel => exact ⟨_, (true), cl0, H', cl1, ⟨bkA BK101⟩, ⟨bkA BK102⟩, ⟨hbA HB⟩⟩
   ·
    rw [if_neg c7] at H; have c7b0 := beq_eq_false_iff_ne.mpr c7; have c7b1 := bne_iff_ne.mpr c7; have H' := mk0 H; clear H; have hnb15 := NB101_102.out; have hnc15 := NB102_101.out; obtain ⟨hcz16_0, hcz16_1, hcz16_2, hcz16_3⟩ := cz4 BK101; obtain ⟨hcz17_0, hcz17_1, hcz17_2, hcz17_3⟩ := cz4 BK102
    go_wp2
    go_meet
    case rel => exact ⟨_, (true), cl0, H', cl1, ⟨bkA BK101⟩, ⟨bkA BK102⟩, ⟨hbA HB⟩⟩
  ·
   rw [if_neg c6] at H; have c6b0 := beq_eq_false_iff_ne.mpr c6; have c6b1 := bne_iff_ne.mpr c6
   (first | rw [c6b0] | (simp only [i64_w, i32_w]; rw [c6b0]) | skip)
   have H' := mk0 H; clear H; have hnb18 := NB101_102.out; have hnc18 := NB102_101.out; obtain ⟨hcz19_0, hcz19_1, hcz19_2, hcz19_3⟩ := cz4 BK101; obtain ⟨hcz20_0, hcz20_1, hcz20_2, hcz20_3⟩ := cz4 BK102
   go_wp2
   go_meet
   case rel => exact ⟨_, (true), cl0, H', cl1, ⟨bkA BK101⟩, ⟨bkA BK102⟩, ⟨hbA HB⟩⟩
 case rest =>
  clear HC3; obtain ⟨kq, x36_2, rfl, HA, HJ2, BK101, BK102, HB⟩ := hcut
  cases kq with
  | zero => exact absurd HA.out (by simp [agateref10_Nodes.j0])
  | succ kj2 =>
   have H := HA.out; clear HA
   simp only [agateref10_Nodes.j0] at H
   by_cases c21 : x36_2 = true
   ·
    subst c21; have H1 : (some false) = some r := by rw [if_pos rfl] at H; exact H
    clear H; have H := H1; clear H1; obtain rfl := Option.some.inj H
    go_wp2
    go_ret
    exact ⟨cl3, hbA HB⟩
   ·
    replace c21 := Bool.eq_false_iff.mpr c21; subst c21; have H1 : (agateref10_Nodes.l0 kj2 0 a0_0 l0_1 a0_2 l0_3 a1_0 l1_1 a1_2 l1_3) = some r := by rw [if_neg (show ¬ (false = true) by decide)] at H; exact H
    clear H; have H := H1; clear H1; have H' := mk0 H; clear H
    go_wp2
    go_loopg [5] kj2 (fun kq v5 w' => ∃ (x5_2 : Int), v5 = .int .i64 x5_2 ∧ Aside0 (agateref10_Nodes.l0 kq x5_2 a0_0 l0_1 a0_2 l0_3 a1_0 l1_1 a1_2 l1_3 = some r) ∧ Aside0 (kq ≤ kj2) ∧ Aside0 (w'.heap[gb101]? = some (.cells #[.string a0_0, (.slice A0_1 l0_1.length c0_1), .string a0_2, (.slice A0_3 l0_3.length c0_3)] 59 (0, 0))) ∧ Aside0 (w'.heap[gb102]? = some (.cells #[.string a1_0, (.slice A1_1 l1_1.length c1_1), .string a1_2, (.slice A1_3 l1_3.length c1_3)] 59 (0, 0))) ∧ Aside0 (Below w.heap.size w w'))
    case atStart => exact ⟨(0), cl0, H', ⟨Nat.le_refl _⟩, ⟨bkA BK101⟩, ⟨bkA BK102⟩, ⟨hbA HB⟩⟩
    case round =>
     clear H'; obtain ⟨x5_2, rfl, HA, HK2, BK101, BK102, HB⟩ := hrel
     cases gk with
     | zero => exact absurd HA.out (by simp [agateref10_Nodes.l0])
     | succ k2 =>
      have H := HA.out; clear HA
      simp only [agateref10_Nodes.l0] at H
      by_cases c22 : x5_2 < (l0_1.length : Int)
      ·
       rw [if_pos c22] at H; have c22b0 := decide_eq_true c22; clear c22; replace H := ifS H; obtain ⟨c23, H⟩ := H; have c23b0 := decide_eq_true c23; clear c23; replace H := ifS H; obtain ⟨c24, H⟩ := H; have c24b0 := decide_eq_true c24; clear c24
       by_cases c25 : (rdOf ByteArray.empty l0_1 x5_2).toList = (rdOf ByteArray.empty l1_1 x5_2).toList
       ·
        rw [if_pos c25] at H; have c25b0 := beq_iff_eq.mpr c25; have c25b1 := bne_eq_false_iff_eq.mpr c25; clear c25; have H' := mk0 H; clear H; have hnb26 := NB101_102.out; have hnc26 := NB102_101.out; obtain ⟨hcz27_0, hcz27_1, hcz27_2, hcz27_3⟩ := cz4 BK101
        try go_wp2
        replace BK101 := mk0 (blk_drew BK101.out); replace BK102 := mk0 (blk_drew BK102.out); replace HB := mk0 (below_drew1 HB.out); have p103 : 0 ≤ (x5_2 : Int) := ofd; have q103 : x5_2 < (l0_1.length : Int) := ofd; obtain ⟨ad103, e103, hx103_0⟩ := Kd.at_string HR0_1.out x5_2 p103 q103; have hw103_0 := hx103_0; cases e103; replace hx103_0 := hbc HB hx103_0; replace p103 := eq_true p103; replace q103 := eq_true q103; have p104 : 0 ≤ (x5_2 : Int) := ofd; have q104 : x5_2 < (l1_1.length : Int) := ofd; obtain ⟨ad104, e104, hx104_0⟩ := Kd.at_string HR1_1.out x5_2 p104 q104; have hw104_0 := hx104_0; cases e104; replace hx104_0 := hbc HB hx104_0; replace p104 := eq_true p104; replace q104 := eq_true q104
        refine start_ (n := 11) (S := fun w' => w'.cell? ⟨gb101, 0, none⟩ = some (.string a0_0) ∧ w'.cell? ⟨gb101, 1, none⟩ = some (.slice (some ad103) l0_1.length c0_1) ∧ w'.cell? ⟨gb101, 2, none⟩ = some (.string a0_2) ∧ w'.cell? ⟨gb101, 3, none⟩ = some (.slice A0_3 l0_3.length c0_3) ∧ w'.cell? ⟨gb102, 0, none⟩ = some (.string a1_0) ∧ w'.cell? ⟨gb102, 1, none⟩ = some (.slice (some ad104) l1_1.length c1_1) ∧ w'.cell? ⟨gb102, 2, none⟩ = some (.string a1_2) ∧ w'.cell? ⟨gb102, 3, none⟩ = some (.slice A1_3 l1_3.length c1_3) ∧ w'.cell? (ad103.add (x5_2).toNat) = some (.string (rdOf ByteArray.empty l0_1 x5_2)) ∧ w'.cell? (ad104.add (x5_2).toNat) = some (.string (rdOf ByteArray.empty l1_1 x5_2))) (ds := []) (bA 11 0) (by kernel_rfl) rfl rfl ⟨bcA BK101 0, bcA BK101 1, bcA BK101 2, bcA BK101 3, bcA BK102 0, bcA BK102 1, bcA BK102 2, bcA BK102 3, ((HB.out.cell (World.block_lt_of_cell? w _ hw103_0)).trans hw103_0), ((HB.out.cell (World.block_lt_of_cell? w _ hw104_0)).trans hw104_0)⟩ (fun hHeld => ?_); refine with_tabW agateref10_Nodes.tab6 agateref10_Nodes.bits6 (fun HT_ HW_ => ?_)
        generalize wr.drew = w28 at BK101 BK102 HB hx103_0 hx104_0 hHeld ⊢
        refine puE (i := 0) (N := some 44) (bA 11 1) HT_ ?_
        refine puE (i := 2) (N := some 46) (bA 11 5) HT_ ?_
        refine puE (i := 5) (N := some 49) (bA 11 37) HT_ ?_
        refine puE (i := 7) (N := some 51) (bA 11 165) HT_ ?_
        refine taE (i := 1) (N := some 45) (bA 11 167) HT_ HW_ hHeld ?_
        refine puE (i := 3) (N := some 47) (bA 11 175) HT_ ?_
        refine taE (i := 4) (N := some 48) (bA 11 191) HT_ HW_ hHeld ?_
        refine taE (i := 6) (N := some 50) (bA 11 255) HT_ HW_ hHeld ?_
        refine puE (i := 8) (N := some 52) (bA 11 511) HT_ ?_
        refine taE (i := 9) (N := some 53) (bA 11 1023) HT_ HW_ hHeld ?_
        refine puE (i := 10) (N := some 54) (bA 11 2047) HT_ ?_
        refine done_ (done_of HT_.out (by kernel_rfl)) ?_
        try go_wp2
        go_roundg k2
        case measure => have := HJ2.out; have := HK2.out; omega
        case rel => exact ⟨(wrap64 (x5_2 + 1)), cl0, H', ⟨by have := HJ2.out; have := HK2.out; omega⟩, ⟨bkA BK101⟩, ⟨bkA BK102⟩, ⟨hbA HB⟩⟩
       ·
        rw [if_neg c25] at H; have c25b0 := beq_eq_false_iff_ne.mpr c25; have c25b1 := bne_iff_ne.mpr c25; obtain rfl := Option.some.inj H; have hnb29 := NB101_102.out; have hnc29 := NB102_101.out; obtain ⟨hcz30_0, hcz30_1, hcz30_2, hcz30_3⟩ := cz4 BK101
        try go_wp2
        replace BK101 := mk0 (blk_drew BK101.out); replace BK102 := mk0 (blk_drew BK102.out); replace HB := mk0 (below_drew1 HB.out); have p103 : 0 ≤ (x5_2 : Int) := ofd; have q103 : x5_2 < (l0_1.length : Int) := ofd; obtain ⟨ad103, e103, hx103_0⟩ := Kd.at_string HR0_1.out x5_2 p103 q103; have hw103_0 := hx103_0; cases e103; replace hx103_0 := hbc HB hx103_0; replace p103 := eq_true p103; replace q103 := eq_true q103; have p104 : 0 ≤ (x5_2 : Int) := ofd; have q104 : x5_2 < (l1_1.length : Int) := ofd; obtain ⟨ad104, e104, hx104_0⟩ := Kd.at_string HR1_1.out x5_2 p104 q104; have hw104_0 := hx104_0; cases e104; replace hx104_0 := hbc HB hx104_0; replace p104 := eq_true p104; replace q104 := eq_true q104
        refine start_ (n := 11) (S := fun w' => w'.cell? ⟨gb101, 0, none⟩ = some (.string a0_0) ∧ w'.cell? ⟨gb101, 1, none⟩ = some (.slice (some ad103) l0_1.length c0_1) ∧ w'.cell? ⟨gb101, 2, none⟩ = some (.string a0_2) ∧ w'.cell? ⟨gb101, 3, none⟩ = some (.slice A0_3 l0_3.length c0_3) ∧ w'.cell? ⟨gb102, 0, none⟩ = some (.string a1_0) ∧ w'.cell? ⟨gb102, 1, none⟩ = some (.slice (some ad104) l1_1.length c1_1) ∧ w'.cell? ⟨gb102, 2, none⟩ = some (.string a1_2) ∧ w'.cell? ⟨gb102, 3, none⟩ = some (.slice A1_3 l1_3.length c1_3) ∧ w'.cell? (ad103.add (x5_2).toNat) = some (.string (rdOf ByteArray.empty l0_1 x5_2)) ∧ w'.cell? (ad104.add (x5_2).toNat) = some (.string (rdOf ByteArray.empty l1_1 x5_2))) (ds := []) (bA 11 0) (by kernel_rfl) rfl rfl ⟨bcA BK101 0, bcA BK101 1, bcA BK101 2, bcA BK101 3, bcA BK102 0, bcA BK102 1, bcA BK102 2, bcA BK102 3, ((HB.out.cell (World.block_lt_of_cell? w _ hw103_0)).trans hw103_0), ((HB.out.cell (World.block_lt_of_cell? w _ hw104_0)).trans hw104_0)⟩ (fun hHeld => ?_); refine with_tabW agateref10_Nodes.tab6 agateref10_Nodes.bits6 (fun HT_ HW_ => ?_)
        generalize wr.drew = w31 at BK101 BK102 HB hx103_0 hx104_0 hHeld ⊢
        refine puE (i := 0) (N := some 44) (bA 11 1) HT_ ?_
        refine puE (i := 2) (N := some 46) (bA 11 5) HT_ ?_
        refine puE (i := 5) (N := some 49) (bA 11 37) HT_ ?_
        refine puE (i := 7) (N := some 51) (bA 11 165) HT_ ?_
        refine taE (i := 1) (N := some 45) (bA 11 167) HT_ HW_ hHeld ?_
        refine puE (i := 3) (N := some 47) (bA 11 175) HT_ ?_
        refine taE (i := 4) (N := some 48) (bA 11 191) HT_ HW_ hHeld ?_
        refine taE (i := 6) (N := some 50) (bA 11 255) HT_ HW_ hHeld ?_
        refine puE (i := 8) (N := some 52) (bA 11 511) HT_ ?_
        refine taE (i := 9) (N := some 53) (bA 11 1023) HT_ HW_ hHeld ?_
        refine puE (i := 10) (N := some 54) (bA 11 2047) HT_ ?_
        refine done_ (done_of HT_.out (by kernel_rfl)) ?_
        try go_wp2
        go_ret
        exact ⟨cl3, hbA HB⟩
      ·
       rw [if_neg c22] at H; have c22b0 := decide_eq_false c22; clear c22; have H' := mk0 H; clear H; have hnb32 := NB101_102.out; have hnc32 := NB102_101.out; obtain ⟨hcz33_0, hcz33_1, hcz33_2, hcz33_3⟩ := cz4 BK101
       go_wp2
       go_loopg [6] k2 (fun kq v6 w' => ∃ (x6_3 : Int), v6 = .int .i64 x6_3 ∧ Aside0 (agateref10_Nodes.l1 kq x6_3 a0_0 l0_1 a0_2 l0_3 a1_0 l1_1 a1_2 l1_3 = some r) ∧ Aside0 (kq ≤ k2) ∧ Aside0 (w'.heap[gb101]? = some (.cells #[.string a0_0, (.slice A0_1 l0_1.length c0_1), .string a0_2, (.slice A0_3 l0_3.length c0_3)] 59 (0, 0))) ∧ Aside0 (w'.heap[gb102]? = some (.cells #[.string a1_0, (.slice A1_1 l1_1.length c1_1), .string a1_2, (.slice A1_3 l1_3.length c1_3)] 59 (0, 0))) ∧ Aside0 (Below w.heap.size w w'))
       case atStart => exact ⟨(0), cl0, H', ⟨Nat.le_refl _⟩, ⟨bkA BK101⟩, ⟨bkA BK102⟩, ⟨hbA HB⟩⟩
       case round =>
        clear H'; obtain ⟨x6_3, rfl, HA, HK3, BK101, BK102, HB⟩ := hrel
        cases gk with
        | zero => exact absurd HA.out (by simp [agateref10_Nodes.l1])
        | succ k3 =>
         have H := HA.out; clear HA
         simp only [agateref10_Nodes.l1] at H
         by_cases c34 : x6_3 < (l0_3.length : Int)
         ·
          rw [if_pos c34] at H; have c34b0 := decide_eq_true c34; clear c34; replace H := ifS H; obtain ⟨c35, H⟩ := H; have c35b0 := decide_eq_true c35; clear c35; replace H := ifS H; obtain ⟨c36, H⟩ := H; have c36b0 := decide_eq_true c36; clear c36; replace H := bnd H; obtain ⟨t107, A37, H⟩ := H
          by_cases c38 : t107 = true
          ·
           subst c38; have H1 : (agateref10_Nodes.l1 k3 (wrap64 (x6_3 + 1)) a0_0 l0_1 a0_2 l0_3 a1_0 l1_1 a1_2 l1_3) = some r := by rw [if_pos rfl] at H; exact H
           clear H; have H := H1; clear H1; have H' := mk0 H; clear H; have hnb39 := NB101_102.out; have hnc39 := NB102_101.out; obtain ⟨hcz40_0, hcz40_1, hcz40_2, hcz40_3⟩ := cz4 BK101
           try go_wp2
           replace BK101 := mk0 (blk_drew BK101.out); replace BK102 := mk0 (blk_drew BK102.out); replace HB := mk0 (below_drew1 HB.out); have p105 : 0 ≤ (x6_3 : Int) := ofd; have q105 : x6_3 < (l0_3.length : Int) := ofd; obtain ⟨ad105, A105_3, c105_3, e105, hx105_0, hx105_1, hx105_2, hx105_3, hl105_3, hi105_3⟩ := at_T90 HR0_3.out x6_3 p105 q105; have hw105_3 := hx105_3; have hw105_2 := hx105_2; have hw105_1 := hx105_1; have hw105_0 := hx105_0; cases e105; replace hx105_0 := hbc HB hx105_0; replace hx105_1 := hbc HB hx105_1; replace hx105_2 := hbc HB hx105_2; replace hx105_3 := hbc HB hx105_3; have HR105_3 := mk0 hi105_3; have HC105_3 := mk0 hl105_3; clear hi105_3 hl105_3; replace p105 := eq_true p105; replace q105 := eq_true q105; have p106 : 0 ≤ (x6_3 : Int) := ofd; have q106 : x6_3 < (l1_3.length : Int) := ofd; obtain ⟨ad106, A106_3, c106_3, e106, hx106_0, hx106_1, hx106_2, hx106_3, hl106_3, hi106_3⟩ := at_T90 HR1_3.out x6_3 p106 q106; have hw106_3 := hx106_3; have hw106_2 := hx106_2; have hw106_1 := hx106_1; have hw106_0 := hx106_0; cases e106; replace hx106_0 := hbc HB hx106_0; replace hx106_1 := hbc HB hx106_1; replace hx106_2 := hbc HB hx106_2; replace hx106_3 := hbc HB hx106_3; have HR106_3 := mk0 hi106_3; have HC106_3 := mk0 hl106_3; clear hi106_3 hl106_3; replace p106 := eq_true p106; replace q106 := eq_true q106
           refine start_ (n := 12) (S := fun w' => w'.cell? ⟨gb101, 0, none⟩ = some (.string a0_0) ∧ w'.cell? ⟨gb101, 1, none⟩ = some (.slice A0_1 l0_1.length c0_1) ∧ w'.cell? ⟨gb101, 2, none⟩ = some (.string a0_2) ∧ w'.cell? ⟨gb101, 3, none⟩ = some (.slice (some ad105) l0_3.length c0_3) ∧ w'.cell? ⟨gb102, 0, none⟩ = some (.string a1_0) ∧ w'.cell? ⟨gb102, 1, none⟩ = some (.slice A1_1 l1_1.length c1_1) ∧ w'.cell? ⟨gb102, 2, none⟩ = some (.string a1_2) ∧ w'.cell? ⟨gb102, 3, none⟩ = some (.slice (some ad106) l1_3.length c1_3) ∧ w'.cell? (ad105.add ((x6_3).toNat * 4)) = some (.string ((rd_T90 l0_3 x6_3).f0)) ∧ w'.cell? ⟨(ad105.add ((x6_3).toNat * 4)).block, (ad105.add ((x6_3).toNat * 4)).off + 1, none⟩ = some (.bool ((rd_T90 l0_3 x6_3).f1)) ∧ w'.cell? ⟨(ad105.add ((x6_3).toNat * 4)).block, (ad105.add ((x6_3).toNat * 4)).off + 2, none⟩ = some (.int .i64 ((rd_T90 l0_3 x6_3).f2)) ∧ w'.cell? ⟨(ad105.add ((x6_3).toNat * 4)).block, (ad105.add ((x6_3).toNat * 4)).off + 3, none⟩ = some (.slice A105_3 ((rd_T90 l0_3 x6_3).f3).length c105_3) ∧ w'.cell? (ad106.add ((x6_3).toNat * 4)) = some (.string ((rd_T90 l1_3 x6_3).f0)) ∧ w'.cell? ⟨(ad106.add ((x6_3).toNat * 4)).block, (ad106.add ((x6_3).toNat * 4)).off + 1, none⟩ = some (.bool ((rd_T90 l1_3 x6_3).f1)) ∧ w'.cell? ⟨(ad106.add ((x6_3).toNat * 4)).block, (ad106.add ((x6_3).toNat * 4)).off + 2, none⟩ = some (.int .i64 ((rd_T90 l1_3 x6_3).f2)) ∧ w'.cell? ⟨(ad106.add ((x6_3).toNat * 4)).block, (ad106.add ((x6_3).toNat * 4)).off + 3, none⟩ = some (.slice A106_3 ((rd_T90 l1_3 x6_3).f3).length c106_3)) (ds := []) (bA 12 0) (by kernel_rfl) rfl rfl ⟨bcA BK101 0, bcA BK101 1, bcA BK101 2, bcA BK101 3, bcA BK102 0, bcA BK102 1, bcA BK102 2, bcA BK102 3, ((HB.out.cell (World.block_lt_of_cell? w _ hw105_0)).trans hw105_0), ((HB.out.cell (World.block_lt_of_cell? w _ hw105_1)).trans hw105_1), ((HB.out.cell (World.block_lt_of_cell? w _ hw105_2)).trans hw105_2), ((HB.out.cell (World.block_lt_of_cell? w _ hw105_3)).trans hw105_3), ((HB.out.cell (World.block_lt_of_cell? w _ hw106_0)).trans hw106_0), ((HB.out.cell (World.block_lt_of_cell? w _ hw106_1)).trans hw106_1), ((HB.out.cell (World.block_lt_of_cell? w _ hw106_2)).trans hw106_2), ((HB.out.cell (World.block_lt_of_cell? w _ hw106_3)).trans hw106_3)⟩ (fun hHeld => ?_); refine with_tabW agateref10_Nodes.tab11 agateref10_Nodes.bits11 (fun HT_ HW_ => ?_)
           generalize wr.drew = w41 at BK101 BK102 HB HR105_3 HR106_3 hx105_0 hx105_1 hx105_2 hx105_3 hx106_0 hx106_1 hx106_2 hx106_3 hHeld ⊢
           refine puE (i := 0) (N := some 62) (bA 12 1) HT_ ?_
           refine puE (i := 2) (N := some 64) (bA 12 5) HT_ ?_
           refine puE (i := 5) (N := some 67) (bA 12 37) HT_ ?_
           refine puE (i := 7) (N := some 69) (bA 12 165) HT_ ?_
           refine taE (i := 1) (N := some 63) (bA 12 167) HT_ HW_ hHeld ?_
           refine puE (i := 3) (N := some 65) (bA 12 175) HT_ ?_
           refine taE (i := 4) (N := some 66) (bA 12 191) HT_ HW_ hHeld ?_
           refine taE (i := 6) (N := some 68) (bA 12 255) HT_ HW_ hHeld ?_
           refine puE (i := 8) (N := some 70) (bA 12 511) HT_ ?_
           refine taE (i := 9) (N := some 71) (bA 12 1023) HT_ HW_ hHeld ?_
           refine one_ (i := 10) (N := some 72) (bA 12 2047) rfl rfl (one_of HT_.out (by kernel_rfl)) (by decide) (fun K hK => ?_)
           refine goE Try.func46 (by kernel_rfl) rfl #[.agg #[.string ((rd_T90 l0_3 x6_3).f0), .bool ((rd_T90 l0_3 x6_3).f1), .int .i64 ((rd_T90 l0_3 x6_3).f2), .slice A105_3 ((rd_T90 l0_3 x6_3).f3).length c105_3], .agg #[.string ((rd_T90 l1_3 x6_3).f0), .bool ((rd_T90 l1_3 x6_3).f1), .int .i64 ((rd_T90 l1_3 x6_3).f2), .slice A106_3 ((rd_T90 l1_3 x6_3).f3).length c106_3]] (by rfl) rfl rfl ?_
           with_reducible refine (agateref10_Attrs.calls k3 ((rd_T90 l0_3 x6_3).f0) ((rd_T90 l0_3 x6_3).f1) ((rd_T90 l0_3 x6_3).f2) _ _ ((rd_T90 l0_3 x6_3).f3) ((rd_T90 l1_3 x6_3).f0) ((rd_T90 l1_3 x6_3).f1) ((rd_T90 l1_3 x6_3).f2) _ _ ((rd_T90 l1_3 x6_3).f3) true _ ?side1 ?side2 ?side3 ?side4 A37.out).mono ?_
           (case side1 => repeat (first | exact (Kd.C_below HR105_3.out HB.out) | (with_reducible refine Kd.C_alloc ?_ _) | (with_reducible refine Kd.C_drewN ?_ _) | (with_reducible refine Kd.C_drew ?_)))
           (case side2 => exact HC105_3.out)
           (case side3 => repeat (first | exact (Kd.C_below HR106_3.out HB.out) | (with_reducible refine Kd.C_alloc ?_ _) | (with_reducible refine Kd.C_drewN ?_ _) | (with_reducible refine Kd.C_drew ?_)))
           (case side4 => exact HC106_3.out)
           rintro e w42 ⟨rfl, hb⟩
           refine ⟨_, rfl, ?_⟩
           replace BK101 := bkS BK101 hb; replace BK102 := bkS BK102 hb; replace HB := hbS HB hb; try clear hb
           refine hK.out _ _ ⟨bcA BK101 0, bcA BK101 1, bcA BK101 2, bcA BK101 3, bcA BK102 0, bcA BK102 1, bcA BK102 2, bcA BK102 3, ((HB.out.cell (World.block_lt_of_cell? w _ hw105_0)).trans hw105_0), ((HB.out.cell (World.block_lt_of_cell? w _ hw105_1)).trans hw105_1), ((HB.out.cell (World.block_lt_of_cell? w _ hw105_2)).trans hw105_2), ((HB.out.cell (World.block_lt_of_cell? w _ hw105_3)).trans hw105_3), ((HB.out.cell (World.block_lt_of_cell? w _ hw106_0)).trans hw106_0), ((HB.out.cell (World.block_lt_of_cell? w _ hw106_1)).trans hw106_1), ((HB.out.cell (World.block_lt_of_cell? w _ hw106_2)).trans hw106_2), ((HB.out.cell (World.block_lt_of_cell? w _ hw106_3)).trans hw106_3)⟩ (fun hHeld => ?_)
           clear hK K
           refine noE 72 ?_
           refine puE (i := 11) (N := some 73) (bA 12 4095) HT_ ?_
           refine done_ (done_of HT_.out (by kernel_rfl)) ?_
           try go_wp2
           go_roundg k3
           case measure => have := HJ2.out; have := HK2.out; have := HK3.out; omega
           case rel => exact ⟨(wrap64 (x6_3 + 1)), cl0, H', ⟨by have := HJ2.out; have := HK2.out; have := HK3.out; omega⟩, ⟨bkA BK101⟩, ⟨bkA BK102⟩, ⟨hbA HB⟩⟩
          ·
           replace c38 := Bool.eq_false_iff.mpr c38; subst c38; have H1 : (some false) = some r := by rw [if_neg (show ¬ (false = true) by decide)] at H; exact H
           clear H; have H := H1; clear H1; obtain rfl := Option.some.inj H; have hnb43 := NB101_102.out; have hnc43 := NB102_101.out; obtain ⟨hcz44_0, hcz44_1, hcz44_2, hcz44_3⟩ := cz4 BK101
           try go_wp2
           replace BK101 := mk0 (blk_drew BK101.out); replace BK102 := mk0 (blk_drew BK102.out); replace HB := mk0 (below_drew1 HB.out); have p105 : 0 ≤ (x6_3 : Int) := ofd; have q105 : x6_3 < (l0_3.length : Int) := ofd; obtain ⟨ad105, A105_3, c105_3, e105, hx105_0, hx105_1, hx105_2, hx105_3, hl105_3, hi105_3⟩ := at_T90 HR0_3.out x6_3 p105 q105; have hw105_3 := hx105_3; have hw105_2 := hx105_2; have hw105_1 := hx105_1; have hw105_0 := hx105_0; cases e105; replace hx105_0 := hbc HB hx105_0; replace hx105_1 := hbc HB hx105_1; replace hx105_2 := hbc HB hx105_2; replace hx105_3 := hbc HB hx105_3; have HR105_3 := mk0 hi105_3; have HC105_3 := mk0 hl105_3; clear hi105_3 hl105_3; replace p105 := eq_true p105; replace q105 := eq_true q105; have p106 : 0 ≤ (x6_3 : Int) := ofd; have q106 : x6_3 < (l1_3.length : Int) := ofd; obtain ⟨ad106, A106_3, c106_3, e106, hx106_0, hx106_1, hx106_2, hx106_3, hl106_3, hi106_3⟩ := at_T90 HR1_3.out x6_3 p106 q106; have hw106_3 := hx106_3; have hw106_2 := hx106_2; have hw106_1 := hx106_1; have hw106_0 := hx106_0; cases e106; replace hx106_0 := hbc HB hx106_0; replace hx106_1 := hbc HB hx106_1; replace hx106_2 := hbc HB hx106_2; replace hx106_3 := hbc HB hx106_3; have HR106_3 := mk0 hi106_3; have HC106_3 := mk0 hl106_3; clear hi106_3 hl106_3; replace p106 := eq_true p106; replace q106 := eq_true q106
           refine start_ (n := 12) (S := fun w' => w'.cell? ⟨gb101, 0, none⟩ = some (.string a0_0) ∧ w'.cell? ⟨gb101, 1, none⟩ = some (.slice A0_1 l0_1.length c0_1) ∧ w'.cell? ⟨gb101, 2, none⟩ = some (.string a0_2) ∧ w'.cell? ⟨gb101, 3, none⟩ = some (.slice (some ad105) l0_3.length c0_3) ∧ w'.cell? ⟨gb102, 0, none⟩ = some (.string a1_0) ∧ w'.cell? ⟨gb102, 1, none⟩ = some (.slice A1_1 l1_1.length c1_1) ∧ w'.cell? ⟨gb102, 2, none⟩ = some (.string a1_2) ∧ w'.cell? ⟨gb102, 3, none⟩ = some (.slice (some ad106) l1_3.length c1_3) ∧ w'.cell? (ad105.add ((x6_3).toNat * 4)) = some (.string ((rd_T90 l0_3 x6_3).f0)) ∧ w'.cell? ⟨(ad105.add ((x6_3).toNat * 4)).block, (ad105.add ((x6_3).toNat * 4)).off + 1, none⟩ = some (.bool ((rd_T90 l0_3 x6_3).f1)) ∧ w'.cell? ⟨(ad105.add ((x6_3).toNat * 4)).block, (ad105.add ((x6_3).toNat * 4)).off + 2, none⟩ = some (.int .i64 ((rd_T90 l0_3 x6_3).f2)) ∧ w'.cell? ⟨(ad105.add ((x6_3).toNat * 4)).block, (ad105.add ((x6_3).toNat * 4)).off + 3, none⟩ = some (.slice A105_3 ((rd_T90 l0_3 x6_3).f3).length c105_3) ∧ w'.cell? (ad106.add ((x6_3).toNat * 4)) = some (.string ((rd_T90 l1_3 x6_3).f0)) ∧ w'.cell? ⟨(ad106.add ((x6_3).toNat * 4)).block, (ad106.add ((x6_3).toNat * 4)).off + 1, none⟩ = some (.bool ((rd_T90 l1_3 x6_3).f1)) ∧ w'.cell? ⟨(ad106.add ((x6_3).toNat * 4)).block, (ad106.add ((x6_3).toNat * 4)).off + 2, none⟩ = some (.int .i64 ((rd_T90 l1_3 x6_3).f2)) ∧ w'.cell? ⟨(ad106.add ((x6_3).toNat * 4)).block, (ad106.add ((x6_3).toNat * 4)).off + 3, none⟩ = some (.slice A106_3 ((rd_T90 l1_3 x6_3).f3).length c106_3)) (ds := []) (bA 12 0) (by kernel_rfl) rfl rfl ⟨bcA BK101 0, bcA BK101 1, bcA BK101 2, bcA BK101 3, bcA BK102 0, bcA BK102 1, bcA BK102 2, bcA BK102 3, ((HB.out.cell (World.block_lt_of_cell? w _ hw105_0)).trans hw105_0), ((HB.out.cell (World.block_lt_of_cell? w _ hw105_1)).trans hw105_1), ((HB.out.cell (World.block_lt_of_cell? w _ hw105_2)).trans hw105_2), ((HB.out.cell (World.block_lt_of_cell? w _ hw105_3)).trans hw105_3), ((HB.out.cell (World.block_lt_of_cell? w _ hw106_0)).trans hw106_0), ((HB.out.cell (World.block_lt_of_cell? w _ hw106_1)).trans hw106_1), ((HB.out.cell (World.block_lt_of_cell? w _ hw106_2)).trans hw106_2), ((HB.out.cell (World.block_lt_of_cell? w _ hw106_3)).trans hw106_3)⟩ (fun hHeld => ?_); refine with_tabW agateref10_Nodes.tab11 agateref10_Nodes.bits11 (fun HT_ HW_ => ?_)
           generalize wr.drew = w45 at BK101 BK102 HB HR105_3 HR106_3 hx105_0 hx105_1 hx105_2 hx105_3 hx106_0 hx106_1 hx106_2 hx106_3 hHeld ⊢
           refine puE (i := 0) (N := some 62) (bA 12 1) HT_ ?_
           refine puE (i := 2) (N := some 64) (bA 12 5) HT_ ?_
           refine puE (i := 5) (N := some 67) (bA 12 37) HT_ ?_
           refine puE (i := 7) (N := some 69) (bA 12 165) HT_ ?_
           refine taE (i := 1) (N := some 63) (bA 12 167) HT_ HW_ hHeld ?_
           refine puE (i := 3) (N := some 65) (bA 12 175) HT_ ?_
           refine taE (i := 4) (N := some 66) (bA 12 191) HT_ HW_ hHeld ?_
           refine taE (i := 6) (N := some 68) (bA 12 255) HT_ HW_ hHeld ?_
           refine puE (i := 8) (N := some 70) (bA 12 511) HT_ ?_
           refine taE (i := 9) (N := some 71) (bA 12 1023) HT_ HW_ hHeld ?_
           refine one_ (i := 10) (N := some 72) (bA 12 2047) rfl rfl (one_of HT_.out (by kernel_rfl)) (by decide) (fun K hK => ?_)
           refine goE Try.func46 (by kernel_rfl) rfl #[.agg #[.string ((rd_T90 l0_3 x6_3).f0), .bool ((rd_T90 l0_3 x6_3).f1), .int .i64 ((rd_T90 l0_3 x6_3).f2), .slice A105_3 ((rd_T90 l0_3 x6_3).f3).length c105_3], .agg #[.string ((rd_T90 l1_3 x6_3).f0), .bool ((rd_T90 l1_3 x6_3).f1), .int .i64 ((rd_T90 l1_3 x6_3).f2), .slice A106_3 ((rd_T90 l1_3 x6_3).f3).length c106_3]] (by rfl) rfl rfl ?_
           with_reducible refine (agateref10_Attrs.calls k3 ((rd_T90 l0_3 x6_3).f0) ((rd_T90 l0_3 x6_3).f1) ((rd_T90 l0_3 x6_3).f2) _ _ ((rd_T90 l0_3 x6_3).f3) ((rd_T90 l1_3 x6_3).f0) ((rd_T90 l1_3 x6_3).f1) ((rd_T90 l1_3 x6_3).f2) _ _ ((rd_T90 l1_3 x6_3).f3) false _ ?side1 ?side2 ?side3 ?side4 A37.out).mono ?_
           (case side1 => repeat (first | exact (Kd.C_below HR105_3.out HB.out) | (with_reducible refine Kd.C_alloc ?_ _) | (with_reducible refine Kd.C_drewN ?_ _) | (with_reducible refine Kd.C_drew ?_)))
           (case side2 => exact HC105_3.out)
           (case side3 => repeat (first | exact (Kd.C_below HR106_3.out HB.out) | (with_reducible refine Kd.C_alloc ?_ _) | (with_reducible refine Kd.C_drewN ?_ _) | (with_reducible refine Kd.C_drew ?_)))
           (case side4 => exact HC106_3.out)
           rintro e w46 ⟨rfl, hb⟩
           refine ⟨_, rfl, ?_⟩
           replace BK101 := bkS BK101 hb; replace BK102 := bkS BK102 hb; replace HB := hbS HB hb; try clear hb
           refine hK.out _ _ ⟨bcA BK101 0, bcA BK101 1, bcA BK101 2, bcA BK101 3, bcA BK102 0, bcA BK102 1, bcA BK102 2, bcA BK102 3, ((HB.out.cell (World.block_lt_of_cell? w _ hw105_0)).trans hw105_0), ((HB.out.cell (World.block_lt_of_cell? w _ hw105_1)).trans hw105_1), ((HB.out.cell (World.block_lt_of_cell? w _ hw105_2)).trans hw105_2), ((HB.out.cell (World.block_lt_of_cell? w _ hw105_3)).trans hw105_3), ((HB.out.cell (World.block_lt_of_cell? w _ hw106_0)).trans hw106_0), ((HB.out.cell (World.block_lt_of_cell? w _ hw106_1)).trans hw106_1), ((HB.out.cell (World.block_lt_of_cell? w _ hw106_2)).trans hw106_2), ((HB.out.cell (World.block_lt_of_cell? w _ hw106_3)).trans hw106_3)⟩ (fun hHeld => ?_)
           clear hK K
           refine noE 72 ?_
           refine puE (i := 11) (N := some 73) (bA 12 4095) HT_ ?_
           refine done_ (done_of HT_.out (by kernel_rfl)) ?_
           try go_wp2
           go_ret
           exact ⟨cl3, hbA HB⟩
         ·
          rw [if_neg c34] at H; have c34b0 := decide_eq_false c34; clear c34; obtain rfl := Option.some.inj H; have hnb47 := NB101_102.out; have hnc47 := NB102_101.out; obtain ⟨hcz48_0, hcz48_1, hcz48_2, hcz48_3⟩ := cz4 BK101
          go_wp2
          go_ret
          exact ⟨cl3, hbA HB⟩
end Go.Proofs.Ytfejdnkmmjffcaa.X
namespace Go.Proofs.Ytfejdnkmmjffcaa.X
open Go.RowKit Go.Proofs.YtfejdnkmmjffcaaW.PrintWords Go.Proofs.YtfejdnkmmjffcaaW.PrintLast Go.Proofs.YtfejdnkmmjffcaaW.PrintMore
attribute [local go_sem] max2_int min2_int max_two min_two max_three min_three max_four min_four
set_option linter.unusedVariables false
set_option linter.unusedSimpArgs false
mutual
def agateref07_Same.j0 : Nat → Bool → ByteArray → Int → List Int → ByteArray → ByteArray → Int → List Int → ByteArray → Option (Bool)
 | 0, _, _, _, _, _, _, _, _, _ => none
 | k + 1, x33, x102000, x102001, x102002, x102003, x103000, x103001, x103002, x103003 => if x33 = true then (some false) else (agateref07_Same.l0 k 0 x102000 x102001 x102002 x102003 x103000 x103001 x103002 x103003)
def agateref07_Same.l0 : Nat → Int → ByteArray → Int → List Int → ByteArray → ByteArray → Int → List Int → ByteArray → Option (Bool)
 | 0, _, _, _, _, _, _, _, _, _ => none
 | k + 1, x5, x102000, x102001, x102002, x102003, x103000, x103001, x103002, x103003 => if x5 < (x102002.length : Int) then (if 0 ≤ x5 then (if x5 < (x103002.length : Int) then (if (rd x102002 x5) = (rd x103002 x5) then (agateref07_Same.l0 k (wrap64 (x5 + 1)) x102000 x102001 x102002 x102003 x103000 x103001 x103002 x103003) else (some false)) else (none)) else (none)) else (some true)
end
def agateref07_Same.f (k : Nat) (a0_0 : ByteArray) (a0_1 : Int) (l0_2 : List Int) (a0_3 : ByteArray) (a1_0 : ByteArray) (a1_1 : Int) (l1_2 : List Int) (a1_3 : ByteArray) : Option (Bool) := if a0_0.toList = a1_0.toList then (if a0_1 = a1_1 then (if a0_3.toList = a1_3.toList then (agateref07_Same.j0 k ((l0_2.length : Int) != (l1_2.length : Int)) a0_0 a0_1 l0_2 a0_3 a1_0 a1_1 l1_2 a1_3) else (agateref07_Same.j0 k true a0_0 a0_1 l0_2 a0_3 a1_0 a1_1 l1_2 a1_3)) else (agateref07_Same.j0 k true a0_0 a0_1 l0_2 a0_3 a1_0 a1_1 l1_2 a1_3)) else (agateref07_Same.j0 k true a0_0 a0_1 l0_2 a0_3 a1_0 a1_1 l1_2 a1_3)
set_option maxHeartbeats 8000000 in
set_option maxRecDepth 100000 in
theorem agateref07_Same.calls (k : Nat) (a0_0 : ByteArray) (a0_1 : Int) (A0_2 : Option Addr) (c0_2 : Nat) (l0_2 : List Int) (a0_3 : ByteArray) (a1_0 : ByteArray) (a1_1 : Int) (A1_2 : Option Addr) (c1_2 : Nat) (l1_2 : List Int) (a1_3 : ByteArray) (r : Bool) (w : World) (hr0_2 : Kd.C (Kd.int .i64) w A0_2 l0_2.length l0_2) (hc0_2 : l0_2.length ≤ c0_2) (hr1_2 : Kd.C (Kd.int .i64) w A1_2 l1_2.length l1_2) (hc1_2 : l1_2.length ≤ c1_2) (h : agateref07_Same.f k a0_0 a0_1 l0_2 a0_3 a1_0 a1_1 l1_2 a1_3 = some r) :
  Calls Try.prog 23 #[.agg #[.string a0_0, .int .i64 a0_1, .slice A0_2 l0_2.length c0_2, .string a0_3], .agg #[.string a1_0, .int .i64 a1_1, .slice A1_2 l1_2.length c1_2, .string a1_3]] w fun e w' => e = .returned (.bool r) ∧ Below w.heap.size w w' := by
 have hu55 := Try.underlying55; have HR0_2 := mk0 hr0_2; have HC0_2 := mk0 hc0_2; clear hr0_2 hc0_2; have HR1_2 := mk0 hr1_2; have HC1_2 := mk0 hc1_2; clear hr1_2 hc1_2; have HB := mk0 (Below.refl w.heap.size w); have H : (if a0_0.toList = a1_0.toList then (if a0_1 = a1_1 then (if a0_3.toList = a1_3.toList then (agateref07_Same.j0 k ((l0_2.length : Int) != (l1_2.length : Int)) a0_0 a0_1 l0_2 a0_3 a1_0 a1_1 l1_2 a1_3) else (agateref07_Same.j0 k true a0_0 a0_1 l0_2 a0_3 a1_0 a1_1 l1_2 a1_3)) else (agateref07_Same.j0 k true a0_0 a0_1 l0_2 a0_3 a1_0 a1_1 l1_2 a1_3)) else (agateref07_Same.j0 k true a0_0 a0_1 l0_2 a0_3 a1_0 a1_1 l1_2 a1_3)) = some r := h; clear h; have HC3 := mk0 H; clear H
 go_enter Try.func23, Try.ntmps23
 go_upto_region 1 with (first | ((with_reducible refine gate_dst (N := 2) rfl ?_); (try (refine gate_guard (by rfl) ?_; dsimp only)); refine boxE (N := 2) (cs := #[.string a0_0, .int .i64 a0_1, .slice A0_2 l0_2.length c0_2, .string a0_3]) (t := 55) ?_; intro gb101 hg w4 hbox hb; have BK101 := mk0 hbox; have GW101 := gwS HB hg; have GE101 := gwS HB hg; replace HB := hbS HB hb; clear hb hbox hg) | ((with_reducible refine gate_dst (N := 3) rfl ?_); (try (refine gate_guard (by rfl) ?_; dsimp only)); refine boxE (N := 3) (cs := #[.string a1_0, .int .i64 a1_1, .slice A1_2 l1_2.length c1_2, .string a1_3]) (t := 55) ?_; intro gb102 hg w5 hbox hb; have BK102 := mk0 hbox; have GW102 := gwS HB hg; have GE102 := gwS HB hg; replace HB := hbS HB hb; have NB101_102 := neS BK101 hg; have NB102_101 := neT BK101 hg; replace BK101 := bkS BK101 hb; clear hb hbox hg))
 repeat (go_quiet (first | ((with_reducible refine gate_dst (N := 2) rfl ?_); (try (refine gate_guard (by rfl) ?_; dsimp only)); refine boxE (N := 2) (cs := #[.string a0_0, .int .i64 a0_1, .slice A0_2 l0_2.length c0_2, .string a0_3]) (t := 55) ?_; intro gb101 hg w4 hbox hb; have BK101 := mk0 hbox; have GW101 := gwS HB hg; have GE101 := gwS HB hg; replace HB := hbS HB hb; clear hb hbox hg) | ((with_reducible refine gate_dst (N := 3) rfl ?_); (try (refine gate_guard (by rfl) ?_; dsimp only)); refine boxE (N := 3) (cs := #[.string a1_0, .int .i64 a1_1, .slice A1_2 l1_2.length c1_2, .string a1_3]) (t := 55) ?_; intro gb102 hg w5 hbox hb; have BK102 := mk0 hbox; have GW102 := gwS HB hg; have GE102 := gwS HB hg; replace HB := hbS HB hb; have NB101_102 := neS BK101 hg; have NB102_101 := neT BK101 hg; replace BK101 := bkS BK101 hb; clear hb hbox hg)); go_upto_region 1 with (first | ((with_reducible refine gate_dst (N := 2) rfl ?_); (try (refine gate_guard (by rfl) ?_; dsimp only)); refine boxE (N := 2) (cs := #[.string a0_0, .int .i64 a0_1, .slice A0_2 l0_2.length c0_2, .string a0_3]) (t := 55) ?_; intro gb101 hg w4 hbox hb; have BK101 := mk0 hbox; have GW101 := gwS HB hg; have GE101 := gwS HB hg; replace HB := hbS HB hb; clear hb hbox hg) | ((with_reducible refine gate_dst (N := 3) rfl ?_); (try (refine gate_guard (by rfl) ?_; dsimp only)); refine boxE (N := 3) (cs := #[.string a1_0, .int .i64 a1_1, .slice A1_2 l1_2.length c1_2, .string a1_3]) (t := 55) ?_; intro gb102 hg w5 hbox hb; have BK102 := mk0 hbox; have GW102 := gwS HB hg; have GE102 := gwS HB hg; replace HB := hbS HB hb; have NB101_102 := neS BK101 hg; have NB102_101 := neT BK101 hg; replace BK101 := bkS BK101 hb; clear hb hbox hg)))
 (try simp only [Act.put, List.setIfInBounds_toArray, List.set_cons_zero, List.set_cons_succ])
 go_cut [33] (fun v33 wc => ∃ (kq : Nat) (x33_2 : Bool), v33 = .bool x33_2 ∧ Aside0 (agateref07_Same.j0 kq x33_2 a0_0 a0_1 l0_2 a0_3 a1_0 a1_1 l1_2 a1_3 = some r) ∧ Aside0 (kq ≤ k) ∧ Aside0 (wc.heap[gb101]? = some (.cells #[.string a0_0, .int .i64 a0_1, (.slice A0_2 l0_2.length c0_2), .string a0_3] 55 (0, 0))) ∧ Aside0 (wc.heap[gb102]? = some (.cells #[.string a1_0, .int .i64 a1_1, (.slice A1_2 l1_2.length c1_2), .string a1_3] 55 (0, 0))) ∧ Aside0 (Below w.heap.size w wc))
 case first =>
  have H := HC3.out; clear HC3
  by_cases c6 : a0_0.toList = a1_0.toList
  ·
   rw [if_pos c6] at H; have c6b0 := beq_iff_eq.mpr c6; have c6b1 := bne_eq_false_iff_eq.mpr c6; clear c6
   (first | rw [c6b0] | (simp only [i64_w, i32_w]; rw [c6b0]) | skip)
   by_cases c7 : a0_1 = a1_1
   ·
    rw [if_pos c7] at H; have c7b0 := beq_iff_eq.mpr c7; have c7b1 := bne_eq_false_iff_eq.mpr c7; clear c7
    by_cases c8 : a0_3.toList = a1_3.toList
    ·
     rw [if_pos c8] at H; have c8b0 := beq_iff_eq.mpr c8; have c8b1 := bne_eq_false_iff_eq.mpr c8; clear c8; have H' := mk0 H; clear H; have hnb9 := NB101_102.out; have hnc9 := NB102_101.out; obtain ⟨hcz10_0, hcz10_1, hcz10_2, hcz10_3⟩ := cz4 BK101; have hfz10_0 := fz BK101 0; have hfz10_1 := fz BK101 1; have hfz10_2 := fz BK101 2; have hfz10_3 := fz BK101 3; obtain ⟨hcz11_0, hcz11_1, hcz11_2, hcz11_3⟩ := cz4 BK102; have hfz11_0 := fz BK102 0; have hfz11_1 := fz BK102 1; have hfz11_2 := fz BK102 2; have hfz11_3 := fz BK102 3
     go_wp2
     repeat (go_quiet (fail); try go_wp2)
     go_meet
     case rel => exact ⟨_, (((l0_2.length : Int) != (l1_2.length : Int))), cl0, H', cl1, ⟨bkA BK101⟩, ⟨bkA BK102⟩, ⟨hbA HB⟩⟩
    ·
     rw [if_neg c8] at H; have c8b0 := beq_eq_false_iff_ne.mpr c8; have c8b1 := bne_iff_ne.mpr c8; have H' := mk0 H; clear H; have hnb12 := NB101_102.out; have hnc12 := NB102_101.out; obtain ⟨hcz13_0, hcz13_1, hcz13_2, hcz13_3⟩ := cz4 BK101; have hfz13_0 := fz BK101 0; have hfz13_1 := fz BK101 1; have hfz13_2 := fz BK101 2; have hfz13_3 := fz BK101 3; obtain ⟨hcz14_0, hcz14_1, hcz14_2, hcz14_3⟩ := cz4 BK102; have hfz14_0 := fz BK102 0; have hfz14_1 := fz BK102 1; have hfz14_2 := fz BK102 2; have hfz14_3 := fz BK102 3
     go_wp2
     repeat (go_quiet (fail); try go_wp2)
     go_meet
     case rel => exact ⟨_, (true), cl0, H', cl1, ⟨bkA BK101⟩, ⟨bkA BK102⟩, ⟨hbA HB⟩⟩
   ·
    rw [if_neg c7] at H; have c7b0 := beq_eq_false_iff_ne.mpr c7; have c7b1 := bne_iff_ne.mpr c7; have H' := mk0 H; clear H; have hnb15 := NB101_102.out; have hnc15 := NB102_101.out; obtain ⟨hcz16_0, hcz16_1, hcz16_2, hcz16_3⟩ := cz4 BK101; have hfz16_0 := fz BK101 0; have hfz16_1 := fz BK101 1; have hfz16_2 := fz BK101 2; have hfz16_3 := fz BK101 3; obtain ⟨hcz17_0, hcz17_1, hcz17_2, hcz17_3⟩ := cz4 BK102; have hfz17_0 := fz BK102 0; have hfz17_1 := fz BK102 1; have hfz17_2 := fz BK102 2; have hfz17_3 := fz BK102 3
    go_wp2
    repeat (go_quiet (fail); try go_wp2)
    go_meet
    case rel => exact ⟨_, (true), cl0, H', cl1, ⟨bkA BK101⟩, ⟨bkA BK102⟩, ⟨hbA HB⟩⟩
  ·
   rw [if_neg c6] at H; have c6b0 := beq_eq_false_iff_ne.mpr c6; have c6b1 := bne_iff_ne.mpr c6
   (first | rw [c6b0] | (simp only [i64_w, i32_w]; rw [c6b0]) | skip)
   have H' := mk0 H; clear H; have hnb18 := NB101_102.out; have hnc18 := NB102_101.out; obtain ⟨hcz19_0, hcz19_1, hcz19_2, hcz19_3⟩ := cz4 BK101; have hfz19_0 := fz BK101 0; have hfz19_1 := fz BK101 1; have hfz19_2 := fz BK101 2; have hfz19_3 := fz BK101 3; obtain ⟨hcz20_0, hcz20_1, hcz20_2, hcz20_3⟩ := cz4 BK102; have hfz20_0 := fz BK102 0; have hfz20_1 := fz BK102 1; have hfz20_2 := fz BK102 2; have hfz20_3 := fz BK102 3
   go_wp2
   repeat (go_quiet (fail); try go_wp2)
   go_meet
   case rel => exact ⟨_, (true), cl0, H', cl1, ⟨bkA BK101⟩, ⟨bkA BK102⟩, ⟨hbA HB⟩⟩
 case rest =>
  clear HC3; obtain ⟨kq, x33_2, rfl, HA, HJ2, BK101, BK102, HB⟩ := hcut
  cases kq with
  | zero => exact absurd HA.out (by simp [agateref07_Same.j0])
  | succ kj2 =>
   have H := HA.out; clear HA
   simp only [agateref07_Same.j0] at H
   by_cases c21 : x33_2 = true
   ·
    subst c21; have H1 : (some false) = some r := by rw [if_pos rfl] at H; exact H
    clear H; have H := H1; clear H1; obtain rfl := Option.some.inj H
    go_wp2
    repeat (go_quiet (fail); try go_wp2)
    go_ret
    exact ⟨cl3, hbA HB⟩
   ·
    replace c21 := Bool.eq_false_iff.mpr c21; subst c21; have H1 : (agateref07_Same.l0 kj2 0 a0_0 a0_1 l0_2 a0_3 a1_0 a1_1 l1_2 a1_3) = some r := by rw [if_neg (show ¬ (false = true) by decide)] at H; exact H
    clear H; have H := H1; clear H1; have H' := mk0 H; clear H
    go_wp2
    repeat (go_quiet (fail); try go_wp2)
    go_loopg [5] kj2 (fun kq v5 w' => ∃ (x5_2 : Int), v5 = .int .i64 x5_2 ∧ Aside0 (agateref07_Same.l0 kq x5_2 a0_0 a0_1 l0_2 a0_3 a1_0 a1_1 l1_2 a1_3 = some r) ∧ Aside0 (kq ≤ kj2) ∧ Aside0 (w'.heap[gb101]? = some (.cells #[.string a0_0, .int .i64 a0_1, (.slice A0_2 l0_2.length c0_2), .string a0_3] 55 (0, 0))) ∧ Aside0 (w'.heap[gb102]? = some (.cells #[.string a1_0, .int .i64 a1_1, (.slice A1_2 l1_2.length c1_2), .string a1_3] 55 (0, 0))) ∧ Aside0 (Below w.heap.size w w'))
    case atStart => exact ⟨(0), cl0, H', ⟨Nat.le_refl _⟩, ⟨bkA BK101⟩, ⟨bkA BK102⟩, ⟨hbA HB⟩⟩
    case round =>
     clear H'; obtain ⟨x5_2, rfl, HA, HK2, BK101, BK102, HB⟩ := hrel
     cases gk with
     | zero => exact absurd HA.out (by simp [agateref07_Same.l0])
     | succ k2 =>
      have H := HA.out; clear HA
      simp only [agateref07_Same.l0] at H
      by_cases c22 : x5_2 < (l0_2.length : Int)
      ·
       rw [if_pos c22] at H; have c22b0 := decide_eq_true c22; clear c22; replace H := ifS H; obtain ⟨c23, H⟩ := H; have c23b0 := decide_eq_true c23; clear c23; replace H := ifS H; obtain ⟨c24, H⟩ := H; have c24b0 := decide_eq_true c24; clear c24
       by_cases c25 : (rd l0_2 x5_2) = (rd l1_2 x5_2)
       ·
        rw [if_pos c25] at H; have c25b0 := beq_iff_eq.mpr c25; have c25b1 := bne_eq_false_iff_eq.mpr c25; clear c25; have H' := mk0 H; clear H; have hnb26 := NB101_102.out; have hnc26 := NB102_101.out; obtain ⟨hcz27_0, hcz27_1, hcz27_2, hcz27_3⟩ := cz4 BK101; have hfz27_0 := fz BK101 0; have hfz27_1 := fz BK101 1; have hfz27_2 := fz BK101 2; have hfz27_3 := fz BK101 3; have p103 : 0 ≤ (x5_2 : Int) := ofd; have q103 : x5_2 < (l0_2.length : Int) := ofd; obtain ⟨ad103, e103, hx103_0⟩ := Kd.at_int HR0_2.out x5_2 p103 q103; cases e103; replace hx103_0 := hbc HB hx103_0; replace p103 := eq_true p103; replace q103 := eq_true q103; obtain ⟨hcz28_0, hcz28_1, hcz28_2, hcz28_3⟩ := cz4 BK102; have hfz28_0 := fz BK102 0; have hfz28_1 := fz BK102 1; have hfz28_2 := fz BK102 2; have hfz28_3 := fz BK102 3; have p104 : 0 ≤ (x5_2 : Int) := ofd; have q104 : x5_2 < (l1_2.length : Int) := ofd; obtain ⟨ad104, e104, hx104_0⟩ := Kd.at_int HR1_2.out x5_2 p104 q104; cases e104; replace hx104_0 := hbc HB hx104_0; replace p104 := eq_true p104; replace q104 := eq_true q104
        go_wp2
        repeat (go_quiet (fail); try go_wp2)
        go_roundg k2
        case measure => have := HJ2.out; have := HK2.out; omega
        case rel => exact ⟨(wrap64 (x5_2 + 1)), cl0, H', ⟨by have := HJ2.out; have := HK2.out; omega⟩, ⟨bkA BK101⟩, ⟨bkA BK102⟩, ⟨hbA HB⟩⟩
       ·
        rw [if_neg c25] at H; have c25b0 := beq_eq_false_iff_ne.mpr c25; have c25b1 := bne_iff_ne.mpr c25; obtain rfl := Option.some.inj H; have hnb29 := NB101_102.out; have hnc29 := NB102_101.out; obtain ⟨hcz30_0, hcz30_1, hcz30_2, hcz30_3⟩ := cz4 BK101; have hfz30_0 := fz BK101 0; have hfz30_1 := fz BK101 1; have hfz30_2 := fz BK101 2; have hfz30_3 := fz BK101 3; have p103 : 0 ≤ (x5_2 : Int) := ofd; have q103 : x5_2 < (l0_2.length : Int) := ofd; obtain ⟨ad103, e103, hx103_0⟩ := Kd.at_int HR0_2.out x5_2 p103 q103; cases e103; replace hx103_0 := hbc HB hx103_0; replace p103 := eq_true p103; replace q103 := eq_true q103; obtain ⟨hcz31_0, hcz31_1, hcz31_2, hcz31_3⟩ := cz4 BK102; have hfz31_0 := fz BK102 0; have hfz31_1 := fz BK102 1; have hfz31_2 := fz BK102 2; have hfz31_3 := fz BK102 3; have p104 : 0 ≤ (x5_2 : Int) := ofd; have q104 : x5_2 < (l1_2.length : Int) := ofd; obtain ⟨ad104, e104, hx104_0⟩ := Kd.at_int HR1_2.out x5_2 p104 q104; cases e104; replace hx104_0 := hbc HB hx104_0; replace p104 := eq_true p104; replace q104 := eq_true q104
        go_wp2
        repeat (go_quiet (fail); try go_wp2)
        go_ret
        exact ⟨cl3, hbA HB⟩
      ·
       rw [if_neg c22] at H; have c22b0 := decide_eq_false c22; clear c22; obtain rfl := Option.some.inj H; have hnb32 := NB101_102.out; have hnc32 := NB102_101.out; obtain ⟨hcz33_0, hcz33_1, hcz33_2, hcz33_3⟩ := cz4 BK101; have hfz33_0 := fz BK101 0; have hfz33_1 := fz BK101 1; have hfz33_2 := fz BK101 2; have hfz33_3 := fz BK101 3
       go_wp2
       repeat (go_quiet (fail); try go_wp2)
       go_ret
       exact ⟨cl3, hbA HB⟩
end Go.Proofs.Ytfejdnkmmjffcaa.X
