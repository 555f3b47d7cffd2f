import Derived.Test.YtfejdnkmmjffcaaMModelTells3
import Derived.Test.YtfejdnkmmjffcaaMModelTells13
import Derived.Test.YtfejdnkmmjffcaaMModelTells8
import Derived.Test.YtfejdnkmmjffcaaMModelTells4
import Derived.Test.YtfejdnkmmjffcaaMModelTells12
namespace Go.Proofs.Ytfejdnkmmjffcaa.X
open Go.RowKit Go.Proofs.YtfejdnkmmjffcaaW.PrintWords Go.Proofs.YtfejdnkmmjffcaaW.PrintLast Go.Proofs.YtfejdnkmmjffcaaW.PrintMore
attribute [local go_sem] max2_int min2_int max_two min_two max_three min_three max_four min_four
set_option linter.unusedVariables false
set_option linter.unusedSimpArgs false
def agateref07_Same_s.f (a0_0 : ByteArray) (a0_1 : Int) (l0_2 : List Int) (a0_3 : ByteArray) (a1_0 : ByteArray) (a1_1 : Int) (l1_2 : List Int) (a1_3 : ByteArray) : Option Bool := if l0_2.length ≤ 1000000000000000000 then some (sameR a0_0 a0_1 l0_2 a0_3 a1_0 a1_1 l1_2 a1_3) else none
theorem agateref07_Same_eval (a0_0 : ByteArray) (a0_1 : Int) (l0_2 : List Int) (a0_3 : ByteArray) (a1_0 : ByteArray) (a1_1 : Int) (l1_2 : List Int) (a1_3 : ByteArray) (hl : l0_2.length ≤ 1000000000000000000) (he : l0_2.length = l1_2.length) (d : Nat) : ∀ (k i : Nat), l0_2.length - i = d → i ≤ l0_2.length → d < k →
    agateref07_Same.l0 k (i : Int) a0_0 a0_1 l0_2 a0_3 a1_0 a1_1 l1_2 a1_3 = some (decide (l0_2.drop i = l1_2.drop i)) := by
  induction d with
  | zero =>
    intro k i hdd hi hk
    obtain ⟨k, rfl⟩ : ∃ m, k = m + 1 := ⟨k - 1, by omega⟩
    simp only [agateref07_Same.l0]
    rw [if_neg (by omega), List.drop_of_length_le (by omega), List.drop_of_length_le (by omega)]; rfl
  | succ d ih =>
    intro k i hdd hi hk
    obtain ⟨k, rfl⟩ : ∃ m, k = m + 1 := ⟨k - 1, by omega⟩
    have hlt : i < l0_2.length := by omega
    have hlt2 : i < l1_2.length := by omega
    have e0 : rd l0_2 (i : Int) = l0_2[i] := by simp [rd, hlt]
    have e1 : rd l1_2 (i : Int) = l1_2[i] := by simp [rd, hlt2]
    simp only [agateref07_Same.l0]
    rw [if_pos (by omega), if_pos (by omega), if_pos (by omega), e0, e1, List.drop_eq_getElem_cons hlt, List.drop_eq_getElem_cons hlt2]
    by_cases hx : l0_2[i] = l1_2[i]
    · rw [if_pos hx, wrap64_id (by omega) (by omega), show ((i : Int) + 1) = ((i + 1 : Nat) : Int) by omega, ih k (i + 1) (by omega) (by omega) (by omega)]
      congr 1
      exact decide_eq_decide.2 ⟨fun h => by rw [h, hx], fun h => (List.cons.inj h).2⟩
    · rw [if_neg hx, decide_eq_false (fun h => hx (List.cons.inj h).1)]
theorem agateref07_Same_s.ev (a0_0 : ByteArray) (a0_1 : Int) (l0_2 : List Int) (a0_3 : ByteArray) (a1_0 : ByteArray) (a1_1 : Int) (l1_2 : List Int) (a1_3 : ByteArray) (r) (h : agateref07_Same_s.f a0_0 a0_1 l0_2 a0_3 a1_0 a1_1 l1_2 a1_3 = some r) : ∃ k, agateref07_Same.f k a0_0 a0_1 l0_2 a0_3 a1_0 a1_1 l1_2 a1_3 = some r := by
  unfold agateref07_Same_s.f at h
  split at h
  case isFalse => cases h
  rename_i hl
  rw [← h]
  refine ⟨l0_2.length + 2, ?_⟩
  unfold agateref07_Same.f sameR
  by_cases h0 : a0_0 = a1_0
  case neg => rw [if_neg (fun e => h0 (toList_inj.1 e)), decide_eq_false (fun e => h0 e.1)]; rfl
  rw [if_pos (by rw [h0])]
  by_cases h1 : a0_1 = a1_1
  case neg => rw [if_neg h1, decide_eq_false (fun e => h1 e.2.1)]; rfl
  rw [if_pos h1]
  by_cases h3 : a0_3 = a1_3
  case neg => rw [if_neg (fun e => h3 (toList_inj.1 e)), decide_eq_false (fun e => h3 e.2.2.2)]; rfl
  rw [if_pos (by rw [h3])]
  rw [show l0_2.length + 2 = (l0_2.length + 1) + 1 from rfl]
  simp only [agateref07_Same.j0]
  by_cases he : l0_2.length = l1_2.length
  · rw [show ((l0_2.length : Int) != (l1_2.length : Int)) = false by simp [he], if_neg (by decide)]
    have := agateref07_Same_eval a0_0 a0_1 l0_2 a0_3 a1_0 a1_1 l1_2 a1_3 hl he l0_2.length (l0_2.length + 1) 0 (by omega) (by omega) (by omega)
    rw [List.drop_zero, List.drop_zero] at this
    refine this.trans ?_
    congr 1
    exact decide_eq_decide.2 ⟨fun e => ⟨h0, h1, e, h3⟩, fun e => e.2.2.1⟩
  · rw [show ((l0_2.length : Int) != (l1_2.length : Int)) = true by simp; omega, if_pos rfl, decide_eq_false (fun e => he (by rw [e.2.2.1]))]
set_option maxHeartbeats 1000000 in
theorem agateref07_Same_s.calls (a0_0 : ByteArray) (a0_1 : Int) (A0_2 : Option Addr) (c0_2 : Nat) (l0_2 : List Int) (a0_3 : ByteArray) (a1_0 : ByteArray) (a1_1 : Int) (A1_2 : Option Addr) (c1_2 : Nat) (l1_2 : List Int) (a1_3 : ByteArray) (r : Bool) (w : World) (hr0_2 : Kd.C (Kd.int .i64) w A0_2 l0_2.length l0_2) (hc0_2 : l0_2.length ≤ c0_2) (hr1_2 : Kd.C (Kd.int .i64) w A1_2 l1_2.length l1_2) (hc1_2 : l1_2.length ≤ c1_2) (h : agateref07_Same_s.f a0_0 a0_1 l0_2 a0_3 a1_0 a1_1 l1_2 a1_3 = some r) :
    Calls Try.prog 23 #[.agg #[.string a0_0, .int .i64 a0_1, .slice A0_2 l0_2.length c0_2, .string a0_3], .agg #[.string a1_0, .int .i64 a1_1, .slice A1_2 l1_2.length c1_2, .string a1_3]] w fun e w' => e = .returned (.bool r) ∧ Below w.heap.size w w' := by
  obtain ⟨k, hk⟩ := agateref07_Same_s.ev a0_0 a0_1 l0_2 a0_3 a1_0 a1_1 l1_2 a1_3 _ h
  exact agateref07_Same.calls k a0_0 a0_1 A0_2 c0_2 l0_2 a0_3 a1_0 a1_1 A1_2 c1_2 l1_2 a1_3 r w hr0_2 hc0_2 hr1_2 hc1_2 hk
end Go.Proofs.Ytfejdnkmmjffcaa.X
namespace Go.Proofs.Ytfejdnkmmjffcaa.X
open Go.RowKit Go.Proofs.YtfejdnkmmjffcaaW.PrintWords Go.Proofs.YtfejdnkmmjffcaaW.PrintLast Go.Proofs.YtfejdnkmmjffcaaW.PrintMore
attribute [local go_sem] max2_int min2_int max_two min_two max_three min_three max_four min_four
set_option linter.unusedVariables false
set_option linter.unusedSimpArgs false
mutual
def agateref10_Same.j0 : Nat → Bool → Int → List (S89) → List (S89) → List (S55) → List (S59) → Int → List (S89) → List (S89) → List (S55) → List (S59) → Option (Bool)
 | 0, _, _, _, _, _, _, _, _, _, _, _ => none
 | k + 1, x45, x102000, x102001, x102002, x102003, x102004, x103000, x103001, x103002, x103003, x103004 => if x45 = true then (some false) else (agateref10_Same.l0 k 0 x102000 x102001 x102002 x102003 x102004 x103000 x103001 x103002 x103003 x103004)
def agateref10_Same.l0 : Nat → Int → Int → List (S89) → List (S89) → List (S55) → List (S59) → Int → List (S89) → List (S89) → List (S55) → List (S59) → Option (Bool)
 | 0, _, _, _, _, _, _, _, _, _, _, _ => none
 | k + 1, x5, x102000, x102001, x102002, x102003, x102004, x103000, x103001, x103002, x103003, x103004 => if x5 < (x102003.length : Int) then (if 0 ≤ x5 then (if x5 < (x103003.length : Int) then ((agateref07_Same_s.f ((rd_T55 x102003 x5).f0) ((rd_T55 x102003 x5).f1) ((rd_T55 x102003 x5).f2) ((rd_T55 x102003 x5).f3) ((rd_T55 x103003 x5).f0) ((rd_T55 x103003 x5).f1) ((rd_T55 x103003 x5).f2) ((rd_T55 x103003 x5).f3)).bind fun t107 => (if t107 = true then (agateref10_Same.l0 k (wrap64 (x5 + 1)) x102000 x102001 x102002 x102003 x102004 x103000 x103001 x103002 x103003 x103004) else (some false))) else (none)) else (none)) else (agateref10_Same.l1 k 0 x102000 x102001 x102002 x102003 x102004 x103000 x103001 x103002 x103003 x103004)
def agateref10_Same.l1 : Nat → Int → Int → List (S89) → List (S89) → List (S55) → List (S59) → Int → List (S89) → List (S89) → List (S55) → List (S59) → Option (Bool)
 | 0, _, _, _, _, _, _, _, _, _, _, _ => none
 | k + 1, x6, x102000, x102001, x102002, x102003, x102004, x103000, x103001, x103002, x103003, x103004 => if x6 < (x102004.length : Int) then (if 0 ≤ x6 then (if x6 < (x103004.length : Int) then ((agateref10_Nodes.f k ((rd_T59 x102004 x6).f0) ((rd_T59 x102004 x6).f1) ((rd_T59 x102004 x6).f2) ((rd_T59 x102004 x6).f3) ((rd_T59 x103004 x6).f0) ((rd_T59 x103004 x6).f1) ((rd_T59 x103004 x6).f2) ((rd_T59 x103004 x6).f3)).bind fun t110 => (if t110 = true then (agateref10_Same.l1 k (wrap64 (x6 + 1)) x102000 x102001 x102002 x102003 x102004 x103000 x103001 x103002 x103003 x103004) else (some false))) else (none)) else (none)) else (some true)
end
def agateref10_Same.f (k : Nat) (a0_0 : Int) (l0_1 : List (S89)) (l0_2 : List (S89)) (l0_3 : List (S55)) (l0_4 : List (S59)) (a1_0 : Int) (l1_1 : List (S89)) (l1_2 : List (S89)) (l1_3 : List (S55)) (l1_4 : List (S59)) : Option (Bool) := if a0_0 = a1_0 then ((agateref10_infos.f k l0_1 l1_1).bind fun t103 => (if t103 = true then ((agateref10_infos.f k l0_2 l1_2).bind fun t104 => (if t104 = true then (if (l0_3.length : Int) = (l1_3.length : Int) then (agateref10_Same.j0 k ((l0_4.length : Int) != (l1_4.length : Int)) a0_0 l0_1 l0_2 l0_3 l0_4 a1_0 l1_1 l1_2 l1_3 l1_4) else (agateref10_Same.j0 k true a0_0 l0_1 l0_2 l0_3 l0_4 a1_0 l1_1 l1_2 l1_3 l1_4)) else (agateref10_Same.j0 k true a0_0 l0_1 l0_2 l0_3 l0_4 a1_0 l1_1 l1_2 l1_3 l1_4))) else (agateref10_Same.j0 k true a0_0 l0_1 l0_2 l0_3 l0_4 a1_0 l1_1 l1_2 l1_3 l1_4))) else (agateref10_Same.j0 k true a0_0 l0_1 l0_2 l0_3 l0_4 a1_0 l1_1 l1_2 l1_3 l1_4)
def agateref10_Same.T6 : Bool × List (List Nat × List Nat) := (true, [([], []), ([0], [0]), ([], []), ([1, 2], [1, 2]), ([3], [3]), ([], []), ([5], [5]), ([], []), ([6, 7], [6, 7]), ([8], [8]), ([4, 9], [4, 9]), ([10], [10])])
def agateref10_Same.B6 : List Nat := [0, 1, 0, 7, 15, 0, 32, 0, 224, 480, 1023, 2047]
theorem agateref10_Same.tab6 : rtab .any (opsOf Try.f8 6) = agateref10_Same.T6 := by kernel_rfl
theorem agateref10_Same.bits6 : waitsOk agateref10_Same.T6.2 agateref10_Same.B6 = true := by kernel_rfl
def agateref10_Same.T11 : Bool × List (List Nat × List Nat) := (true, [([], []), ([0], [0]), ([], []), ([1, 2], [1, 2]), ([3], [3]), ([], []), ([5], [5]), ([], []), ([6, 7], [6, 7]), ([8], [8]), ([4, 9], [4, 9]), ([10], [10])])
def agateref10_Same.B11 : List Nat := [0, 1, 0, 7, 15, 0, 32, 0, 224, 480, 1023, 2047]
theorem agateref10_Same.tab11 : rtab .any (opsOf Try.f8 11) = agateref10_Same.T11 := by kernel_rfl
theorem agateref10_Same.bits11 : waitsOk agateref10_Same.T11.2 agateref10_Same.B11 = true := by kernel_rfl
attribute [local irreducible] Calls
set_option maxHeartbeats 8000000 in
set_option maxRecDepth 100000 in
theorem agateref10_Same.calls (k : Nat) (a0_0 : Int) (A0_1 : Option Addr) (c0_1 : Nat) (l0_1 : List (S89)) (A0_2 : Option Addr) (c0_2 : Nat) (l0_2 : List (S89)) (A0_3 : Option Addr) (c0_3 : Nat) (l0_3 : List (S55)) (A0_4 : Option Addr) (c0_4 : Nat) (l0_4 : List (S59)) (a1_0 : Int) (A1_1 : Option Addr) (c1_1 : Nat) (l1_1 : List (S89)) (A1_2 : Option Addr) (c1_2 : Nat) (l1_2 : List (S89)) (A1_3 : Option Addr) (c1_3 : Nat) (l1_3 : List (S55)) (A1_4 : Option Addr) (c1_4 : Nat) (l1_4 : List (S59)) (r : Bool) (w : World) (hr0_1 : Kd.C k89 w A0_1 l0_1.length l0_1) (hc0_1 : l0_1.length ≤ c0_1) (hr0_2 : Kd.C k89 w A0_2 l0_2.length l0_2) (hc0_2 : l0_2.length ≤ c0_2) (hr0_3 : Kd.C k55 w A0_3 l0_3.length l0_3) (hc0_3 : l0_3.length ≤ c0_3) (hr0_4 : Kd.C k59 w A0_4 l0_4.length l0_4) (hc0_4 : l0_4.length ≤ c0_4) (hr1_1 : Kd.C k89 w A1_1 l1_1.length l1_1) (hc1_1 : l1_1.length ≤ c1_1) (hr1_2 : Kd.C k89 w A1_2 l1_2.length l1_2) (hc1_2 : l1_2.length ≤ c1_2) (hr1_3 : Kd.C k55 w A1_3 l1_3.length l1_3) (hc1_3 : l1_3.length ≤ c1_3) (hr1_4 : Kd.C k59 w A1_4 l1_4.length l1_4) (hc1_4 : l1_4.length ≤ c1_4) (h : agateref10_Same.f k a0_0 l0_1 l0_2 l0_3 l0_4 a1_0 l1_1 l1_2 l1_3 l1_4 = some r) :
  Calls Try.prog 8 #[.agg #[.int .i64 a0_0, .slice A0_1 l0_1.length c0_1, .slice A0_2 l0_2.length c0_2, .slice A0_3 l0_3.length c0_3, .slice A0_4 l0_4.length c0_4], .agg #[.int .i64 a1_0, .slice A1_1 l1_1.length c1_1, .slice A1_2 l1_2.length c1_2, .slice A1_3 l1_3.length c1_3, .slice A1_4 l1_4.length c1_4]] w fun e w' => e = .returned (.bool r) ∧ Below w.heap.size w w' := by
 have hu33 := Try.underlying33; have hu55 := Try.underlying55; have hu59 := Try.underlying59; have HR0_1 := mk0 hr0_1; have HC0_1 := mk0 hc0_1; clear hr0_1 hc0_1; have HR0_2 := mk0 hr0_2; have HC0_2 := mk0 hc0_2; clear hr0_2 hc0_2; have HR0_3 := mk0 hr0_3; have HC0_3 := mk0 hc0_3; clear hr0_3 hc0_3; have HR0_4 := mk0 hr0_4; have HC0_4 := mk0 hc0_4; clear hr0_4 hc0_4; have HR1_1 := mk0 hr1_1; have HC1_1 := mk0 hc1_1; clear hr1_1 hc1_1; have HR1_2 := mk0 hr1_2; have HC1_2 := mk0 hc1_2; clear hr1_2 hc1_2; have HR1_3 := mk0 hr1_3; have HC1_3 := mk0 hc1_3; clear hr1_3 hc1_3; have HR1_4 := mk0 hr1_4; have HC1_4 := mk0 hc1_4; clear hr1_4 hc1_4; have HB := mk0 (Below.refl w.heap.size w); have H : (if a0_0 = a1_0 then ((agateref10_infos.f k l0_1 l1_1).bind fun t103 => (if t103 = true then ((agateref10_infos.f k l0_2 l1_2).bind fun t104 => (if t104 = true then (if (l0_3.length : Int) = (l1_3.length : Int) then (agateref10_Same.j0 k ((l0_4.length : Int) != (l1_4.length : Int)) a0_0 l0_1 l0_2 l0_3 l0_4 a1_0 l1_1 l1_2 l1_3 l1_4) else (agateref10_Same.j0 k true a0_0 l0_1 l0_2 l0_3 l0_4 a1_0 l1_1 l1_2 l1_3 l1_4)) else (agateref10_Same.j0 k true a0_0 l0_1 l0_2 l0_3 l0_4 a1_0 l1_1 l1_2 l1_3 l1_4))) else (agateref10_Same.j0 k true a0_0 l0_1 l0_2 l0_3 l0_4 a1_0 l1_1 l1_2 l1_3 l1_4))) else (agateref10_Same.j0 k true a0_0 l0_1 l0_2 l0_3 l0_4 a1_0 l1_1 l1_2 l1_3 l1_4)) = some r := h; clear h; have HC3 := mk0 H; clear H
 go_enter Try.func8, Try.ntmps8
 go_upto_region 1 with (first | ((with_reducible refine gate_dst (N := 2) rfl ?_); (try (refine gate_guard (by rfl) ?_; dsimp only)); refine boxE (N := 2) (cs := #[.int .i64 a0_0, .slice A0_1 l0_1.length c0_1, .slice A0_2 l0_2.length c0_2, .slice A0_3 l0_3.length c0_3, .slice A0_4 l0_4.length c0_4]) (t := 33) ?_; intro gb101 hg w4 hbox hb; have BK101 := mk0 hbox; have GW101 := gwS HB hg; have GE101 := gwS HB hg; replace HB := hbS HB hb; clear hb hbox hg) | ((with_reducible refine gate_dst (N := 3) rfl ?_); (try (refine gate_guard (by rfl) ?_; dsimp only)); refine boxE (N := 3) (cs := #[.int .i64 a1_0, .slice A1_1 l1_1.length c1_1, .slice A1_2 l1_2.length c1_2, .slice A1_3 l1_3.length c1_3, .slice A1_4 l1_4.length c1_4]) (t := 33) ?_; intro gb102 hg w5 hbox hb; have BK102 := mk0 hbox; have GW102 := gwS HB hg; have GE102 := gwS HB hg; replace HB := hbS HB hb; have NB101_102 := neS BK101 hg; have NB102_101 := neT BK101 hg; replace BK101 := bkS BK101 hb; clear hb hbox hg))
 (try simp only [Act.put, List.setIfInBounds_toArray, List.set_cons_zero, List.set_cons_succ])
 go_cut [45] (fun v45 wc => ∃ (kq : Nat) (x45_2 : Bool), v45 = .bool x45_2 ∧ Aside0 (agateref10_Same.j0 kq x45_2 a0_0 l0_1 l0_2 l0_3 l0_4 a1_0 l1_1 l1_2 l1_3 l1_4 = some r) ∧ Aside0 (kq ≤ k) ∧ Aside0 (wc.heap[gb101]? = some (.cells #[.int .i64 a0_0, (.slice A0_1 l0_1.length c0_1), (.slice A0_2 l0_2.length c0_2), (.slice A0_3 l0_3.length c0_3), (.slice A0_4 l0_4.length c0_4)] 33 (0, 0))) ∧ Aside0 (wc.heap[gb102]? = some (.cells #[.int .i64 a1_0, (.slice A1_1 l1_1.length c1_1), (.slice A1_2 l1_2.length c1_2), (.slice A1_3 l1_3.length c1_3), (.slice A1_4 l1_4.length c1_4)] 33 (0, 0))) ∧ Aside0 (Below w.heap.size w wc))
 case first =>
  have H := HC3.out; clear HC3
  by_cases c6 : a0_0 = a1_0
  ·
   rw [if_pos c6] at H; have c6b0 := beq_iff_eq.mpr c6; have c6b1 := bne_eq_false_iff_eq.mpr c6; clear c6
   (first | rw [c6b0] | (simp only [i64_w, i32_w]; rw [c6b0]) | skip)
   replace H := bnd H; obtain ⟨t103, A7, H⟩ := H
   by_cases c8 : t103 = true
   ·
    subst c8; have H1 : ((agateref10_infos.f k l0_2 l1_2).bind fun t104 => (if t104 = true then (if (l0_3.length : Int) = (l1_3.length : Int) then (agateref10_Same.j0 k ((l0_4.length : Int) != (l1_4.length : Int)) a0_0 l0_1 l0_2 l0_3 l0_4 a1_0 l1_1 l1_2 l1_3 l1_4) else (agateref10_Same.j0 k true a0_0 l0_1 l0_2 l0_3 l0_4 a1_0 l1_1 l1_2 l1_3 l1_4)) else (agateref10_Same.j0 k true a0_0 l0_1 l0_2 l0_3 l0_4 a1_0 l1_1 l1_2 l1_3 l1_4))) = some r := by rw [if_pos rfl] at H; exact H
    clear H; have H := H1; clear H1; replace H := bnd H; obtain ⟨t104, A9, H⟩ := H
    by_cases c10 : t104 = true
    ·
     subst c10; have H1 : (if (l0_3.length : Int) = (l1_3.length : Int) then (agateref10_Same.j0 k ((l0_4.length : Int) != (l1_4.length : Int)) a0_0 l0_1 l0_2 l0_3 l0_4 a1_0 l1_1 l1_2 l1_3 l1_4) else (agateref10_Same.j0 k true a0_0 l0_1 l0_2 l0_3 l0_4 a1_0 l1_1 l1_2 l1_3 l1_4)) = some r := by rw [if_pos rfl] at H; exact H
     clear H; have H := H1; clear H1
     by_cases c11 : (l0_3.length : Int) = (l1_3.length : Int)
     ·
      rw [if_pos c11] at H; have c11b0 := beq_iff_eq.mpr c11; have c11b1 := bne_eq_false_iff_eq.mpr c11; have c11b2 : (l0_3.length == l1_3.length) = true := by first | simpa using c11 | (simp at c11 ⊢; omega)
      clear c11; have H' := mk0 H; clear H; have hnb12 := NB101_102.out; have hnc12 := NB102_101.out; obtain ⟨hcz13_0, hcz13_1, hcz13_2, hcz13_3, hcz13_4⟩ := cz5 BK101; have hfz13_0 := fz BK101 0; have hfz13_1 := fz BK101 1; have hfz13_2 := fz BK101 2; have hfz13_3 := fz BK101 3; have hfz13_4 := fz BK101 4; obtain ⟨hcz14_0, hcz14_1, hcz14_2, hcz14_3, hcz14_4⟩ := cz5 BK102; have hfz14_0 := fz BK102 0; have hfz14_1 := fz BK102 1; have hfz14_2 := fz BK102 2; have hfz14_3 := fz BK102 3; have hfz14_4 := fz BK102 4
      go_wp2_with (first | (go_at_call 22; (with_reducible refine (agateref10_infos.calls k _ _ l0_1 _ _ l1_1 true _ ?side1 ?side2 ?side3 ?side4 A7.out).mono ?_); (case side1 => repeat (first | exact (Kd.C_below HR0_1.out HB.out) | (with_reducible refine Kd.C_alloc ?_ _) | (with_reducible refine Kd.C_drewN ?_ _) | (with_reducible refine Kd.C_drew ?_))); (case side2 => exact HC0_1.out); (case side3 => repeat (first | exact (Kd.C_below HR1_1.out HB.out) | (with_reducible refine Kd.C_alloc ?_ _) | (with_reducible refine Kd.C_drewN ?_ _) | (with_reducible refine Kd.C_drew ?_))); (case side4 => exact HC1_1.out); rintro e w15 ⟨rfl, hb⟩; replace BK101 := bkS BK101 hb; replace BK102 := bkS BK102 hb; replace HB := hbS HB hb; (try clear hb); obtain ⟨hcz16_0, hcz16_1, hcz16_2, hcz16_3, hcz16_4⟩ := cz5 BK101; have hfz16_0 := fz BK101 0; have hfz16_1 := fz BK101 1; have hfz16_2 := fz BK101 2; have hfz16_3 := fz BK101 3; have hfz16_4 := fz BK101 4; obtain ⟨hcz17_0, hcz17_1, hcz17_2, hcz17_3, hcz17_4⟩ := cz5 BK102; have hfz17_0 := fz BK102 0; have hfz17_1 := fz BK102 1; have hfz17_2 := fz BK102 2; have hfz17_3 := fz BK102 3; have hfz17_4 := fz BK102 4) | (go_at_call 22; (with_reducible refine (agateref10_infos.calls k _ _ l0_2 _ _ l1_2 true _ ?side1 ?side2 ?side3 ?side4 A9.out).mono ?_); (case side1 => repeat (first | exact (Kd.C_below HR0_2.out HB.out) | (with_reducible refine Kd.C_alloc ?_ _) | (with_reducible refine Kd.C_drewN ?_ _) | (with_reducible refine Kd.C_drew ?_))); (case side2 => exact HC0_2.out); (case side3 => repeat (first | exact (Kd.C_below HR1_2.out HB.out) | (with_reducible refine Kd.C_alloc ?_ _) | (with_reducible refine Kd.C_drewN ?_ _) | (with_reducible refine Kd.C_drew ?_))); (case side4 => exact HC1_2.out); rintro e w18 ⟨rfl, hb⟩; replace BK101 := bkS BK101 hb; replace BK102 := bkS BK102 hb; replace HB := hbS HB hb; (try clear hb); obtain ⟨hcz19_0, hcz19_1, hcz19_2, hcz19_3, hcz19_4⟩ := cz5 BK101; have hfz19_0 := fz BK101 0; have hfz19_1 := fz BK101 1; have hfz19_2 := fz BK101 2; have hfz19_3 := fz BK101 3; have hfz19_4 := fz BK101 4; obtain ⟨hcz20_0, hcz20_1, hcz20_2, hcz20_3, hcz20_4⟩ := cz5 BK102; have hfz20_0 := fz BK102 0; have hfz20_1 := fz BK102 1; have hfz20_2 := fz BK102 2; have hfz20_3 := fz BK102 3; have hfz20_4 := blk_frozen BK102.out 4))
      go_meet
      case rel => exact ⟨_, (((l0_4.length : Int) != (l1_4.length : Int))), cl0, H', cl1, ⟨bkA BK101⟩, ⟨bkA BK102⟩, ⟨hbA HB⟩⟩
     ·
      rw [if_neg c11] at H; have c11b0 := beq_eq_false_iff_ne.mpr c11; have c11b1 := bne_iff_ne.mpr c11; have c11b2 : (l0_3.length == l1_3.length) = false := by first | simpa using c11 | (simp at c11 ⊢; omega)
      have H' := mk0 H; clear H; have hnb21 := NB101_102.out; have hnc21 := NB102_101.out; obtain ⟨hcz22_0, hcz22_1, hcz22_2, hcz22_3, hcz22_4⟩ := cz5 BK101; have hfz22_0 := fz BK101 0; have hfz22_1 := fz BK101 1; have hfz22_2 := fz BK101 2; have hfz22_3 := fz BK101 3; have hfz22_4 := fz BK101 4; obtain ⟨hcz23_0, hcz23_1, hcz23_2, hcz23_3, hcz23_4⟩ := cz5 BK102; have hfz23_0 := fz BK102 0; have hfz23_1 := fz BK102 1; have hfz23_2 := fz BK102 2; have hfz23_3 := fz BK102 3; have hfz23_4 := fz BK102 4
      go_wp2_with (first | (go_at_call 22; (with_reducible refine (agateref10_infos.calls k _ _ l0_1 _ _ l1_1 true _ ?side1 ?side2 ?side3 ?side4 A7.out).mono ?_); (case side1 => repeat (first | exact (Kd.C_below HR0_1.out HB.out) | (with_reducible refine Kd.C_alloc ?_ _) | (with_reducible refine Kd.C_drewN ?_ _) | (with_reducible refine Kd.C_drew ?_))); (case side2 => exact HC0_1.out); (case side3 => repeat (first | exact (Kd.C_below HR1_1.out HB.out) | (with_reducible refine Kd.C_alloc ?_ _) | (with_reducible refine Kd.C_drewN ?_ _) | (with_reducible refine Kd.C_drew ?_))); (case side4 => exact HC1_1.out); rintro e w24 ⟨rfl, hb⟩; replace BK101 := bkS BK101 hb; replace BK102 := bkS BK102 hb; replace HB := hbS HB hb; (try clear hb); obtain ⟨hcz25_0, hcz25_1, hcz25_2, hcz25_3, hcz25_4⟩ := cz5 BK101; have hfz25_0 := fz BK101 0; have hfz25_1 := fz BK101 1; have hfz25_2 := fz BK101 2; have hfz25_3 := fz BK101 3; have hfz25_4 := fz BK101 4; obtain ⟨hcz26_0, hcz26_1, hcz26_2, hcz26_3, hcz26_4⟩ := cz5 BK102; have hfz26_0 := fz BK102 0; have hfz26_1 := fz BK102 1; have hfz26_2 := fz BK102 2; have hfz26_3 := fz BK102 3; have hfz26_4 := fz BK102 4) | (go_at_call 22; (with_reducible refine (agateref10_infos.calls k _ _ l0_2 _ _ l1_2 true _ ?side1 ?side2 ?side3 ?side4 A9.out).mono ?_); (case side1 => repeat (first | exact (Kd.C_below HR0_2.out HB.out) | (with_reducible refine Kd.C_alloc ?_ _) | (with_reducible refine Kd.C_drewN ?_ _) | (with_reducible refine Kd.C_drew ?_))); (case side2 => exact HC0_2.out); (case side3 => repeat (first | exact (Kd.C_below HR1_2.out HB.out) | (with_reducible refine Kd.C_alloc ?_ _) | (with_reducible refine Kd.C_drewN ?_ _) | (with_reducible refine Kd.C_drew ?_))); (case side4 => exact HC1_2.out); rintro e w27 ⟨rfl, hb⟩; replace BK101 := bkS BK101 hb; replace BK102 := bkS BK102 hb; replace HB := hbS HB hb; (try clear hb); obtain ⟨hcz28_0, hcz28_1, hcz28_2, hcz28_3, hcz28_4⟩ := cz5 BK101; have hfz28_0 := fz BK101 0; have hfz28_1 := fz BK101 1; have hfz28_2 := fz BK101 2; have hfz28_3 := fz BK101 3; have hfz28_4 := fz BK101 4; obtain ⟨hcz29_0, hcz29_1, hcz29_2, hcz29_3, hcz29_4⟩ := cz5 BK102; have hfz29_0 := fz BK102 0; have hfz29_1 := fz BK102 1; have hfz29_2 := fz BK102 2; have hfz29_3 := fz BK102 3; have hfz29_4 := blk_frozen BK102.out 4))
      go_meet
      case rel => exact ⟨_, (true), cl0, H', cl1, ⟨bkA BK101⟩, ⟨bkA BK102⟩, ⟨hbA HB⟩⟩
    ·
     replace c10 := Bool.eq_false_iff.mpr c10; subst c10; have H1 : (agateref10_Same.j0 k true a0_0 l0_1 l0_2 l0_3 l0_4 a1_0 l1_1 l1_2 l1_3 l1_4) = some r := by rw [if_neg (show ¬ (false = true) by decide)] at H; exact H
     clear H; have H := H1; clear H1; have H' := mk0 H; clear H; have hnb30 := NB101_102.out; have hnc30 := NB102_101.out; obtain ⟨hcz31_0, hcz31_1, hcz31_2, hcz31_3, hcz31_4⟩ := cz5 BK101; have hfz31_0 := fz BK101 0; have hfz31_1 := fz BK101 1; have hfz31_2 := fz BK101 2; have hfz31_3 := fz BK101 3; have hfz31_4 := fz BK101 4; obtain ⟨hcz32_0, hcz32_1, hcz32_2, hcz32_3, hcz32_4⟩ := cz5 BK102; have hfz32_0 := fz BK102 0; have hfz32_1 := fz BK102 1; have hfz32_2 := fz BK102 2; have hfz32_3 := fz BK102 3; have hfz32_4 := fz BK102 4
     go_wp2_with (first | (go_at_call 22; (with_reducible refine (agateref10_infos.calls k _ _ l0_1 _ _ l1_1 true _ ?side1 ?side2 ?side3 ?side4 A7.out).mono ?_); (case side1 => repeat (first | exact (Kd.C_below HR0_1.out HB.out) | (with_reducible refine Kd.C_alloc ?_ _) | (with_reducible refine Kd.C_drewN ?_ _) | (with_reducible refine Kd.C_drew ?_))); (case side2 => exact HC0_1.out); (case side3 => repeat (first | exact (Kd.C_below HR1_1.out HB.out) | (with_reducible refine Kd.C_alloc ?_ _) | (with_reducible refine Kd.C_drewN ?_ _) | (with_reducible refine Kd.C_drew ?_))); (case side4 => exact HC1_1.out); rintro e w33 ⟨rfl, hb⟩; replace BK101 := bkS BK101 hb; replace BK102 := bkS BK102 hb; replace HB := hbS HB hb; (try clear hb); obtain ⟨hcz34_0, hcz34_1, hcz34_2, hcz34_3, hcz34_4⟩ := cz5 BK101; have hfz34_0 := fz BK101 0; have hfz34_1 := fz BK101 1; have hfz34_2 := fz BK101 2; have hfz34_3 := fz BK101 3; have hfz34_4 := fz BK101 4; obtain ⟨hcz35_0, hcz35_1, hcz35_2, hcz35_3, hcz35_4⟩ := cz5 BK102; have hfz35_0 := fz BK102 0; have hfz35_1 := fz BK102 1; have hfz35_2 := fz BK102 2; have hfz35_3 := fz BK102 3; have hfz35_4 := fz BK102 4) | (go_at_call 22; (with_reducible refine (agateref10_infos.calls k _ _ l0_2 _ _ l1_2 false _ ?side1 ?side2 ?side3 ?side4 A9.out).mono ?_); (case side1 => repeat (first | exact (Kd.C_below HR0_2.out HB.out) | (with_reducible refine Kd.C_alloc ?_ _) | (with_reducible refine Kd.C_drewN ?_ _) | (with_reducible refine Kd.C_drew ?_))); (case side2 => exact HC0_2.out); (case side3 => repeat (first | exact (Kd.C_below HR1_2.out HB.out) | (with_reducible refine Kd.C_alloc ?_ _) | (with_reducible refine Kd.C_drewN ?_ _) | (with_reducible refine Kd.C_drew ?_))); (case side4 => exact HC1_2.out); rintro e w36 ⟨rfl, hb⟩; replace BK101 := bkS BK101 hb; replace BK102 := bkS BK102 hb; replace HB := hbS HB hb; (try clear hb)))
     go_meet
     case rel => exact ⟨_, (true), cl0, H', cl1, ⟨bkA BK101⟩, ⟨bkA BK102⟩, ⟨hbA HB⟩⟩
   ·
    replace c8 := Bool.eq_false_iff.mpr c8; subst c8; have H1 : (agateref10_Same.j0 k true a0_0 l0_1 l0_2 l0_3 l0_4 a1_0 l1_1 l1_2 l1_3 l1_4) = some r := by rw [if_neg (show ¬ (false = true) by decide)] at H; exact H
    clear H; have H := H1; clear H1; have H' := mk0 H; clear H; have hnb37 := NB101_102.out; have hnc37 := NB102_101.out; obtain ⟨hcz38_0, hcz38_1, hcz38_2, hcz38_3, hcz38_4⟩ := cz5 BK101; have hfz38_0 := fz BK101 0; have hfz38_1 := fz BK101 1; have hfz38_2 := fz BK101 2; have hfz38_3 := fz BK101 3; have hfz38_4 := fz BK101 4; obtain ⟨hcz39_0, hcz39_1, hcz39_2, hcz39_3, hcz39_4⟩ := cz5 BK102; have hfz39_0 := fz BK102 0; have hfz39_1 := fz BK102 1; have hfz39_2 := fz BK102 2; have hfz39_3 := fz BK102 3; have hfz39_4 := fz BK102 4
    go_wp2_with (first | (go_at_call 22; (with_reducible refine (agateref10_infos.calls k _ _ l0_1 _ _ l1_1 false _ ?side1 ?side2 ?side3 ?side4 A7.out).mono ?_); (case side1 => repeat (first | exact (Kd.C_below HR0_1.out HB.out) | (with_reducible refine Kd.C_alloc ?_ _) | (with_reducible refine Kd.C_drewN ?_ _) | (with_reducible refine Kd.C_drew ?_))); (case side2 => exact HC0_1.out); (case side3 => repeat (first | exact (Kd.C_below HR1_1.out HB.out) | (with_reducible refine Kd.C_alloc ?_ _) | (with_reducible refine Kd.C_drewN ?_ _) | (with_reducible refine Kd.C_drew ?_))); (case side4 => exact HC1_1.out); rintro e w40 ⟨rfl, hb⟩; replace BK101 := bkS BK101 hb; replace BK102 := bkS BK102 hb; replace HB := hbS HB hb; (try clear hb)))
    go_meet
    case rel => exact ⟨_, (true), cl0, H', cl1, ⟨bkA BK101⟩, ⟨bkA BK102⟩, ⟨hbA HB⟩⟩
  ·
   rw [if_neg c6] at H; have c6b0 := beq_eq_false_iff_ne.mpr c6; have c6b1 := bne_iff_ne.mpr c6
   (first | rw [c6b0] | (simp only [i64_w, i32_w]; rw [c6b0]) | skip)
   have H' := mk0 H; clear H; have hnb41 := NB101_102.out; have hnc41 := NB102_101.out; obtain ⟨hcz42_0, hcz42_1, hcz42_2, hcz42_3, hcz42_4⟩ := cz5 BK101; have hfz42_0 := fz BK101 0; have hfz42_1 := fz BK101 1; have hfz42_2 := fz BK101 2; have hfz42_3 := fz BK101 3; have hfz42_4 := fz BK101 4; obtain ⟨hcz43_0, hcz43_1, hcz43_2, hcz43_3, hcz43_4⟩ := cz5 BK102; have hfz43_0 := fz BK102 0; have hfz43_1 := fz BK102 1; have hfz43_2 := fz BK102 2; have hfz43_3 := fz BK102 3; have hfz43_4 := fz BK102 4
   go_wp2
   go_meet
   case rel => exact ⟨_, (true), cl0, H', cl1, ⟨bkA BK101⟩, ⟨bkA BK102⟩, ⟨hbA HB⟩⟩
 case rest =>
  clear HC3; obtain ⟨kq, x45_2, rfl, HA, HJ2, BK101, BK102, HB⟩ := hcut
  cases kq with
  | zero => exact absurd HA.out (by simp [agateref10_Same.j0])
  | succ kj2 =>
   have H := HA.out; clear HA
   simp only [agateref10_Same.j0] at H
   by_cases c44 : x45_2 = true
   ·
    subst c44; have H1 : (some false) = some r := by rw [if_pos rfl] at H; exact H
    clear H; have H := H1; clear H1; obtain rfl := Option.some.inj H
    go_wp2
    go_ret
    exact ⟨cl3, hbA HB⟩
   ·
    replace c44 := Bool.eq_false_iff.mpr c44; subst c44; have H1 : (agateref10_Same.l0 kj2 0 a0_0 l0_1 l0_2 l0_3 l0_4 a1_0 l1_1 l1_2 l1_3 l1_4) = some r := by rw [if_neg (show ¬ (false = true) by decide)] at H; exact H
    clear H; have H := H1; clear H1; have H' := mk0 H; clear H
    go_wp2
    go_loopg [5] kj2 (fun kq v5 w' => ∃ (x5_2 : Int), v5 = .int .i64 x5_2 ∧ Aside0 (agateref10_Same.l0 kq x5_2 a0_0 l0_1 l0_2 l0_3 l0_4 a1_0 l1_1 l1_2 l1_3 l1_4 = some r) ∧ Aside0 (kq ≤ kj2) ∧ Aside0 (w'.heap[gb101]? = some (.cells #[.int .i64 a0_0, (.slice A0_1 l0_1.length c0_1), (.slice A0_2 l0_2.length c0_2), (.slice A0_3 l0_3.length c0_3), (.slice A0_4 l0_4.length c0_4)] 33 (0, 0))) ∧ Aside0 (w'.heap[gb102]? = some (.cells #[.int .i64 a1_0, (.slice A1_1 l1_1.length c1_1), (.slice A1_2 l1_2.length c1_2), (.slice A1_3 l1_3.length c1_3), (.slice A1_4 l1_4.length c1_4)] 33 (0, 0))) ∧ Aside0 (Below w.heap.size w w'))
    case atStart => exact ⟨(0), cl0, H', ⟨Nat.le_refl _⟩, ⟨bkA BK101⟩, ⟨bkA BK102⟩, ⟨hbA HB⟩⟩
    case round =>
     clear H'; obtain ⟨x5_2, rfl, HA, HK2, BK101, BK102, HB⟩ := hrel
     cases gk with
     | zero => exact absurd HA.out (by simp [agateref10_Same.l0])
     | succ k2 =>
      have H := HA.out; clear HA
      simp only [agateref10_Same.l0] at H
      by_cases c45 : x5_2 < (l0_3.length : Int)
      ·
       rw [if_pos c45] at H; have c45b0 := decide_eq_true c45; clear c45; replace H := ifS H; obtain ⟨c46, H⟩ := H; have c46b0 := decide_eq_true c46; clear c46; replace H := ifS H; obtain ⟨c47, H⟩ := H; have c47b0 := decide_eq_true c47; clear c47; replace H := bnd H; obtain ⟨t107, A48, H⟩ := H
       by_cases c49 : t107 = true
       ·
        subst c49; have H1 : (agateref10_Same.l0 k2 (wrap64 (x5_2 + 1)) a0_0 l0_1 l0_2 l0_3 l0_4 a1_0 l1_1 l1_2 l1_3 l1_4) = some r := by rw [if_pos rfl] at H; exact H
        clear H; have H := H1; clear H1; have H' := mk0 H; clear H; have hnb50 := NB101_102.out; have hnc50 := NB102_101.out; obtain ⟨hcz51_0, hcz51_1, hcz51_2, hcz51_3, hcz51_4⟩ := cz5 BK101; have hfz51_0 := fz BK101 0; have hfz51_1 := fz BK101 1; have hfz51_2 := fz BK101 2; have hfz51_3 := fz BK101 3; have hfz51_4 := fz BK101 4
        try go_wp2
        replace BK101 := mk0 (blk_drew BK101.out); replace BK102 := mk0 (blk_drew BK102.out); replace HB := mk0 (below_drew1 HB.out); have p105 : 0 ≤ (x5_2 : Int) := ofd; have q105 : x5_2 < (l0_3.length : Int) := ofd; obtain ⟨ad105, A105_2, c105_2, e105, hx105_0, hx105_1, hx105_2, hx105_3, hl105_2, hi105_2⟩ := at_T55 HR0_3.out x5_2 p105 q105; have hw105_3 := hx105_3; have hw105_2 := hx105_2; have hw105_1 := hx105_1; have hw105_0 := hx105_0; cases e105; replace hx105_0 := hbc HB hx105_0; replace hx105_1 := hbc HB hx105_1; replace hx105_2 := hbc HB hx105_2; replace hx105_3 := hbc HB hx105_3; have HR105_2 := mk0 hi105_2; have HC105_2 := mk0 hl105_2; clear hi105_2 hl105_2; replace p105 := eq_true p105; replace q105 := eq_true q105; have p106 : 0 ≤ (x5_2 : Int) := ofd; have q106 : x5_2 < (l1_3.length : Int) := ofd; obtain ⟨ad106, A106_2, c106_2, e106, hx106_0, hx106_1, hx106_2, hx106_3, hl106_2, hi106_2⟩ := at_T55 HR1_3.out x5_2 p106 q106; have hw106_3 := hx106_3; have hw106_2 := hx106_2; have hw106_1 := hx106_1; have hw106_0 := hx106_0; cases e106; replace hx106_0 := hbc HB hx106_0; replace hx106_1 := hbc HB hx106_1; replace hx106_2 := hbc HB hx106_2; replace hx106_3 := hbc HB hx106_3; have HR106_2 := mk0 hi106_2; have HC106_2 := mk0 hl106_2; clear hi106_2 hl106_2; replace p106 := eq_true p106; replace q106 := eq_true q106
        refine start_ (n := 12) (S := fun w' => w'.cell? ⟨gb101, 0, none⟩ = some (.int .i64 a0_0) ∧ w'.cell? ⟨gb101, 1, none⟩ = some (.slice A0_1 l0_1.length c0_1) ∧ w'.cell? ⟨gb101, 2, none⟩ = some (.slice A0_2 l0_2.length c0_2) ∧ w'.cell? ⟨gb101, 3, none⟩ = some (.slice (some ad105) l0_3.length c0_3) ∧ w'.cell? ⟨gb101, 4, none⟩ = some (.slice A0_4 l0_4.length c0_4) ∧ w'.cell? ⟨gb102, 0, none⟩ = some (.int .i64 a1_0) ∧ w'.cell? ⟨gb102, 1, none⟩ = some (.slice A1_1 l1_1.length c1_1) ∧ w'.cell? ⟨gb102, 2, none⟩ = some (.slice A1_2 l1_2.length c1_2) ∧ w'.cell? ⟨gb102, 3, none⟩ = some (.slice (some ad106) l1_3.length c1_3) ∧ w'.cell? ⟨gb102, 4, none⟩ = some (.slice A1_4 l1_4.length c1_4) ∧ w'.cell? (ad105.add ((x5_2).toNat * 4)) = some (.string ((rd_T55 l0_3 x5_2).f0)) ∧ w'.cell? ⟨(ad105.add ((x5_2).toNat * 4)).block, (ad105.add ((x5_2).toNat * 4)).off + 1, none⟩ = some (.int .i64 ((rd_T55 l0_3 x5_2).f1)) ∧ w'.cell? ⟨(ad105.add ((x5_2).toNat * 4)).block, (ad105.add ((x5_2).toNat * 4)).off + 2, none⟩ = some (.slice A105_2 ((rd_T55 l0_3 x5_2).f2).length c105_2) ∧ w'.cell? ⟨(ad105.add ((x5_2).toNat * 4)).block, (ad105.add ((x5_2).toNat * 4)).off + 3, none⟩ = some (.string ((rd_T55 l0_3 x5_2).f3)) ∧ w'.cell? (ad106.add ((x5_2).toNat * 4)) = some (.string ((rd_T55 l1_3 x5_2).f0)) ∧ w'.cell? ⟨(ad106.add ((x5_2).toNat * 4)).block, (ad106.add ((x5_2).toNat * 4)).off + 1, none⟩ = some (.int .i64 ((rd_T55 l1_3 x5_2).f1)) ∧ w'.cell? ⟨(ad106.add ((x5_2).toNat * 4)).block, (ad106.add ((x5_2).toNat * 4)).off + 2, none⟩ = some (.slice A106_2 ((rd_T55 l1_3 x5_2).f2).length c106_2) ∧ w'.cell? ⟨(ad106.add ((x5_2).toNat * 4)).block, (ad106.add ((x5_2).toNat * 4)).off + 3, none⟩ = some (.string ((rd_T55 l1_3 x5_2).f3))) (ds := []) (bA 12 0) (by kernel_rfl) rfl rfl ⟨bcA BK101 0, bcA BK101 1, bcA BK101 2, bcA BK101 3, bcA BK101 4, bcA BK102 0, bcA BK102 1, bcA BK102 2, bcA BK102 3, bcA BK102 4, ((HB.out.cell (World.block_lt_of_cell? w _ hw105_0)).trans hw105_0), ((HB.out.cell (World.block_lt_of_cell? w _ hw105_1)).trans hw105_1), ((HB.out.cell (World.block_lt_of_cell? w _ hw105_2)).trans hw105_2), ((HB.out.cell (World.block_lt_of_cell? w _ hw105_3)).trans hw105_3), ((HB.out.cell (World.block_lt_of_cell? w _ hw106_0)).trans hw106_0), ((HB.out.cell (World.block_lt_of_cell? w _ hw106_1)).trans hw106_1), ((HB.out.cell (World.block_lt_of_cell? w _ hw106_2)).trans hw106_2), ((HB.out.cell (World.block_lt_of_cell? w _ hw106_3)).trans hw106_3)⟩ (fun hHeld => ?_); refine with_tabW agateref10_Same.tab6 agateref10_Same.bits6 (fun HT_ HW_ => ?_)
        generalize wr.drew = w52 at BK101 BK102 HB HR105_2 HR106_2 hx105_0 hx105_1 hx105_2 hx105_3 hx106_0 hx106_1 hx106_2 hx106_3 hHeld ⊢
        refine puE (i := 0) (N := some 53) (bA 12 1) HT_ ?_
        refine puE (i := 2) (N := some 55) (bA 12 5) HT_ ?_
        refine puE (i := 5) (N := some 58) (bA 12 37) HT_ ?_
        refine puE (i := 7) (N := some 60) (bA 12 165) HT_ ?_
        refine taE (i := 1) (N := some 54) (bA 12 167) HT_ HW_ hHeld ?_
        refine puE (i := 3) (N := some 56) (bA 12 175) HT_ ?_
        refine taE (i := 4) (N := some 57) (bA 12 191) HT_ HW_ hHeld ?_
        refine taE (i := 6) (N := some 59) (bA 12 255) HT_ HW_ hHeld ?_
        refine puE (i := 8) (N := some 61) (bA 12 511) HT_ ?_
        refine taE (i := 9) (N := some 62) (bA 12 1023) HT_ HW_ hHeld ?_
        refine one_ (i := 10) (N := some 63) (bA 12 2047) rfl rfl (one_of HT_.out (by kernel_rfl)) (by decide) (fun K hK => ?_)
        refine goE Try.func23 (by kernel_rfl) rfl #[.agg #[.string ((rd_T55 l0_3 x5_2).f0), .int .i64 ((rd_T55 l0_3 x5_2).f1), .slice A105_2 ((rd_T55 l0_3 x5_2).f2).length c105_2, .string ((rd_T55 l0_3 x5_2).f3)], .agg #[.string ((rd_T55 l1_3 x5_2).f0), .int .i64 ((rd_T55 l1_3 x5_2).f1), .slice A106_2 ((rd_T55 l1_3 x5_2).f2).length c106_2, .string ((rd_T55 l1_3 x5_2).f3)]] (by rfl) rfl rfl ?_
        with_reducible refine (agateref07_Same_s.calls ((rd_T55 l0_3 x5_2).f0) ((rd_T55 l0_3 x5_2).f1) _ _ ((rd_T55 l0_3 x5_2).f2) ((rd_T55 l0_3 x5_2).f3) ((rd_T55 l1_3 x5_2).f0) ((rd_T55 l1_3 x5_2).f1) _ _ ((rd_T55 l1_3 x5_2).f2) ((rd_T55 l1_3 x5_2).f3) true _ ?side1 ?side2 ?side3 ?side4 A48.out).mono ?_
        (case side1 => repeat (first | exact (Kd.C_below HR105_2.out HB.out) | (with_reducible refine Kd.C_alloc ?_ _) | (with_reducible refine Kd.C_drewN ?_ _) | (with_reducible refine Kd.C_drew ?_)))
        (case side2 => exact HC105_2.out)
        (case side3 => repeat (first | exact (Kd.C_below HR106_2.out HB.out) | (with_reducible refine Kd.C_alloc ?_ _) | (with_reducible refine Kd.C_drewN ?_ _) | (with_reducible refine Kd.C_drew ?_)))
        (case side4 => exact HC106_2.out)
        rintro e w53 ⟨rfl, hb⟩
        refine ⟨_, rfl, ?_⟩
        replace BK101 := bkS BK101 hb; replace BK102 := bkS BK102 hb; replace HB := hbS HB hb; try clear hb
        refine hK.out _ _ ⟨bcA BK101 0, bcA BK101 1, bcA BK101 2, bcA BK101 3, bcA BK101 4, bcA BK102 0, bcA BK102 1, bcA BK102 2, bcA BK102 3, bcA BK102 4, ((HB.out.cell (World.block_lt_of_cell? w _ hw105_0)).trans hw105_0), ((HB.out.cell (World.block_lt_of_cell? w _ hw105_1)).trans hw105_1), ((HB.out.cell (World.block_lt_of_cell? w _ hw105_2)).trans hw105_2), ((HB.out.cell (World.block_lt_of_cell? w _ hw105_3)).trans hw105_3), ((HB.out.cell (World.block_lt_of_cell? w _ hw106_0)).trans hw106_0), ((HB.out.cell (World.block_lt_of_cell? w _ hw106_1)).trans hw106_1), ((HB.out.cell (World.block_lt_of_cell? w _ hw106_2)).trans hw106_2), ((HB.out.cell (World.block_lt_of_cell? w _ hw106_3)).trans hw106_3)⟩ (fun hHeld => ?_)
        clear hK K
        refine noE 63 ?_
        refine puE (i := 11) (N := some 64) (bA 12 4095) HT_ ?_
        refine done_ (done_of HT_.out (by kernel_rfl)) ?_
        try go_wp2
        go_roundg k2
        case measure => have := HJ2.out; have := HK2.out; omega
        case rel => exact ⟨(wrap64 (x5_2 + 1)), cl0, H', ⟨by have := HJ2.out; have := HK2.out; omega⟩, ⟨bkA BK101⟩, ⟨bkA BK102⟩, ⟨hbA HB⟩⟩
       ·
        replace c49 := Bool.eq_false_iff.mpr c49; subst c49; have H1 : (some false) = some r := by rw [if_neg (show ¬ (false = true) by decide)] at H; exact H
        clear H; have H := H1; clear H1; obtain rfl := Option.some.inj H; have hnb54 := NB101_102.out; have hnc54 := NB102_101.out; obtain ⟨hcz55_0, hcz55_1, hcz55_2, hcz55_3, hcz55_4⟩ := cz5 BK101; have hfz55_0 := fz BK101 0; have hfz55_1 := fz BK101 1; have hfz55_2 := fz BK101 2; have hfz55_3 := fz BK101 3; have hfz55_4 := fz BK101 4
        try go_wp2
        replace BK101 := mk0 (blk_drew BK101.out); replace BK102 := mk0 (blk_drew BK102.out); replace HB := mk0 (below_drew1 HB.out); have p105 : 0 ≤ (x5_2 : Int) := ofd; have q105 : x5_2 < (l0_3.length : Int) := ofd; obtain ⟨ad105, A105_2, c105_2, e105, hx105_0, hx105_1, hx105_2, hx105_3, hl105_2, hi105_2⟩ := at_T55 HR0_3.out x5_2 p105 q105; have hw105_3 := hx105_3; have hw105_2 := hx105_2; have hw105_1 := hx105_1; have hw105_0 := hx105_0; cases e105; replace hx105_0 := hbc HB hx105_0; replace hx105_1 := hbc HB hx105_1; replace hx105_2 := hbc HB hx105_2; replace hx105_3 := hbc HB hx105_3; have HR105_2 := mk0 hi105_2; have HC105_2 := mk0 hl105_2; clear hi105_2 hl105_2; replace p105 := eq_true p105; replace q105 := eq_true q105; have p106 : 0 ≤ (x5_2 : Int) := ofd; have q106 : x5_2 < (l1_3.length : Int) := ofd; obtain ⟨ad106, A106_2, c106_2, e106, hx106_0, hx106_1, hx106_2, hx106_3, hl106_2, hi106_2⟩ := at_T55 HR1_3.out x5_2 p106 q106; have hw106_3 := hx106_3; have hw106_2 := hx106_2; have hw106_1 := hx106_1; have hw106_0 := hx106_0; cases e106; replace hx106_0 := hbc HB hx106_0; replace hx106_1 := hbc HB hx106_1; replace hx106_2 := hbc HB hx106_2; replace hx106_3 := hbc HB hx106_3; have HR106_2 := mk0 hi106_2; have HC106_2 := mk0 hl106_2; clear hi106_2 hl106_2; replace p106 := eq_true p106; replace q106 := eq_true q106
        refine start_ (n := 12) (S := fun w' => w'.cell? ⟨gb101, 0, none⟩ = some (.int .i64 a0_0) ∧ w'.cell? ⟨gb101, 1, none⟩ = some (.slice A0_1 l0_1.length c0_1) ∧ w'.cell? ⟨gb101, 2, none⟩ = some (.slice A0_2 l0_2.length c0_2) ∧ w'.cell? ⟨gb101, 3, none⟩ = some (.slice (some ad105) l0_3.length c0_3) ∧ w'.cell? ⟨gb101, 4, none⟩ = some (.slice A0_4 l0_4.length c0_4) ∧ w'.cell? ⟨gb102, 0, none⟩ = some (.int .i64 a1_0) ∧ w'.cell? ⟨gb102, 1, none⟩ = some (.slice A1_1 l1_1.length c1_1) ∧ w'.cell? ⟨gb102, 2, none⟩ = some (.slice A1_2 l1_2.length c1_2) ∧ w'.cell? ⟨gb102, 3, none⟩ = some (.slice (some ad106) l1_3.length c1_3) ∧ w'.cell? ⟨gb102, 4, none⟩ = some (.slice A1_4 l1_4.length c1_4) ∧ w'.cell? (ad105.add ((x5_2).toNat * 4)) = some (.string ((rd_T55 l0_3 x5_2).f0)) ∧ w'.cell? ⟨(ad105.add ((x5_2).toNat * 4)).block, (ad105.add ((x5_2).toNat * 4)).off + 1, none⟩ = some (.int .i64 ((rd_T55 l0_3 x5_2).f1)) ∧ w'.cell? ⟨(ad105.add ((x5_2).toNat * 4)).block, (ad105.add ((x5_2).toNat * 4)).off + 2, none⟩ = some (.slice A105_2 ((rd_T55 l0_3 x5_2).f2).length c105_2) ∧ w'.cell? ⟨(ad105.add ((x5_2).toNat * 4)).block, (ad105.add ((x5_2).toNat * 4)).off + 3, none⟩ = some (.string ((rd_T55 l0_3 x5_2).f3)) ∧ w'.cell? (ad106.add ((x5_2).toNat * 4)) = some (.string ((rd_T55 l1_3 x5_2).f0)) ∧ w'.cell? ⟨(ad106.add ((x5_2).toNat * 4)).block, (ad106.add ((x5_2).toNat * 4)).off + 1, none⟩ = some (.int .i64 ((rd_T55 l1_3 x5_2).f1)) ∧ w'.cell? ⟨(ad106.add ((x5_2).toNat * 4)).block, (ad106.add ((x5_2).toNat * 4)).off + 2, none⟩ = some (.slice A106_2 ((rd_T55 l1_3 x5_2).f2).length c106_2) ∧ w'.cell? ⟨(ad106.add ((x5_2).toNat * 4)).block, (ad106.add ((x5_2).toNat * 4)).off + 3, none⟩ = some (.string ((rd_T55 l1_3 x5_2).f3))) (ds := []) (bA 12 0) (by kernel_rfl) rfl rfl ⟨bcA BK101 0, bcA BK101 1, bcA BK101 2, bcA BK101 3, bcA BK101 4, bcA BK102 0, bcA BK102 1, bcA BK102 2, bcA BK102 3, bcA BK102 4, ((HB.out.cell (World.block_lt_of_cell? w _ hw105_0)).trans hw105_0), ((HB.out.cell (World.block_lt_of_cell? w _ hw105_1)).trans hw105_1), ((HB.out.cell (World.block_lt_of_cell? w _ hw105_2)).trans hw105_2), ((HB.out.cell (World.block_lt_of_cell? w _ hw105_3)).trans hw105_3), ((HB.out.cell (World.block_lt_of_cell? w _ hw106_0)).trans hw106_0), ((HB.out.cell (World.block_lt_of_cell? w _ hw106_1)).trans hw106_1), ((HB.out.cell (World.block_lt_of_cell? w _ hw106_2)).trans hw106_2), ((HB.out.cell (World.block_lt_of_cell? w _ hw106_3)).trans hw106_3)⟩ (fun hHeld => ?_); refine with_tabW agateref10_Same.tab6 agateref10_Same.bits6 (fun HT_ HW_ => ?_)
        generalize wr.drew = w56 at BK101 BK102 HB HR105_2 HR106_2 hx105_0 hx105_1 hx105_2 hx105_3 hx106_0 hx106_1 hx106_2 hx106_3 hHeld ⊢
        refine puE (i := 0) (N := some 53) (bA 12 1) HT_ ?_
        refine puE (i := 2) (N := some 55) (bA 12 5) HT_ ?_
        refine puE (i := 5) (N := some 58) (bA 12 37) HT_ ?_
        refine puE (i := 7) (N := some 60) (bA 12 165) HT_ ?_
        refine taE (i := 1) (N := some 54) (bA 12 167) HT_ HW_ hHeld ?_
        refine puE (i := 3) (N := some 56) (bA 12 175) HT_ ?_
        refine taE (i := 4) (N := some 57) (bA 12 191) HT_ HW_ hHeld ?_
        refine taE (i := 6) (N := some 59) (bA 12 255) HT_ HW_ hHeld ?_
        refine puE (i := 8) (N := some 61) (bA 12 511) HT_ ?_
        refine taE (i := 9) (N := some 62) (bA 12 1023) HT_ HW_ hHeld ?_
        refine one_ (i := 10) (N := some 63) (bA 12 2047) rfl rfl (one_of HT_.out (by kernel_rfl)) (by decide) (fun K hK => ?_)
        refine goE Try.func23 (by kernel_rfl) rfl #[.agg #[.string ((rd_T55 l0_3 x5_2).f0), .int .i64 ((rd_T55 l0_3 x5_2).f1), .slice A105_2 ((rd_T55 l0_3 x5_2).f2).length c105_2, .string ((rd_T55 l0_3 x5_2).f3)], .agg #[.string ((rd_T55 l1_3 x5_2).f0), .int .i64 ((rd_T55 l1_3 x5_2).f1), .slice A106_2 ((rd_T55 l1_3 x5_2).f2).length c106_2, .string ((rd_T55 l1_3 x5_2).f3)]] (by rfl) rfl rfl ?_
        with_reducible refine (agateref07_Same_s.calls ((rd_T55 l0_3 x5_2).f0) ((rd_T55 l0_3 x5_2).f1) _ _ ((rd_T55 l0_3 x5_2).f2) ((rd_T55 l0_3 x5_2).f3) ((rd_T55 l1_3 x5_2).f0) ((rd_T55 l1_3 x5_2).f1) _ _ ((rd_T55 l1_3 x5_2).f2) ((rd_T55 l1_3 x5_2).f3) false _ ?side1 ?side2 ?side3 ?side4 A48.out).mono ?_
        (case side1 => repeat (first | exact (Kd.C_below HR105_2.out HB.out) | (with_reducible refine Kd.C_alloc ?_ _) | (with_reducible refine Kd.C_drewN ?_ _) | (with_reducible refine Kd.C_drew ?_)))
        (case side2 => exact HC105_2.out)
        (case side3 => repeat (first | exact (Kd.C_below HR106_2.out HB.out) | (with_reducible refine Kd.C_alloc ?_ _) | (with_reducible refine Kd.C_drewN ?_ _) | (with_reducible refine Kd.C_drew ?_)))
        (case side4 => exact HC106_2.out)
        rintro e w57 ⟨rfl, hb⟩
        refine ⟨_, rfl, ?_⟩
        replace BK101 := bkS BK101 hb; replace BK102 := bkS BK102 hb; replace HB := hbS HB hb; try clear hb
        refine hK.out _ _ ⟨bcA BK101 0, bcA BK101 1, bcA BK101 2, bcA BK101 3, bcA BK101 4, bcA BK102 0, bcA BK102 1, bcA BK102 2, bcA BK102 3, bcA BK102 4, ((HB.out.cell (World.block_lt_of_cell? w _ hw105_0)).trans hw105_0), ((HB.out.cell (World.block_lt_of_cell? w _ hw105_1)).trans hw105_1), ((HB.out.cell (World.block_lt_of_cell? w _ hw105_2)).trans hw105_2), ((HB.out.cell (World.block_lt_of_cell? w _ hw105_3)).trans hw105_3), ((HB.out.cell (World.block_lt_of_cell? w _ hw106_0)).trans hw106_0), ((HB.out.cell (World.block_lt_of_cell? w _ hw106_1)).trans hw106_1), ((HB.out.cell (World.block_lt_of_cell? w _ hw106_2)).trans hw106_2), ((HB.out.cell (World.block_lt_of_cell? w _ hw106_3)).trans hw106_3)⟩ (fun hHeld => ?_)
        clear hK K
        refine noE 63 ?_
        refine puE (i := 11) (N := some 64) (bA 12 4095) HT_ ?_
        refine done_ (done_of HT_.out (by kernel_rfl)) ?_
        try go_wp2
        go_ret
        exact ⟨cl3, hbA HB⟩
      ·
       rw [if_neg c45] at H; have c45b0 := decide_eq_false c45; clear c45; have H' := mk0 H; clear H; have hnb58 := NB101_102.out; have hnc58 := NB102_101.out; obtain ⟨hcz59_0, hcz59_1, hcz59_2, hcz59_3, hcz59_4⟩ := cz5 BK101; have hfz59_0 := fz BK101 0; have hfz59_1 := fz BK101 1; have hfz59_2 := fz BK101 2; have hfz59_3 := fz BK101 3; have hfz59_4 := fz BK101 4
       go_wp2
       go_loopg [6] k2 (fun kq v6 w' => ∃ (x6_3 : Int), v6 = .int .i64 x6_3 ∧ Aside0 (agateref10_Same.l1 kq x6_3 a0_0 l0_1 l0_2 l0_3 l0_4 a1_0 l1_1 l1_2 l1_3 l1_4 = some r) ∧ Aside0 (kq ≤ k2) ∧ Aside0 (w'.heap[gb101]? = some (.cells #[.int .i64 a0_0, (.slice A0_1 l0_1.length c0_1), (.slice A0_2 l0_2.length c0_2), (.slice A0_3 l0_3.length c0_3), (.slice A0_4 l0_4.length c0_4)] 33 (0, 0))) ∧ Aside0 (w'.heap[gb102]? = some (.cells #[.int .i64 a1_0, (.slice A1_1 l1_1.length c1_1), (.slice A1_2 l1_2.length c1_2), (.slice A1_3 l1_3.length c1_3), (.slice A1_4 l1_4.length c1_4)] 33 (0, 0))) ∧ Aside0 (Below w.heap.size w w'))
       case atStart => exact ⟨(0), cl0, H', ⟨Nat.le_refl _⟩, ⟨bkA BK101⟩, ⟨bkA BK102⟩, ⟨hbA HB⟩⟩
       case round =>
        clear H'; obtain ⟨x6_3, rfl, HA, HK3, BK101, BK102, HB⟩ := hrel
        cases gk with
        | zero => exact absurd HA.out (by simp [agateref10_Same.l1])
        | succ k3 =>
         have H := HA.out; clear HA
         simp only [agateref10_Same.l1] at H
         by_cases c60 : x6_3 < (l0_4.length : Int)
         ·
          rw [if_pos c60] at H; have c60b0 := decide_eq_true c60; clear c60; replace H := ifS H; obtain ⟨c61, H⟩ := H; have c61b0 := decide_eq_true c61; clear c61; replace H := ifS H; obtain ⟨c62, H⟩ := H; have c62b0 := decide_eq_true c62; clear c62; replace H := bnd H; obtain ⟨t110, A63, H⟩ := H
          by_cases c64 : t110 = true
          ·
           subst c64; have H1 : (agateref10_Same.l1 k3 (wrap64 (x6_3 + 1)) a0_0 l0_1 l0_2 l0_3 l0_4 a1_0 l1_1 l1_2 l1_3 l1_4) = some r := by rw [if_pos rfl] at H; exact H
           clear H; have H := H1; clear H1; have H' := mk0 H; clear H; have hnb65 := NB101_102.out; have hnc65 := NB102_101.out; obtain ⟨hcz66_0, hcz66_1, hcz66_2, hcz66_3, hcz66_4⟩ := cz5 BK101; have hfz66_0 := fz BK101 0; have hfz66_1 := fz BK101 1; have hfz66_2 := fz BK101 2; have hfz66_3 := fz BK101 3; have hfz66_4 := fz BK101 4
           try go_wp2
           replace BK101 := mk0 (blk_drew BK101.out); replace BK102 := mk0 (blk_drew BK102.out); replace HB := mk0 (below_drew1 HB.out); have p108 : 0 ≤ (x6_3 : Int) := ofd; have q108 : x6_3 < (l0_4.length : Int) := ofd; obtain ⟨ad108, A108_1, c108_1, A108_3, c108_3, e108, hx108_0, hx108_1, hx108_2, hx108_3, hl108_1, hi108_1, hl108_3, hi108_3⟩ := at_T59 HR0_4.out x6_3 p108 q108; have hw108_3 := hx108_3; have hw108_2 := hx108_2; have hw108_1 := hx108_1; have hw108_0 := hx108_0; cases e108; replace hx108_0 := hbc HB hx108_0; replace hx108_1 := hbc HB hx108_1; replace hx108_2 := hbc HB hx108_2; replace hx108_3 := hbc HB hx108_3; have HR108_1 := mk0 hi108_1; have HC108_1 := mk0 hl108_1; clear hi108_1 hl108_1; have HR108_3 := mk0 hi108_3; have HC108_3 := mk0 hl108_3; clear hi108_3 hl108_3; replace p108 := eq_true p108; replace q108 := eq_true q108; have p109 : 0 ≤ (x6_3 : Int) := ofd; have q109 : x6_3 < (l1_4.length : Int) := ofd; obtain ⟨ad109, A109_1, c109_1, A109_3, c109_3, e109, hx109_0, hx109_1, hx109_2, hx109_3, hl109_1, hi109_1, hl109_3, hi109_3⟩ := at_T59 HR1_4.out x6_3 p109 q109; have hw109_3 := hx109_3; have hw109_2 := hx109_2; have hw109_1 := hx109_1; have hw109_0 := hx109_0; cases e109; replace hx109_0 := hbc HB hx109_0; replace hx109_1 := hbc HB hx109_1; replace hx109_2 := hbc HB hx109_2; replace hx109_3 := hbc HB hx109_3; have HR109_1 := mk0 hi109_1; have HC109_1 := mk0 hl109_1; clear hi109_1 hl109_1; have HR109_3 := mk0 hi109_3; have HC109_3 := mk0 hl109_3; clear hi109_3 hl109_3; replace p109 := eq_true p109; replace q109 := eq_true q109
           refine start_ (n := 12) (S := fun w' => w'.cell? ⟨gb101, 0, none⟩ = some (.int .i64 a0_0) ∧ w'.cell? ⟨gb101, 1, none⟩ = some (.slice A0_1 l0_1.length c0_1) ∧ w'.cell? ⟨gb101, 2, none⟩ = some (.slice A0_2 l0_2.length c0_2) ∧ w'.cell? ⟨gb101, 3, none⟩ = some (.slice A0_3 l0_3.length c0_3) ∧ w'.cell? ⟨gb101, 4, none⟩ = some (.slice (some ad108) l0_4.length c0_4) ∧ w'.cell? ⟨gb102, 0, none⟩ = some (.int .i64 a1_0) ∧ w'.cell? ⟨gb102, 1, none⟩ = some (.slice A1_1 l1_1.length c1_1) ∧ w'.cell? ⟨gb102, 2, none⟩ = some (.slice A1_2 l1_2.length c1_2) ∧ w'.cell? ⟨gb102, 3, none⟩ = some (.slice A1_3 l1_3.length c1_3) ∧ w'.cell? ⟨gb102, 4, none⟩ = some (.slice (some ad109) l1_4.length c1_4) ∧ w'.cell? (ad108.add ((x6_3).toNat * 4)) = some (.string ((rd_T59 l0_4 x6_3).f0)) ∧ w'.cell? ⟨(ad108.add ((x6_3).toNat * 4)).block, (ad108.add ((x6_3).toNat * 4)).off + 1, none⟩ = some (.slice A108_1 ((rd_T59 l0_4 x6_3).f1).length c108_1) ∧ w'.cell? ⟨(ad108.add ((x6_3).toNat * 4)).block, (ad108.add ((x6_3).toNat * 4)).off + 2, none⟩ = some (.string ((rd_T59 l0_4 x6_3).f2)) ∧ w'.cell? ⟨(ad108.add ((x6_3).toNat * 4)).block, (ad108.add ((x6_3).toNat * 4)).off + 3, none⟩ = some (.slice A108_3 ((rd_T59 l0_4 x6_3).f3).length c108_3) ∧ w'.cell? (ad109.add ((x6_3).toNat * 4)) = some (.string ((rd_T59 l1_4 x6_3).f0)) ∧ w'.cell? ⟨(ad109.add ((x6_3).toNat * 4)).block, (ad109.add ((x6_3).toNat * 4)).off + 1, none⟩ = some (.slice A109_1 ((rd_T59 l1_4 x6_3).f1).length c109_1) ∧ w'.cell? ⟨(ad109.add ((x6_3).toNat * 4)).block, (ad109.add ((x6_3).toNat * 4)).off + 2, none⟩ = some (.string ((rd_T59 l1_4 x6_3).f2)) ∧ w'.cell? ⟨(ad109.add ((x6_3).toNat * 4)).block, (ad109.add ((x6_3).toNat * 4)).off + 3, none⟩ = some (.slice A109_3 ((rd_T59 l1_4 x6_3).f3).length c109_3)) (ds := []) (bA 12 0) (by kernel_rfl) rfl rfl ⟨bcA BK101 0, bcA BK101 1, bcA BK101 2, bcA BK101 3, bcA BK101 4, bcA BK102 0, bcA BK102 1, bcA BK102 2, bcA BK102 3, bcA BK102 4, ((HB.out.cell (World.block_lt_of_cell? w _ hw108_0)).trans hw108_0), ((HB.out.cell (World.block_lt_of_cell? w _ hw108_1)).trans hw108_1), ((HB.out.cell (World.block_lt_of_cell? w _ hw108_2)).trans hw108_2), ((HB.out.cell (World.block_lt_of_cell? w _ hw108_3)).trans hw108_3), ((HB.out.cell (World.block_lt_of_cell? w _ hw109_0)).trans hw109_0), ((HB.out.cell (World.block_lt_of_cell? w _ hw109_1)).trans hw109_1), ((HB.out.cell (World.block_lt_of_cell? w _ hw109_2)).trans hw109_2), ((HB.out.cell (World.block_lt_of_cell? w _ hw109_3)).trans hw109_3)⟩ (fun hHeld => ?_); refine with_tabW agateref10_Same.tab11 agateref10_Same.bits11 (fun HT_ HW_ => ?_)
           generalize wr.drew = w67 at BK101 BK102 HB HR108_1 HR108_3 HR109_1 HR109_3 hx108_0 hx108_1 hx108_2 hx108_3 hx109_0 hx109_1 hx109_2 hx109_3 hHeld ⊢
           refine puE (i := 0) (N := some 72) (bA 12 1) HT_ ?_
           refine puE (i := 2) (N := some 74) (bA 12 5) HT_ ?_
           refine puE (i := 5) (N := some 77) (bA 12 37) HT_ ?_
           refine puE (i := 7) (N := some 79) (bA 12 165) HT_ ?_
           refine taE (i := 1) (N := some 73) (bA 12 167) HT_ HW_ hHeld ?_
           refine puE (i := 3) (N := some 75) (bA 12 175) HT_ ?_
           refine taE (i := 4) (N := some 76) (bA 12 191) HT_ HW_ hHeld ?_
           refine taE (i := 6) (N := some 78) (bA 12 255) HT_ HW_ hHeld ?_
           refine puE (i := 8) (N := some 80) (bA 12 511) HT_ ?_
           refine taE (i := 9) (N := some 81) (bA 12 1023) HT_ HW_ hHeld ?_
           refine one_ (i := 10) (N := some 82) (bA 12 2047) rfl rfl (one_of HT_.out (by kernel_rfl)) (by decide) (fun K hK => ?_)
           refine goE Try.func24 (by kernel_rfl) rfl #[.agg #[.string ((rd_T59 l0_4 x6_3).f0), .slice A108_1 ((rd_T59 l0_4 x6_3).f1).length c108_1, .string ((rd_T59 l0_4 x6_3).f2), .slice A108_3 ((rd_T59 l0_4 x6_3).f3).length c108_3], .agg #[.string ((rd_T59 l1_4 x6_3).f0), .slice A109_1 ((rd_T59 l1_4 x6_3).f1).length c109_1, .string ((rd_T59 l1_4 x6_3).f2), .slice A109_3 ((rd_T59 l1_4 x6_3).f3).length c109_3]] (by rfl) rfl rfl ?_
           with_reducible refine (agateref10_Nodes.calls k3 ((rd_T59 l0_4 x6_3).f0) _ _ ((rd_T59 l0_4 x6_3).f1) ((rd_T59 l0_4 x6_3).f2) _ _ ((rd_T59 l0_4 x6_3).f3) ((rd_T59 l1_4 x6_3).f0) _ _ ((rd_T59 l1_4 x6_3).f1) ((rd_T59 l1_4 x6_3).f2) _ _ ((rd_T59 l1_4 x6_3).f3) true _ ?side1 ?side2 ?side3 ?side4 ?side5 ?side6 ?side7 ?side8 A63.out).mono ?_
           (case side1 => repeat (first | exact (Kd.C_below HR108_1.out HB.out) | (with_reducible refine Kd.C_alloc ?_ _) | (with_reducible refine Kd.C_drewN ?_ _) | (with_reducible refine Kd.C_drew ?_)))
           (case side2 => exact HC108_1.out)
           (case side3 => repeat (first | exact (Kd.C_below HR108_3.out HB.out) | (with_reducible refine Kd.C_alloc ?_ _) | (with_reducible refine Kd.C_drewN ?_ _) | (with_reducible refine Kd.C_drew ?_)))
           (case side4 => exact HC108_3.out)
           (case side5 => repeat (first | exact (Kd.C_below HR109_1.out HB.out) | (with_reducible refine Kd.C_alloc ?_ _) | (with_reducible refine Kd.C_drewN ?_ _) | (with_reducible refine Kd.C_drew ?_)))
           (case side6 => exact HC109_1.out)
           (case side7 => repeat (first | exact (Kd.C_below HR109_3.out HB.out) | (with_reducible refine Kd.C_alloc ?_ _) | (with_reducible refine Kd.C_drewN ?_ _) | (with_reducible refine Kd.C_drew ?_)))
           (case side8 => exact HC109_3.out)
           rintro e w68 ⟨rfl, hb⟩
           refine ⟨_, rfl, ?_⟩
           replace BK101 := bkS BK101 hb; replace BK102 := bkS BK102 hb; replace HB := hbS HB hb; try clear hb
           refine hK.out _ _ ⟨bcA BK101 0, bcA BK101 1, bcA BK101 2, bcA BK101 3, bcA BK101 4, bcA BK102 0, bcA BK102 1, bcA BK102 2, bcA BK102 3, bcA BK102 4, ((HB.out.cell (World.block_lt_of_cell? w _ hw108_0)).trans hw108_0), ((HB.out.cell (World.block_lt_of_cell? w _ hw108_1)).trans hw108_1), ((HB.out.cell (World.block_lt_of_cell? w _ hw108_2)).trans hw108_2), ((HB.out.cell (World.block_lt_of_cell? w _ hw108_3)).trans hw108_3), ((HB.out.cell (World.block_lt_of_cell? w _ hw109_0)).trans hw109_0), ((HB.out.cell (World.block_lt_of_cell? w _ hw109_1)).trans hw109_1), ((HB.out.cell (World.block_lt_of_cell? w _ hw109_2)).trans hw109_2), ((HB.out.cell (World.block_lt_of_cell? w _ hw109_3)).trans hw109_3)⟩ (fun hHeld => ?_)
           clear hK K
           refine noE 82 ?_
           refine puE (i := 11) (N := some 83) (bA 12 4095) HT_ ?_
           refine done_ (done_of HT_.out (by kernel_rfl)) ?_
           try go_wp2
           go_roundg k3
           case measure => have := HJ2.out; have := HK2.out; have := HK3.out; omega
           case rel => exact ⟨(wrap64 (x6_3 + 1)), cl0, H', ⟨by have := HJ2.out; have := HK2.out; have := HK3.out; omega⟩, ⟨bkA BK101⟩, ⟨bkA BK102⟩, ⟨hbA HB⟩⟩
          ·
           replace c64 := Bool.eq_false_iff.mpr c64; subst c64; have H1 : (some false) = some r := by rw [if_neg (show ¬ (false = true) by decide)] at H; exact H
           clear H; have H := H1; clear H1; obtain rfl := Option.some.inj H; have hnb69 := NB101_102.out; have hnc69 := NB102_101.out; obtain ⟨hcz70_0, hcz70_1, hcz70_2, hcz70_3, hcz70_4⟩ := cz5 BK101; have hfz70_0 := fz BK101 0; have hfz70_1 := fz BK101 1; have hfz70_2 := fz BK101 2; have hfz70_3 := fz BK101 3; have hfz70_4 := fz BK101 4
           try go_wp2
           replace BK101 := mk0 (blk_drew BK101.out); replace BK102 := mk0 (blk_drew BK102.out); replace HB := mk0 (below_drew1 HB.out); have p108 : 0 ≤ (x6_3 : Int) := ofd; have q108 : x6_3 < (l0_4.length : Int) := ofd; obtain ⟨ad108, A108_1, c108_1, A108_3, c108_3, e108, hx108_0, hx108_1, hx108_2, hx108_3, hl108_1, hi108_1, hl108_3, hi108_3⟩ := at_T59 HR0_4.out x6_3 p108 q108; have hw108_3 := hx108_3; have hw108_2 := hx108_2; have hw108_1 := hx108_1; have hw108_0 := hx108_0; cases e108; replace hx108_0 := hbc HB hx108_0; replace hx108_1 := hbc HB hx108_1; replace hx108_2 := hbc HB hx108_2; replace hx108_3 := hbc HB hx108_3; have HR108_1 := mk0 hi108_1; have HC108_1 := mk0 hl108_1; clear hi108_1 hl108_1; have HR108_3 := mk0 hi108_3; have HC108_3 := mk0 hl108_3; clear hi108_3 hl108_3; replace p108 := eq_true p108; replace q108 := eq_true q108; have p109 : 0 ≤ (x6_3 : Int) := ofd; have q109 : x6_3 < (l1_4.length : Int) := ofd; obtain ⟨ad109, A109_1, c109_1, A109_3, c109_3, e109, hx109_0, hx109_1, hx109_2, hx109_3, hl109_1, hi109_1, hl109_3, hi109_3⟩ := at_T59 HR1_4.out x6_3 p109 q109; have hw109_3 := hx109_3; have hw109_2 := hx109_2; have hw109_1 := hx109_1; have hw109_0 := hx109_0; cases e109; replace hx109_0 := hbc HB hx109_0; replace hx109_1 := hbc HB hx109_1; replace hx109_2 := hbc HB hx109_2; replace hx109_3 := hbc HB hx109_3; have HR109_1 := mk0 hi109_1; have HC109_1 := mk0 hl109_1; clear hi109_1 hl109_1; have HR109_3 := mk0 hi109_3; have HC109_3 := mk0 hl109_3; clear hi109_3 hl109_3; replace p109 := eq_true p109; replace q109 := eq_true q109
           refine start_ (n := 12) (S := fun w' => w'.cell? ⟨gb101, 0, none⟩ = some (.int .i64 a0_0) ∧ w'.cell? ⟨gb101, 1, none⟩ = some (.slice A0_1 l0_1.length c0_1) ∧ w'.cell? ⟨gb101, 2, none⟩ = some (.slice A0_2 l0_2.length c0_2) ∧ w'.cell? ⟨gb101, 3, none⟩ = some (.slice A0_3 l0_3.length c0_3) ∧ w'.cell? ⟨gb101, 4, none⟩ = some (.slice (some ad108) l0_4.length c0_4) ∧ w'.cell? ⟨gb102, 0, none⟩ = some (.int .i64 a1_0) ∧ w'.cell? ⟨gb102, 1, none⟩ = some (.slice A1_1 l1_1.length c1_1) ∧ w'.cell? ⟨gb102, 2, none⟩ = some (.slice A1_2 l1_2.length c1_2) ∧ w'.cell? ⟨gb102, 3, none⟩ = some (.slice A1_3 l1_3.length c1_3) ∧ w'.cell? ⟨gb102, 4, none⟩ = some (.slice (some ad109) l1_4.length c1_4) ∧ w'.cell? (ad108.add ((x6_3).toNat * 4)) = some (.string ((rd_T59 l0_4 x6_3).f0)) ∧ w'.cell? ⟨(ad108.add ((x6_3).toNat * 4)).block, (ad108.add ((x6_3).toNat * 4)).off + 1, none⟩ = some (.slice A108_1 ((rd_T59 l0_4 x6_3).f1).length c108_1) ∧ w'.cell? ⟨(ad108.add ((x6_3).toNat * 4)).block, (ad108.add ((x6_3).toNat * 4)).off + 2, none⟩ = some (.string ((rd_T59 l0_4 x6_3).f2)) ∧ w'.cell? ⟨(ad108.add ((x6_3).toNat * 4)).block, (ad108.add ((x6_3).toNat * 4)).off + 3, none⟩ = some (.slice A108_3 ((rd_T59 l0_4 x6_3).f3).length c108_3) ∧ w'.cell? (ad109.add ((x6_3).toNat * 4)) = some (.string ((rd_T59 l1_4 x6_3).f0)) ∧ w'.cell? ⟨(ad109.add ((x6_3).toNat * 4)).block, (ad109.add ((x6_3).toNat * 4)).off + 1, none⟩ = some (.slice A109_1 ((rd_T59 l1_4 x6_3).f1).length c109_1) ∧ w'.cell? ⟨(ad109.add ((x6_3).toNat * 4)).block, (ad109.add ((x6_3).toNat * 4)).off + 2, none⟩ = some (.string ((rd_T59 l1_4 x6_3).f2)) ∧ w'.cell? ⟨(ad109.add ((x6_3).toNat * 4)).block, (ad109.add ((x6_3).toNat * 4)).off + 3, none⟩ = some (.slice A109_3 ((rd_T59 l1_4 x6_3).f3).length c109_3)) (ds := []) (bA 12 0) (by kernel_rfl) rfl rfl ⟨bcA BK101 0, bcA BK101 1, bcA BK101 2, bcA BK101 3, bcA BK101 4, bcA BK102 0, bcA BK102 1, bcA BK102 2, bcA BK102 3, bcA BK102 4, ((HB.out.cell (World.block_lt_of_cell? w _ hw108_0)).trans hw108_0), ((HB.out.cell (World.block_lt_of_cell? w _ hw108_1)).trans hw108_1), ((HB.out.cell (World.block_lt_of_cell? w _ hw108_2)).trans hw108_2), ((HB.out.cell (World.block_lt_of_cell? w _ hw108_3)).trans hw108_3), ((HB.out.cell (World.block_lt_of_cell? w _ hw109_0)).trans hw109_0), ((HB.out.cell (World.block_lt_of_cell? w _ hw109_1)).trans hw109_1), ((HB.out.cell (World.block_lt_of_cell? w _ hw109_2)).trans hw109_2), ((HB.out.cell (World.block_lt_of_cell? w _ hw109_3)).trans hw109_3)⟩ (fun hHeld => ?_); refine with_tabW agateref10_Same.tab11 agateref10_Same.bits11 (fun HT_ HW_ => ?_)
           generalize wr.drew = w71 at BK101 BK102 HB HR108_1 HR108_3 HR109_1 HR109_3 hx108_0 hx108_1 hx108_2 hx108_3 hx109_0 hx109_1 hx109_2 hx109_3 hHeld ⊢
           refine puE (i := 0) (N := some 72) (bA 12 1) HT_ ?_
           refine puE (i := 2) (N := some 74) (bA 12 5) HT_ ?_
           refine puE (i := 5) (N := some 77) (bA 12 37) HT_ ?_
           refine puE (i := 7) (N := some 79) (bA 12 165) HT_ ?_
           refine taE (i := 1) (N := some 73) (bA 12 167) HT_ HW_ hHeld ?_
           refine puE (i := 3) (N := some 75) (bA 12 175) HT_ ?_
           refine taE (i := 4) (N := some 76) (bA 12 191) HT_ HW_ hHeld ?_
           refine taE (i := 6) (N := some 78) (bA 12 255) HT_ HW_ hHeld ?_
           refine puE (i := 8) (N := some 80) (bA 12 511) HT_ ?_
           refine taE (i := 9) (N := some 81) (bA 12 1023) HT_ HW_ hHeld ?_
           refine one_ (i := 10) (N := some 82) (bA 12 2047) rfl rfl (one_of HT_.out (by kernel_rfl)) (by decide) (fun K hK => ?_)
           refine goE Try.func24 (by kernel_rfl) rfl #[.agg #[.string ((rd_T59 l0_4 x6_3).f0), .slice A108_1 ((rd_T59 l0_4 x6_3).f1).length c108_1, .string ((rd_T59 l0_4 x6_3).f2), .slice A108_3 ((rd_T59 l0_4 x6_3).f3).length c108_3], .agg #[.string ((rd_T59 l1_4 x6_3).f0), .slice A109_1 ((rd_T59 l1_4 x6_3).f1).length c109_1, .string ((rd_T59 l1_4 x6_3).f2), .slice A109_3 ((rd_T59 l1_4 x6_3).f3).length c109_3]] (by rfl) rfl rfl ?_
           with_reducible refine (agateref10_Nodes.calls k3 ((rd_T59 l0_4 x6_3).f0) _ _ ((rd_T59 l0_4 x6_3).f1) ((rd_T59 l0_4 x6_3).f2) _ _ ((rd_T59 l0_4 x6_3).f3) ((rd_T59 l1_4 x6_3).f0) _ _ ((rd_T59 l1_4 x6_3).f1) ((rd_T59 l1_4 x6_3).f2) _ _ ((rd_T59 l1_4 x6_3).f3) false _ ?side1 ?side2 ?side3 ?side4 ?side5 ?side6 ?side7 ?side8 A63.out).mono ?_
           (case side1 => repeat (first | exact (Kd.C_below HR108_1.out HB.out) | (with_reducible refine Kd.C_alloc ?_ _) | (with_reducible refine Kd.C_drewN ?_ _) | (with_reducible refine Kd.C_drew ?_)))
           (case side2 => exact HC108_1.out)
           (case side3 => repeat (first | exact (Kd.C_below HR108_3.out HB.out) | (with_reducible refine Kd.C_alloc ?_ _) | (with_reducible refine Kd.C_drewN ?_ _) | (with_reducible refine Kd.C_drew ?_)))
           (case side4 => exact HC108_3.out)
           (case side5 => repeat (first | exact (Kd.C_below HR109_1.out HB.out) | (with_reducible refine Kd.C_alloc ?_ _) | (with_reducible refine Kd.C_drewN ?_ _) | (with_reducible refine Kd.C_drew ?_)))
           (case side6 => exact HC109_1.out)
           (case side7 => repeat (first | exact (Kd.C_below HR109_3.out HB.out) | (with_reducible refine Kd.C_alloc ?_ _) | (with_reducible refine Kd.C_drewN ?_ _) | (with_reducible refine Kd.C_drew ?_)))
           (case side8 => exact HC109_3.out)
           rintro e w72 ⟨rfl, hb⟩
           refine ⟨_, rfl, ?_⟩
           replace BK101 := bkS BK101 hb; replace BK102 := bkS BK102 hb; replace HB := hbS HB hb; try clear hb
           refine hK.out _ _ ⟨bcA BK101 0, bcA BK101 1, bcA BK101 2, bcA BK101 3, bcA BK101 4, bcA BK102 0, bcA BK102 1, bcA BK102 2, bcA BK102 3, bcA BK102 4, ((HB.out.cell (World.block_lt_of_cell? w _ hw108_0)).trans hw108_0), ((HB.out.cell (World.block_lt_of_cell? w _ hw108_1)).trans hw108_1), ((HB.out.cell (World.block_lt_of_cell? w _ hw108_2)).trans hw108_2), ((HB.out.cell (World.block_lt_of_cell? w _ hw108_3)).trans hw108_3), ((HB.out.cell (World.block_lt_of_cell? w _ hw109_0)).trans hw109_0), ((HB.out.cell (World.block_lt_of_cell? w _ hw109_1)).trans hw109_1), ((HB.out.cell (World.block_lt_of_cell? w _ hw109_2)).trans hw109_2), ((HB.out.cell (World.block_lt_of_cell? w _ hw109_3)).trans hw109_3)⟩ (fun hHeld => ?_)
           clear hK K
           refine noE 82 ?_
           refine puE (i := 11) (N := some 83) (bA 12 4095) HT_ ?_
           refine done_ (done_of HT_.out (by kernel_rfl)) ?_
           try go_wp2
           go_ret
           exact ⟨cl3, hbA HB⟩
         ·
          rw [if_neg c60] at H; have c60b0 := decide_eq_false c60; clear c60; obtain rfl := Option.some.inj H; have hnb73 := NB101_102.out; have hnc73 := NB102_101.out; obtain ⟨hcz74_0, hcz74_1, hcz74_2, hcz74_3, hcz74_4⟩ := cz5 BK101; have hfz74_0 := fz BK101 0; have hfz74_1 := fz BK101 1; have hfz74_2 := fz BK101 2; have hfz74_3 := fz BK101 3; have hfz74_4 := fz BK101 4
          go_wp2
          go_ret
          exact ⟨cl3, hbA HB⟩
end Go.Proofs.Ytfejdnkmmjffcaa.X
