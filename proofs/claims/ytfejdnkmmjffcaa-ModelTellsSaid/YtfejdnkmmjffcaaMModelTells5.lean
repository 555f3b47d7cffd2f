import Derived.Test.YtfejdnkmmjffcaaMModelTells3
import Derived.Test.YtfejdnkmmjffcaaMModelTells4
import Derived.WalkLawsBesides
import Derived.Shelf.Strings.Builder1
import Derived.Deep.RegionHeld3
namespace Go.Proofs.Ytfejdnkmmjffcaa.X
open Go.RowKit Go.Proofs.YtfejdnkmmjffcaaW.PrintWords Go.Proofs.YtfejdnkmmjffcaaW.PrintLast Go.Proofs.YtfejdnkmmjffcaaW.PrintMore
attribute [local go_sem] max2_int min2_int max_two min_two max_three min_three max_four min_four
set_option linter.unusedVariables false
set_option linter.unusedSimpArgs false
def shape_wide_s.f (l0 : List Int) (a1 : Int) : Option (List Int) := if 0 ≤ a1 ∧ a1 ≤ 1000000 ∧ l0.length ≤ 1000000 then some (List.replicate (a1.toNat - l0.length) 1 ++ l0) else none
theorem shapeWide_l0 (l : List Int) (hl : l.length ≤ 1000000) (m : Nat) (hm : m ≤ 1000000) (d : Nat) : ∀ (k i : Nat), m - i = d → i ≤ m → d < k →
    shape_wide.l0 k l (List.replicate i 1) (m : Int) i = some (List.replicate m 1 ++ l) := by
  induction d with
  | zero =>
    intro k i hd hi hk
    obtain ⟨k, rfl⟩ : ∃ m, k = m + 1 := ⟨k - 1, by omega⟩
    obtain rfl : i = m := by omega
    rw [shape_wide.l0, if_neg (by omega), if_pos (by rw [List.length_replicate]; omega)]
  | succ d ih =>
    intro k i hd hi hk
    obtain ⟨k, rfl⟩ : ∃ m, k = m + 1 := ⟨k - 1, by omega⟩
    have ew : wrap64 ((i : Int) + 1) = ((i + 1 : Nat) : Int) := by rw [wrap64_id (by omega) (by omega)]; omega
    rw [shape_wide.l0, if_pos (by omega), if_pos (by rw [List.length_replicate]; omega), ew, ← List.replicate_succ']
    clear ew
    exact ih k (i + 1) (by omega) (by omega) (by omega)
theorem shape_wide_s.ev (l0 : List Int) (a1 : Int) (r) (h : shape_wide_s.f l0 a1 = some r) : ∃ k, shape_wide.f k l0 a1 = some r := by
  unfold shape_wide_s.f at h
  split at h
  · rename_i hs
    obtain ⟨h0, h1, h2⟩ := hs
    rw [← h]
    refine ⟨a1.toNat + 1, ?_⟩
    unfold shape_wide.f
    rw [wrap64_id (by omega) (by omega)]
    by_cases hc : (l0.length : Int) ≤ a1
    · have e : a1 - (l0.length : Int) = ((a1.toNat - l0.length : Nat) : Int) := by omega
      rw [e]
      exact shapeWide_l0 l0 h2 _ (by omega) _ (a1.toNat + 1) 0 rfl (by omega) (by omega)
    · have e : a1.toNat - l0.length = 0 := by omega
      rw [shape_wide.l0, if_neg (by omega), if_pos (by simp; omega), e]
      rfl
  · cases h
set_option maxHeartbeats 1000000 in
theorem shape_wide_s.calls (A0 : Option Addr) (c0 : Nat) (l0 : List Int) (a1 : Int) (r : List Int) (w : World) (hr0 : Kd.C (Kd.int .i64) w A0 l0.length l0) (hc0 : l0.length ≤ c0) (h : shape_wide_s.f l0 a1 = some r) :
    Calls Try.prog 64 #[.slice A0 l0.length c0, .int .i64 a1] w fun e w' => ∃ v0_ : Value, e = .returned (v0_) ∧ Kd.R (Kd.int .i64) 2 w' w.heap.size (fun _ => True) v0_ r ∧ Below w.heap.size w w' := by
  obtain ⟨k, hk⟩ := shape_wide_s.ev l0 a1 _ h
  exact shape_wide.calls k A0 c0 l0 a1 r w hr0 hc0 hk
set_option maxHeartbeats 1000000 in
set_option maxRecDepth 100000 in
theorem Back_ex (A1 : Option Addr) (c1 : Nat) (A2 : Option Addr) (c2 : Nat) (w : World) (h1 : Kd.C (Kd.int .i64) w A1 2 [3, 1]) (h1c : 2 ≤ c1) (h2 : Kd.C (Kd.int .i64) w A2 2 [2, 3]) (h2c : 2 ≤ c2) :
    Calls Try.prog 53 #[.slice A1 2 c1, .slice A2 2 c2] w fun e w' => ∃ v, e = .returned v ∧ Kd.R (Kd.int .i64) 2 w' w.heap.size (fun _ => True) v [2, 0] ∧ Below w.heap.size w w' := by
  have HB := Aside0.mk (Below.refl w.heap.size w)
  obtain ⟨a1, rfl, x0⟩ := Kd.at_int h1 0 (by decide) (by decide)
  obtain ⟨a1', e, x1⟩ := Kd.at_int h1 1 (by decide) (by decide)
  cases e
  obtain ⟨a2, rfl, y0⟩ := Kd.at_int h2 0 (by decide) (by decide)
  obtain ⟨a2', e, y1⟩ := Kd.at_int h2 1 (by decide) (by decide)
  cases e
  have HO : Aside0 (Kd.R (Kd.int .i64) 2 w w.heap.size (fun _ => True) (.slice none 0 0) []) := ⟨Kd.R_nil _ _ _ _ _⟩
  replace x0 : w.cell? a1 = some (.int .i64 3) := x0
  replace x1 : w.cell? { block := a1.block, off := a1.off + 1 } = some (.int .i64 1) := x1
  replace y0 : w.cell? a2 = some (.int .i64 2) := y0
  replace y1 : w.cell? { block := a2.block, off := a2.off + 1 } = some (.int .i64 3) := y1
  have X1 := mk0 x1
  have Y1 := mk0 y1
  clear h1 h2 x1 y1
  go_enter Try.func53, Try.ntmps53
  go_wp2_with (first | fail)
  refine wp_loop_rounds 3 ?_
  rw [rounds_succ]
  go_wp2_with (first | ((with_reducible refine gate_builtin (b := .append) (xs := #[.tmp 35, .tmp 37]) rfl ?_); at_builtin; refine Kd.R_append (Kd.int .i64) (w0 := w) w.heap.size rfl (.tmp 35) (.tmp 37) 38 2 (.int .i64 0) 8 rfl Try.underlying38 info2 rfl (by decide) (by omega) (.slice none 0 0) [] 2 [.int .i64 2] (fun _ => True) (fun _ => False) rfl rfl ?aP (fun _ hk => hk.elim) ?aF ?aO ?aB ?aS ?aL ?_; (case aP => exact rfl); (case aB => exact (hbA HB)); (case aF => exact (fun _ _ => trivial)); (case aO => exact (krA HO)); (case aS => exact (below_size (hbA HB))); (case aL => decide); intro v105 w13 ho hb hg hat; replace HB := mk0 hb; replace HO := mk0 ho; clear ho hb hg hat))
  have x1 := hbc HB X1.out (World.block_lt_of_cell? _ _ X1.out)
  have y1 := hbc HB Y1.out (World.block_lt_of_cell? _ _ Y1.out)
  rw [rounds_succ]
  go_wp2_with (first | ((with_reducible refine gate_builtin (b := .append) (xs := #[.tmp 35, .tmp 37]) rfl ?_); at_builtin; refine Kd.R_append (Kd.int .i64) (w0 := w) w.heap.size rfl (.tmp 35) (.tmp 37) 38 2 (.int .i64 0) 8 rfl Try.underlying38 info2 rfl (by decide) (by omega) v105 [2] 0 [.int .i64 0] (fun _ => True) (fun _ => False) rfl rfl ?aP (fun _ hk => hk.elim) ?aF ?aO ?aB ?aS ?aL ?_; (case aP => exact rfl); (case aB => exact (hbA HB)); (case aF => exact (fun _ _ => trivial)); (case aO => exact (krA HO)); (case aS => exact (below_size (hbA HB))); (case aL => decide); intro v106 w14 ho hb hg hat; replace HB := mk0 hb; replace HO := mk0 ho; clear ho hb hg hat))
  rw [rounds_succ]
  go_wp2_with (first | fail)
  go_ret
  exact ⟨_, rfl, HO.out, HB.out⟩
set_option maxHeartbeats 2000000 in
set_option maxRecDepth 100000 in
theorem Broadcast_ex (A1 : Option Addr) (c1 : Nat) (A2 : Option Addr) (c2 : Nat) (w : World) (h1 : Kd.C (Kd.int .i64) w A1 2 [3, 1]) (h1c : 2 ≤ c1) (h2 : Kd.C (Kd.int .i64) w A2 1 [4]) (h2c : 1 ≤ c2) :
    Calls Try.prog 51 #[.slice A1 2 c1, .slice A2 1 c2] w fun e w' => ∃ v, e = .returned (.tuple #[v, .int .i64 0]) ∧ Kd.R (Kd.int .i64) 2 w' w.heap.size (fun _ => True) v [3, 4] ∧ Below w.heap.size w w' := by
  have H1 := mk0 h1
  have H2 := mk0 h2
  have HC := mk0 (And.intro h1c h2c)
  have HB := Aside0.mk (Below.refl w.heap.size w)
  clear h1 h1c h2 h2c
  go_enter Try.func51, Try.ntmps51
  go_wp2_with (first | fail)
  have BX := mk0 (blk_new w (Obj.cells #[.slice A1 2 c1, .slice A2 1 c2] 38))
  replace HB := mk0 (below_alloc HB.out (Obj.cells #[.slice A1 2 c1, .slice A2 1 c2] 38))
  generalize w.alloc (Obj.cells #[.slice A1 2 c1, .slice A2 1 c2] 38) = w1 at BX HB ⊢
  generalize w.heap.size = gx at BX ⊢
  obtain ⟨hx0, hx1⟩ := cz2 BX
  refine wp_loop_rounds 3 ?_
  rw [rounds_succ]
  go_wp2_with (first | fail)
  refine (shape_Size_s.calls A1 c1 [3, 1] 3 0 _ (Kd.C_below H1.out HB.out) HC.out.1 (by decide +kernel)).mono ?_
  rintro e w2 ⟨rfl, hb⟩
  replace BX := bkS BX hb
  replace HB := hbS HB hb
  clear hb hx0 hx1
  obtain ⟨hx0, hx1⟩ := cz2 BX
  go_wp2_with (first | fail)
  rw [rounds_succ]
  go_wp2_with (first | fail)
  refine (shape_Size_s.calls A2 c2 [4] 4 0 _ (Kd.C_below H2.out HB.out) HC.out.2 (by decide +kernel)).mono ?_
  rintro e w3 ⟨rfl, hb⟩
  replace BX := bkS BX hb
  replace HB := hbS HB hb
  clear hb hx0 hx1
  obtain ⟨hx0, hx1⟩ := cz2 BX
  go_wp2_with (first | fail)
  rw [rounds_succ]
  go_wp2_with (first | fail)
  refine (shape_wide_s.calls A1 c1 [3, 1] 2 [3, 1] _ (Kd.C_below H1.out HB.out) HC.out.1 (by decide +kernel)).mono ?_
  rintro e w4 ⟨v0, rfl, q, hb⟩
  obtain ⟨X, cx, rfl⟩ := Kd.R_slice q
  have HX := mk0 (Kd.R_reads' q).2.2
  replace HB := hbS HB hb
  clear q hb hx0 hx1 BX
  go_wp2_with (first | fail)
  refine (shape_wide_s.calls A2 c2 [4] 2 [1, 4] _ (Kd.C_below H2.out HB.out) HC.out.2 (by decide +kernel)).mono ?_
  rintro e w5 ⟨v0, rfl, q, hb⟩
  obtain ⟨Y, cy, rfl⟩ := Kd.R_slice q
  have HY := mk0 (Kd.R_reads' q).2.2
  replace HX := mk0 (Kd.C_below HX.out hb)
  replace HB := hbS HB hb
  clear q hb
  obtain ⟨x, rfl, x0⟩ := Kd.at_int HX.out 0 (by decide) (by decide)
  obtain ⟨x', e, x1⟩ := Kd.at_int HX.out 1 (by decide) (by decide)
  cases e
  obtain ⟨y, rfl, y0⟩ := Kd.at_int HY.out 0 (by decide) (by decide)
  obtain ⟨y', e, y1⟩ := Kd.at_int HY.out 1 (by decide) (by decide)
  cases e
  replace x0 : w5.cell? x = some (.int .i64 3) := x0
  replace x1 : w5.cell? { block := x.block, off := x.off + 1 } = some (.int .i64 1) := x1
  replace y0 : w5.cell? y = some (.int .i64 1) := y0
  replace y1 : w5.cell? { block := y.block, off := y.off + 1 } = some (.int .i64 4) := y1
  go_wp2_with (first | fail)
  have HO : Aside0 (Kd.R (Kd.int .i64) 2 w5 w5.heap.size (fun _ => True) (.slice none 0 0) []) := ⟨Kd.R_nil _ _ _ _ _⟩
  have X0 := mk0 x0
  have X1 := mk0 x1
  have Y1 := mk0 y1
  have H5 := mk0 (Below.refl w5.heap.size w5)
  refine wp_loop_rounds 3 ?_
  rw [rounds_succ]
  go_wp2_with (first | fail)
  go_region
  obtain ⟨w6, hw6⟩ : ∃ w6, w6 = w5.drew := ⟨_, rfl⟩
  rw [← hw6]
  replace HO := mk0 (show Kd.R (Kd.int .i64) 2 w6 w5.heap.size (fun _ => True) (.slice none 0 0) [] from Kd.R_nil _ _ _ _ _)
  replace H5 := mk0 (show Below w5.heap.size w5 w6 from by rw [hw6]; exact below_drew1 H5.out)
  clear x0 x1 y0 y1
  have x0 := hbc H5 X0.out (World.block_lt_of_cell? _ _ X0.out)
  clear hw6
  go_wp2_with (first | ((with_reducible refine gate_builtin (b := .append) (xs := #[.tmp 66, .tmp 71]) rfl ?_); at_builtin; refine Kd.R_append (Kd.int .i64) (w0 := w5) w5.heap.size rfl (.tmp 66) (.tmp 71) 38 2 (.int .i64 0) 8 rfl Try.underlying38 info2 rfl (by decide) (by omega) (.slice none 0 0) [] 3 [.int .i64 3] (fun _ => True) (fun _ => False) rfl rfl ?aP (fun _ hk => hk.elim) ?aF ?aO ?aB ?aS ?aL ?_; (case aP => exact rfl); (case aB => exact (hbA H5)); (case aF => exact (fun _ _ => trivial)); (case aO => exact (krA HO)); (case aS => exact (below_size (hbA H5))); (case aL => decide); intro v105 w13 ho hb hg hat; replace H5 := mk0 hb; replace HO := mk0 ho; clear ho hb hg hat))
  clear x0
  have x1 := hbc H5 X1.out (World.block_lt_of_cell? _ _ X1.out)
  have y1 := hbc H5 Y1.out (World.block_lt_of_cell? _ _ Y1.out)
  rw [rounds_succ]
  go_wp2_with (first | fail)
  go_region
  obtain ⟨w7, hw7⟩ : ∃ w7, w7 = w13.drew := ⟨_, rfl⟩
  rw [← hw7]
  replace HO := mk0 (show Kd.R (Kd.int .i64) 2 w7 w5.heap.size (fun _ => True) v105 [3] from by rw [hw7]; exact Kd.R_drew HO.out)
  replace H5 := mk0 (show Below w5.heap.size w5 w7 from by rw [hw7]; exact below_drew1 H5.out)
  clear x1 y1
  have x1 := hbc H5 X1.out (World.block_lt_of_cell? _ _ X1.out)
  have y1 := hbc H5 Y1.out (World.block_lt_of_cell? _ _ Y1.out)
  clear hw7
  go_wp2_with (first | ((with_reducible refine gate_builtin (b := .append) (xs := #[.tmp 79, .tmp 84]) rfl ?_); at_builtin; refine Kd.R_append (Kd.int .i64) (w0 := w5) w5.heap.size rfl (.tmp 79) (.tmp 84) 38 2 (.int .i64 0) 8 rfl Try.underlying38 info2 rfl (by decide) (by omega) v105 [3] 4 [.int .i64 4] (fun _ => True) (fun _ => False) rfl rfl ?aP (fun _ hk => hk.elim) ?aF ?aO ?aB ?aS ?aL ?_; (case aP => exact rfl); (case aB => exact (hbA H5)); (case aF => exact (fun _ _ => trivial)); (case aO => exact (krA HO)); (case aS => exact (below_size (hbA H5))); (case aL => decide); intro v106 w14 ho hb hg hat; replace H5 := mk0 hb; replace HO := mk0 ho; clear ho hb hg hat))
  rw [rounds_succ]
  go_wp2_with (first | fail)
  obtain ⟨O, co, rfl⟩ := Kd.R_slice HO.out
  refine (shape_Size_s.calls O co [3, 4] 12 0 _ (Kd.R_reads' HO.out).2.2 (Kd.R_reads' HO.out).2.1 (by decide +kernel)).mono ?_
  rintro e w15 ⟨rfl, hb⟩
  go_wp2_with (first | fail)
  go_ret2
  exact ⟨_, rfl, Kd.R_lower (Kd.R_below HO.out hb) HB.out.size, below_step (below_step HB.out H5.out) hb⟩
def slices_Clone_int64.f (l0 : List Int) : Option (List Int) := if l0.length < 17592186044416 then some l0 else none
set_option maxHeartbeats 8000000 in
set_option maxRecDepth 100000 in
theorem slices_Clone_int64.calls (A0 : Option Addr) (c0 : Nat) (l0 : List Int) (r : List Int) (w : World) (hr0 : Kd.C (Kd.int .i64) w A0 l0.length l0) (hc0 : l0.length ≤ c0) (h : slices_Clone_int64.f l0 = some r) :
    Calls Try.prog 26 #[.slice A0 l0.length c0] w fun e w' => ∃ v0_ : Value, e = .returned (v0_) ∧ Kd.R (Kd.int .i64) 2 w' w.heap.size (fun k_ => w.heap.size ≤ k_) v0_ r ∧ Below w.heap.size w w' := by
  unfold slices_Clone_int64.f at h
  by_cases hl : l0.length < 17592186044416
  · rw [if_pos hl] at h
    obtain rfl := Option.some.inj h
    have LM := Aside0.mk hl
    have HR0 := Aside0.mk hr0
    have HB := Aside0.mk (Below.refl w.heap.size w)
    have q0 : ∀ w, (binOp .eql 38 (.slice A0 l0.length c0) (.slice none 0 0)).run Try.prog w = .ok (.bool A0.isNone) w := fun w => Lib.run_eql_slice_nil w 38 2 A0 l0.length c0 0 0 Try.underlying38
    clear h hl hr0
    cases A0 with
    | none =>
      have hn : l0 = [] := by
        rcases Nat.eq_zero_or_pos l0.length with h0 | h0
        · exact List.eq_nil_of_length_eq_zero h0
        · exfalso
          obtain ⟨ad, h1, _⟩ := (Kd.reads_of_C (enc := Value.int .i64) (d := (0 : Int)) (h1 := fun _ => rfl) HR0.out).2.2 h0
          cases h1
      have Hn := Aside0.mk hn
      clear hn
      have q1 : ∀ w, (binOp .eql 38 (.slice none l0.length c0) (.slice none 0 0)).run Try.prog w = .ok (.bool true) w := fun w => q0 w
      clear q0
      go_enter Try.func26, Try.ntmps26
      go_wp2
      go_ret
      exact ⟨_, rfl, by rw [Hn.out]; exact Kd.R_nil _ _ _ _ _, Below.refl _ _⟩
    | some ad =>
      have q1 : ∀ w, (binOp .eql 38 (.slice (some ad) l0.length c0) (.slice none 0 0)).run Try.prog w = .ok (.bool false) w := fun w => q0 w
      clear q0
      go_enter Try.func26, Try.ntmps26
      go_wp2_with (first | ((with_reducible refine gate_dst (N := 5) rfl ?_); refine Kd.R_lit (Kd.int .i64) _ 2 ?hg (N := 5) ?hd (xs := ([] : List Int)) (inner := []) (ok := fun k_ => w.heap.size ≤ k_) (okp := fun k_ => w.heap.size ≤ k_) ?hr ?hp (fun _ hk => hk) (Nat.le_refl _) (Below.refl _ _) (Nat.le_refl _) (by simp) ?_; (case hd => rfl); (case hg => rfl); (case hr => first | (go_simp; done) | (go_simp; rfl)); (case hp => exact (Reps.none _ _)); intro v102 w7 ho8 hb hg_ hnew_; clear hg_ hnew_; have n0_ := Aside0.mk (Kd.R_lower ho8 (below_size HB.out)); have n1_ := Aside0.mk (below_step HB.out hb); clear HB; have HO103 := n0_; have HB := n1_; clear n0_ n1_; clear hb ho8) | ((with_reducible refine gate_builtin (b := .append) (xs := #[.tmp 5, .tmp 6]) rfl ?_); at_builtin; refine Kd.R_append_rows (Kd.int .i64) (w0 := w) w.heap.size rfl (.tmp 5) (.tmp 6) 38 2 (.int .i64 0) 8 rfl Try.underlying38 info2 rfl (by decide) (by omega) v102 [] l0 _ _ _ (fun k_ => w.heap.size ≤ k_) (fun _ => False) rfl rfl ?aO ?aR (fun _ _ h => h) (fun _ h => h.elim) ?aF ?aB ?aS ?aL ?_; (case aR => exact (Kd.C_below HR0.out HB.out)); (case aB => exact HB.out); (case aF => exact (fun _ h => Nat.le_trans (below_size HB.out) h)); (case aO => exact HO103.out); (case aS => exact (below_size HB.out)); (case aL => have := LM.out; simp; omega); intro v106 w10 ho hb hg hat; have n0_ := Aside0.mk (hb); have n1_ := Aside0.mk (ho); clear HB; clear HO103; have HB := n0_; have HO107 := n1_; clear n0_ n1_; clear ho hb hg hat))
      go_ret
      exact ⟨_, rfl, HO107.out, HB.out⟩
  · rw [if_neg hl] at h; cases h
def Sh.lays166_ren : Go.Shelf.Ren := ⟨fun | 166 => 61 | 240 => 67 | 276 => 72 | n => n, fun | 0 => 0 | 3 => 3 | 4 => 4 | 5 => 5 | 9 => 9 | 20 => 20 | 37 => 113 | 70 => 112 | 72 => 115 | 75 => 117 | 80 => 100 | 164 => 140 | n => n, fun | n => n⟩
theorem Sh.lays166 : Go.Proofs.Lays.n166 Try.prog Sh.lays166_ren := {
  mixed := by kernel_rfl
  f166 := Try.func61.trans (congrArg some (by kernel_rfl))
  f240 := Try.func67.trans (congrArg some (by kernel_rfl))
  f276 := Try.func72.trans (congrArg some (by kernel_rfl))
  t0 := Try.underlying0
  a0 := Try.isAgg0
  z0 := Try.sizeOf0
  v0 := Try.zeroValue0
  t3 := Try.underlying3
  a3 := Try.isAgg3
  z3 := Try.sizeOf3
  v3 := Try.zeroValue3
  t4 := Try.underlying4
  a4 := Try.isAgg4
  z4 := Try.sizeOf4
  v4 := Try.zeroValue4
  t9 := Try.underlying9
  a9 := Try.isAgg9
  z9 := Try.sizeOf9
  v9 := Try.zeroValue9
  t20 := Try.underlying20
  a20 := Try.isAgg20
  z20 := Try.sizeOf20
  v20 := Try.zeroValue20
  t37 := Try.underlying113
  a37 := Try.isAgg113
  z37 := Try.sizeOf113
  v37 := Try.zeroValue113
  t70 := Try.underlying112
  a70 := Try.isAgg112
  z70 := Try.sizeOf112
  v70 := Try.zeroValue112
  t72 := Try.underlying115
  a72 := Try.isAgg115
  z72 := Try.sizeOf115
  v72 := Try.zeroValue115
  t75 := Try.underlying117
  a75 := Try.isAgg117
  z75 := Try.sizeOf117
  v75 := Try.zeroValue117
  t164 := Try.underlying140
  a164 := Try.isAgg140
  z164 := Try.sizeOf140
  v164 := Try.zeroValue140 }
theorem Sh.Builder_Extra_166 : Go.Proofs.Builder.Extra Try.prog Sh.lays166_ren := {
  sizeBuilder := by kernel_rfl
  liesBuilder := by kernel_rfl
  t5 := Try.underlying5
  a5 := Try.isAgg5
  z5 := Try.sizeOf5
  v5 := Try.zeroValue5
  infoByte := by kernel_rfl
  cellsByte := by kernel_rfl
  sizeByte := by kernel_rfl
  neB5 := by decide }
theorem Sh.WriteString (B b : Nat) (bs : List Value) (s : ByteArray) (w : World) (h : Lib.IsBuilder 115 5 B b bs w) (hlen : bs.length + s.size ≤ 140737488355328) (hBw : B ≤ w.heap.size) :
    Calls Try.prog 61 #[.pointer (some ⟨b, 0, none⟩), .string s] w fun e w' => e = .returned (.tuple #[.int .i64 s.size, .nilIface]) ∧ (Lib.BuilderAt 115 5 B b (.pointer (some ⟨b, 0, none⟩)) (bs ++ Lib.strCells s) w' ∧ Below B w w') :=
  Go.Proofs.Any.Builder_WriteString Sh.lays166 Sh.Builder_Extra_166 B b bs s w h hlen hBw
theorem builderAt_below {T e : TypeId} {B b : Nat} {p : Value} {bs : List Value} {w w1 : World} (h : Lib.BuilderAt T e B b p bs w) (hb : Below w.heap.size w w1) : Lib.BuilderAt T e B b p bs w1 := by
  have hlt := h.lt
  obtain ⟨hB, v, hbk, hown, hne⟩ := h
  exact ⟨hB, v, (hb.block b hlt).trans hbk, own_move hown (fun k hk => hb.block k (own_lt hown k hk)), hne⟩
theorem isBuilder_below {T e : TypeId} {B b : Nat} {bs : List Value} {w w1 : World} (h : Lib.IsBuilder T e B b bs w) (hb : Below w.heap.size w w1) : Lib.IsBuilder T e B b bs w1 := by
  rcases h with h | h
  · exact .inl (builderAt_below h hb)
  · exact .inr (builderAt_below h hb)
theorem byteCells_append (a b : ByteArray) : Lib.byteCells a.data.toList ++ Lib.strCells b = Lib.byteCells (a ++ b).data.toList := by
  simp [Lib.byteCells, Lib.strCells, ByteArray.data_append]
theorem builder_lies {B b : Nat} {l : List UInt8} {w : World} (h : Lib.IsBuilder 115 5 B b (Lib.byteCells l) w) (h0 : l ≠ []) :
    ∃ p g cap cur, B ≤ g ∧ g < w.heap.size ∧ b < w.heap.size ∧ w.heap[b]? = some (.cells #[p, .slice (some ⟨g, 0, none⟩) l.length cap] 115 (0, 0)) ∧ w.heap[g]? = some (.cells cur 5 (0, 0)) ∧ l.length ≤ cap ∧ cap ≤ maxLen ∧ cur.size = cap ∧ cur.toList.take l.length = Lib.byteCells l := by
  obtain ⟨p, hB, v, hbk, hown, hne⟩ : ∃ p, Lib.BuilderAt 115 5 B b p (Lib.byteCells l) w := by
    rcases h with h | h
    · exact ⟨_, h⟩
    · exact ⟨_, h⟩
  have hl0 : l.length ≠ 0 := by simpa using h0
  rw [Lib.byteCells_length] at hown
  rcases hown.2 with ⟨_, hz⟩ | ⟨g, cap, cur, rfl, hbg, hg, hnc, hcm, hcs, ht⟩
  · exact absurd hz hl0
  · rw [Nat.mul_one] at hcs ht
    exact ⟨p, g, cap, cur, hbg, blk_lt hg, blk_lt hbk, hbk, hg, hnc, hcm, hcs, ht⟩
theorem byte_cell {l : List UInt8} {cur : Array Value} {w : World} {g : Nat} (hg : w.heap[g]? = some (.cells cur 5 (0, 0))) (ht : cur.toList.take l.length = Lib.byteCells l) : ∀ j x, l[j]? = some x → w.cell? ((⟨g, 0, none⟩ : Addr).add j) = some (.int .u8 x.toNat) := by
  intro j x hx
  have hj : j < l.length := (List.getElem?_eq_some_iff.1 hx).1
  have h1 : (Lib.byteCells l)[j]? = some (.int .u8 x.toNat) := by simp [Lib.byteCells, hx]
  rw [← ht, List.getElem?_take] at h1
  rw [if_pos hj, Array.getElem?_toList] at h1
  have h2 : w.cell? ⟨g, j, none⟩ = cur[j]? := blk_cell hg j
  rw [← h1, ← h2]
  unfold Addr.add
  split
  · rename_i h0; subst h0; rfl
  · simp
theorem freeze_kept (w : World) (g n : Nat) : Kept w (w.drew.freeze ⟨g, 0, none⟩ n) (fun k => k = g) := by
  unfold World.freeze
  split
  · exact ⟨Nat.le_refl _, fun _ _ _ => rfl⟩
  · refine ⟨by show w.heap.size ≤ (w.heap.modify _ _).size; rw [Array.size_modify]; exact Nat.le_refl _, fun i hi hne => ?_⟩
    show (w.heap.modify g _)[i]? = _
    rw [Array.getElem?_modify]
    rw [if_neg (fun e => hne e.symm)]
set_option maxHeartbeats 4000000 in
set_option maxRecDepth 100000 in
theorem sh_String.calls (b g cap : Nat) (p : Value) (cur : Array Value) (l : List UInt8) (w : World) (h0 : l ≠ []) (hb : w.heap[b]? = some (.cells #[p, .slice (some ⟨g, 0, none⟩) l.length cap] 115 (0, 0))) (hg : w.heap[g]? = some (.cells cur 5 (0, 0))) (hnc : l.length ≤ cap) (hcm : cap ≤ maxLen) (hcs : cur.size = cap) (ht : cur.toList.take l.length = Lib.byteCells l) :
    Calls Try.prog 62 #[.pointer (some ⟨b, 0, none⟩)] w fun e w' => e = .returned (.string ⟨l.toArray⟩) ∧ w' = w.drew.freeze ⟨g, 0, none⟩ l.length := by
  have hl0 : l.length ≠ 0 := by simpa using h0
  have c1 : w.drew.cell? ⟨b, 1, none⟩ = some (.slice (some ⟨g, 0, none⟩) l.length cap) := (blk_cell (w := w.drew) hb 1).trans rfl
  have q1 : (Builtin.unsafeSliceData_ #[113] 131 #[.slice (some ⟨g, 0, none⟩) l.length cap]).run Try.prog w.drew = .ok (.pointer (some ⟨g, 0, none⟩)) w.drew :=
    Lib.run_unsafeSliceData_row _ _ _ _ _ _ (by omega)
  have q2 : (Builtin.unsafeString_ #[131, 3] 9 #[.pointer (some ⟨g, 0, none⟩), .int .i64 l.length]).run Try.prog w.drew = .ok (.string ⟨l.toArray⟩) (w.drew.freeze ⟨g, 0, none⟩ l.length) :=
    Lib.run_unsafeString_row w.drew 131 3 9 5 Try.underlying131 (by kernel_rfl) g cur.size (by have hg' : w.drew.heap[g]? = some (.cells cur 5 (0, 0)) := hg; simp [World.shape?, hg']) l h0 (by omega) (by unfold maxLen at hcm; omega) (byte_cell (w := w.drew) hg ht)
  have hne : b ≠ g := blk_ne hb hg (by decide)
  have q3 : (w.drew.freeze ⟨g, 0, none⟩ l.length).cell? ⟨b, 1, none⟩ = some (.slice (some ⟨g, 0, none⟩) l.length cap) := (blk_cell (((freeze_kept w g l.length).2 b (blk_lt hb) hne).trans hb) 1).trans rfl
  clear hb hg hcs ht hnc hcm hne
  go_enter Try.func62, Try.ntmps62
  go_wp2
  go_region_held3 (fun w' => w'.cell? ⟨b, 1, none⟩ = some (.slice (some ⟨g, 0, none⟩) l.length cap)) (go_keep) (first | (fail))
  all_goals (go_wp2; go_ret; exact ⟨rfl, rfl⟩)
def by8 (n : Int) (j : Nat) : Int := IntKind.u64.wrap n / 256 ^ j % 256
def laid8 (n : Int) : ByteArray := strOfNums [by8 n 0, by8 n 1, by8 n 2, by8 n 3, by8 n 4, by8 n 5, by8 n 6, by8 n 7]
def arr8 (n : Int) (i : Nat) : Array Value := #[.int .u8 (if 0 < i then by8 n 0 else 0), .int .u8 (if 1 < i then by8 n 1 else 0), .int .u8 (if 2 < i then by8 n 2 else 0), .int .u8 (if 3 < i then by8 n 3 else 0), .int .u8 (if 4 < i then by8 n 4 else 0), .int .u8 (if 5 < i then by8 n 5 else 0), .int .u8 (if 6 < i then by8 n 6 else 0), .int .u8 (if 7 < i then by8 n 7 else 0)]
theorem arr8_string (n : Int) {W : World} {g : Nat} (h : W.heap[g]? = some (.cells (arr8 n 8) 120 (0, 0))) : (convert 113 9 (.slice (some ⟨g, 0, none⟩) 8 8)).run Try.prog W = .ok (.string (laid8 n)) W := by
  refine string_of_reads Try.underlying113 Try.underlying5 Try.underlying9 ⟨rfl, by decide, fun _ => ⟨_, rfl, ?_⟩⟩
  intro j hj
  have hc : ∀ i, W.cell? ⟨g, i, none⟩ = (arr8 n 8)[i]? := fun i => blk_cell h i
  have : j = 0 ∨ j = 1 ∨ j = 2 ∨ j = 3 ∨ j = 4 ∨ j = 5 ∨ j = 6 ∨ j = 7 := by omega
  rcases this with rfl | rfl | rfl | rfl | rfl | rfl | rfl | rfl <;> simp [Addr.add, hc, arr8]
set_option maxHeartbeats 8000000 in
theorem tensor_laid.calls (n : Int) (w : World) :
    Calls Try.prog 48 #[.int .i64 n] w fun e w' => e = .returned (.string (laid8 n)) ∧ Below w.heap.size w w' := by
  go_enter Try.func48, Try.ntmps48
  go_wp2
  have HBk := Aside0.mk (show (w.alloc (Obj.cells #[.int .u8 0, .int .u8 0, .int .u8 0, .int .u8 0, .int .u8 0, .int .u8 0, .int .u8 0, .int .u8 0] 120)).heap[w.heap.size]? = some (.cells (arr8 n 0) 120 (0, 0)) from blk_new w _)
  have HB := Aside0.mk (below_alloc (Below.refl w.heap.size w) (Obj.cells #[.int .u8 0, .int .u8 0, .int .u8 0, .int .u8 0, .int .u8 0, .int .u8 0, .int .u8 0, .int .u8 0] 120))
  go_loopg [5] 8 (fun kq v5 w' => ∃ i : Nat, v5 = .int .i64 i ∧ Aside0 (i + kq = 8) ∧ i ≤ 8 ∧ Aside0 (w'.heap[w.heap.size]? = some (.cells (arr8 n i) 120 (0, 0))) ∧ Aside0 (Below w.heap.size w w'))
  case atStart => exact ⟨0, rfl, ⟨by omega⟩, Nat.zero_le _, HBk, HB⟩
  case round =>
    clear HBk HB
    obtain ⟨i, rfl, HK, hi, HBk, HB⟩ := hrel
    have h5 : i = 0 ∨ i = 1 ∨ i = 2 ∨ i = 3 ∨ i = 4 ∨ i = 5 ∨ i = 6 ∨ i = 7 ∨ i = 8 := by omega
    rcases h5 with rfl | rfl | rfl | rfl | rfl | rfl | rfl | rfl | rfl
    · obtain ⟨kk, rfl⟩ : ∃ m, gk = m + 1 := ⟨gk - 1, by have := HK.out; omega⟩
      have c0 : wr.cell? ⟨w.heap.size, 0, none⟩ = some (.int .u8 0) := (blk_cell HBk.out 0).trans rfl
      have f0 := blk_frozen HBk.out 0
      go_wp2_with (first | (fail))
      go_roundg kk
      case measure => have := HK.out; omega
      case rel => exact ⟨1, rfl, ⟨by have := HK.out; omega⟩, by omega, ⟨(blk_put HBk.out 0 _ rfl).trans (by simp [arr8, by8])⟩, ⟨below_set HB.out (Nat.le_refl _)⟩⟩
    · obtain ⟨kk, rfl⟩ : ∃ m, gk = m + 1 := ⟨gk - 1, by have := HK.out; omega⟩
      have c0 : wr.cell? ⟨w.heap.size, 1, none⟩ = some (.int .u8 0) := (blk_cell HBk.out 1).trans rfl
      have f0 := blk_frozen HBk.out 1
      go_wp2_with (first | (fail))
      go_roundg kk
      case measure => have := HK.out; omega
      case rel => exact ⟨2, rfl, ⟨by have := HK.out; omega⟩, by omega, ⟨(blk_put HBk.out 1 _ rfl).trans (by simp [arr8, by8])⟩, ⟨below_set HB.out (Nat.le_refl _)⟩⟩
    · obtain ⟨kk, rfl⟩ : ∃ m, gk = m + 1 := ⟨gk - 1, by have := HK.out; omega⟩
      have c0 : wr.cell? ⟨w.heap.size, 2, none⟩ = some (.int .u8 0) := (blk_cell HBk.out 2).trans rfl
      have f0 := blk_frozen HBk.out 2
      go_wp2_with (first | (fail))
      go_roundg kk
      case measure => have := HK.out; omega
      case rel => exact ⟨3, rfl, ⟨by have := HK.out; omega⟩, by omega, ⟨(blk_put HBk.out 2 _ rfl).trans (by simp [arr8, by8])⟩, ⟨below_set HB.out (Nat.le_refl _)⟩⟩
    · obtain ⟨kk, rfl⟩ : ∃ m, gk = m + 1 := ⟨gk - 1, by have := HK.out; omega⟩
      have c0 : wr.cell? ⟨w.heap.size, 3, none⟩ = some (.int .u8 0) := (blk_cell HBk.out 3).trans rfl
      have f0 := blk_frozen HBk.out 3
      go_wp2_with (first | (fail))
      go_roundg kk
      case measure => have := HK.out; omega
      case rel => exact ⟨4, rfl, ⟨by have := HK.out; omega⟩, by omega, ⟨(blk_put HBk.out 3 _ rfl).trans (by simp [arr8, by8])⟩, ⟨below_set HB.out (Nat.le_refl _)⟩⟩
    · obtain ⟨kk, rfl⟩ : ∃ m, gk = m + 1 := ⟨gk - 1, by have := HK.out; omega⟩
      have c0 : wr.cell? ⟨w.heap.size, 4, none⟩ = some (.int .u8 0) := (blk_cell HBk.out 4).trans rfl
      have f0 := blk_frozen HBk.out 4
      go_wp2_with (first | (fail))
      go_roundg kk
      case measure => have := HK.out; omega
      case rel => exact ⟨5, rfl, ⟨by have := HK.out; omega⟩, by omega, ⟨(blk_put HBk.out 4 _ rfl).trans (by simp [arr8, by8])⟩, ⟨below_set HB.out (Nat.le_refl _)⟩⟩
    · obtain ⟨kk, rfl⟩ : ∃ m, gk = m + 1 := ⟨gk - 1, by have := HK.out; omega⟩
      have c0 : wr.cell? ⟨w.heap.size, 5, none⟩ = some (.int .u8 0) := (blk_cell HBk.out 5).trans rfl
      have f0 := blk_frozen HBk.out 5
      go_wp2_with (first | (fail))
      go_roundg kk
      case measure => have := HK.out; omega
      case rel => exact ⟨6, rfl, ⟨by have := HK.out; omega⟩, by omega, ⟨(blk_put HBk.out 5 _ rfl).trans (by simp [arr8, by8])⟩, ⟨below_set HB.out (Nat.le_refl _)⟩⟩
    · obtain ⟨kk, rfl⟩ : ∃ m, gk = m + 1 := ⟨gk - 1, by have := HK.out; omega⟩
      have c0 : wr.cell? ⟨w.heap.size, 6, none⟩ = some (.int .u8 0) := (blk_cell HBk.out 6).trans rfl
      have f0 := blk_frozen HBk.out 6
      go_wp2_with (first | (fail))
      go_roundg kk
      case measure => have := HK.out; omega
      case rel => exact ⟨7, rfl, ⟨by have := HK.out; omega⟩, by omega, ⟨(blk_put HBk.out 6 _ rfl).trans (by simp [arr8, by8])⟩, ⟨below_set HB.out (Nat.le_refl _)⟩⟩
    · obtain ⟨kk, rfl⟩ : ∃ m, gk = m + 1 := ⟨gk - 1, by have := HK.out; omega⟩
      have c0 : wr.cell? ⟨w.heap.size, 7, none⟩ = some (.int .u8 0) := (blk_cell HBk.out 7).trans rfl
      have f0 := blk_frozen HBk.out 7
      go_wp2_with (first | (fail))
      go_roundg kk
      case measure => have := HK.out; omega
      case rel => exact ⟨8, rfl, ⟨by have := HK.out; omega⟩, by omega, ⟨(blk_put HBk.out 7 _ rfl).trans (by simp [arr8, by8])⟩, ⟨below_set HB.out (Nat.le_refl _)⟩⟩
    · have r3 := arr8_string n HBk.out
      go_wp2_with (first | (fail))
      go_ret
      exact ⟨rfl, HB.out⟩
def catLaid : List Int → ByteArray
  | [] => ⟨#[]⟩
  | x :: l => laid8 x ++ catLaid l
theorem catLaid_snoc (l : List Int) (x : Int) : catLaid (l ++ [x]) = catLaid l ++ laid8 x := by
  induction l with
  | nil => apply ByteArray.ext; simp [catLaid, ByteArray.data_append]
  | cons y l ih => rw [List.cons_append, catLaid, ih, catLaid, ByteArray.append_assoc]
theorem laid8_size (n : Int) : (laid8 n).size = 8 := strOfNums_size _
theorem catLaid_size (l : List Int) : (catLaid l).size = 8 * l.length := by
  induction l with
  | nil => rfl
  | cons x l ih => rw [catLaid, ByteArray.size_append, ih, laid8_size, List.length_cons]; omega
theorem alloc_size (w : World) (o : Obj) : (w.alloc o).heap.size = w.heap.size + 1 := Array.size_push _
theorem below_low {b B : Nat} {w w1 : World} (h : Below B w w1) (hb : b ≤ B) : Below b w w1 := ⟨h.os, h.tape, h.output, h.size, fun i hi => h.block i (by omega)⟩
set_option maxHeartbeats 8000000 in
set_option maxRecDepth 100000 in
theorem of_ints.calls (name : ByteArray) (k : Int) (A0 : Option Addr) (c0 : Nat) (l0 : List Int) (A1 : Option Addr) (c1 : Nat) (l1 : List Int) (w : World) (hr0 : Kd.C (Kd.int .i64) w A0 l0.length l0) (hc0 : l0.length ≤ c0) (hr1 : Kd.C (Kd.int .i64) w A1 l1.length l1) (hc1 : l1.length ≤ c1) (hl0 : l0.length ≤ 1000000) (hl1 : l1.length ≤ 1000000) (hn1 : l1 ≠ []) :
    Calls Try.prog 47 #[.string name, .int .i64 k, .slice A0 l0.length c0, .slice A1 l1.length c1, .func (Fn.func 48) #[] #[]] w fun e w' => ∃ v2_, e = .returned (.agg #[.string name, .int .i64 k, v2_, .string (catLaid l1)]) ∧ Kd.R (Kd.int .i64) 2 w' w.heap.size (fun k_ => w.heap.size ≤ k_) v2_ l0 ∧ Below w.heap.size w w' := by
  have HR0 := Aside0.mk hr0
  have HC0 := Aside0.mk hc0
  have HL0 := Aside0.mk hl0
  have HR1 := Aside0.mk hr1
  have HC1 := Aside0.mk hc1
  have HL := Aside0.mk hl1
  clear hr0 hc0 hl0 hr1 hc1 hl1
  go_enter Try.func47, Try.ntmps47
  go_wp2
  have HRb := Aside0.mk (show ((w.alloc (Obj.cells #[Value.string { data := #[] }, Value.int IntKind.i64 0, Value.slice none 0 0, Value.string { data := #[] }] 42)).alloc (Obj.cells #[Value.pointer none, Value.slice none 0 0] 115)).heap[w.heap.size]? = some (Obj.cells #[Value.string { data := #[] }, Value.int IntKind.i64 0, Value.slice none 0 0, Value.string { data := #[] }] 42) from blk_alloc (blk_new w _) _)
  have HB := Aside0.mk (below_alloc (below_alloc (Below.refl w.heap.size w) (Obj.cells #[Value.string { data := #[] }, Value.int IntKind.i64 0, Value.slice none 0 0, Value.string { data := #[] }] 42)) (Obj.cells #[Value.pointer none, Value.slice none 0 0] 115))
  have HI : Aside0 (Lib.IsBuilder 115 5 (w.heap.size + 1) (w.heap.size + 1) (Lib.byteCells (catLaid (l1.take 0)).data.toList) ((w.alloc (Obj.cells #[Value.string { data := #[] }, Value.int IntKind.i64 0, Value.slice none 0 0, Value.string { data := #[] }] 42)).alloc (Obj.cells #[Value.pointer none, Value.slice none 0 0] 115))) := ⟨by
    have h := Lib.fresh_isBuilder 115 5 (w.alloc (Obj.cells #[Value.string { data := #[] }, Value.int IntKind.i64 0, Value.slice none 0 0, Value.string { data := #[] }] 42))
    have e : (w.alloc (Obj.cells #[Value.string { data := #[] }, Value.int IntKind.i64 0, Value.slice none 0 0, Value.string { data := #[] }] 42)).heap.size = w.heap.size + 1 := alloc_size _ _
    rw [e] at h
    exact h⟩
  go_loopg [16] l1.length (fun kq v16 w' => ∃ i : Nat, v16 = .int .i64 i ∧ Aside0 (i + kq = l1.length) ∧ i ≤ l1.length ∧ Aside0 (Lib.IsBuilder 115 5 (w.heap.size + 1) (w.heap.size + 1) (Lib.byteCells (catLaid (l1.take i)).data.toList) w') ∧ Aside0 (w'.heap[w.heap.size]? = some (Obj.cells #[Value.string { data := #[] }, Value.int IntKind.i64 0, Value.slice none 0 0, Value.string { data := #[] }] 42)) ∧ Aside0 (w.heap.size + 1 ≤ w'.heap.size) ∧ Aside0 (Below w.heap.size w w'))
  case atStart => exact ⟨0, rfl, ⟨by omega⟩, Nat.zero_le _, HI, HRb, ⟨by rw [alloc_size, alloc_size]; omega⟩, HB⟩
  case round =>
    clear HRb HB HI
    obtain ⟨i, rfl, HK, hi, HI, HRb, HS, HB⟩ := hrel
    by_cases hlt : i < l1.length
    · have hlt' : decide ((i : Int) < (l1.length : Int)) = true := by simpa using hlt
      obtain ⟨kk, rfl⟩ : ∃ m, gk = m + 1 := ⟨gk - 1, by have := HK.out; omega⟩
      have Hcat : Aside0 (Lib.byteCells (catLaid (l1.take i)).data.toList ++ Lib.strCells (laid8 (rd l1 i)) = Lib.byteCells (catLaid (l1.take (i + 1))).data.toList) := ⟨by
        rw [byteCells_append, List.take_succ_eq_append_getElem hlt, catLaid_snoc]
        simp [rd, List.getD_eq_getElem?_getD, hlt]⟩
      have Hlen : Aside0 ((Lib.byteCells (catLaid (l1.take i)).data.toList).length + (laid8 (rd l1 i)).size ≤ 140737488355328) := ⟨by
        have h1 := catLaid_size (l1.take i)
        have h3 : (Lib.byteCells (catLaid (l1.take i)).data.toList).length = (catLaid (l1.take i)).size := by simp [Lib.byteCells]
        have h4 := HL.out
        rw [List.length_take] at h1
        rw [laid8_size, h3]
        omega⟩
      have Hw : Aside0 (wrap64 ((i : Int) + 1) = (i : Int) + 1) := ⟨by have := HL.out; exact wrap64_id (by omega) (by omega)⟩
      have p101 : 0 ≤ (i : Int) := Int.natCast_nonneg i
      have q101 : (i : Int) < (l1.length : Int) := by omega
      obtain ⟨ad101, e101, hx101_0⟩ := Kd.at_int HR1.out i p101 q101
      cases e101
      replace hx101_0 := (HB.out.cell (World.block_lt_of_cell? w _ hx101_0)).trans hx101_0
      rw [Int.toNat_natCast] at hx101_0
      replace p101 := eq_true p101
      replace q101 := eq_true q101
      go_wp2_with (first | (fail))
      refine (tensor_laid.calls (rd l1 i) _).mono ?_
      rintro e w8 ⟨rfl, hb⟩
      have n0_ := Aside0.mk (below_step HB.out hb)
      have n1_ := Aside0.mk (isBuilder_below HI.out hb)
      have n2_ := Aside0.mk (blk_below HRb.out hb)
      have n3_ := Aside0.mk (Nat.le_trans HS.out hb.size)
      clear HB HI HRb HS hb
      have HB := n0_; have HI := n1_; have HRb := n2_; have HS := n3_
      clear n0_ n1_ n2_ n3_
      go_wp2_with (first | (fail))
      refine (Sh.WriteString (w.heap.size + 1) (w.heap.size + 1) _ (laid8 (rd l1 i)) _ HI.out Hlen.out HS.out).mono ?_
      rintro e w9 ⟨rfl, hi8, hb⟩
      have n0_ := Aside0.mk (HB.out.trans (below_low hb (Nat.le_succ _)))
      have n1_ := Aside0.mk (show Lib.IsBuilder 115 5 (w.heap.size + 1) (w.heap.size + 1) _ w9 from .inr hi8)
      have n2_ := Aside0.mk ((hb.block w.heap.size (Nat.lt_succ_self _)).trans HRb.out)
      have n3_ := Aside0.mk (Nat.le_trans HS.out hb.size)
      clear HB HI HRb HS hb hi8
      have HB := n0_; have HI := n1_; have HRb := n2_; have HS := n3_
      clear n0_ n1_ n2_ n3_
      go_wp2_with (first | (fail))
      go_roundg kk
      case measure => have := HK.out; omega
      case rel => exact ⟨i + 1, by rw [Hw.out]; rfl, ⟨by have := HK.out; omega⟩, by omega, ⟨by rw [← Hcat.out]; exact HI.out⟩, HRb, HS, HB⟩
    · have hlt' : decide ((i : Int) < (l1.length : Int)) = false := by simpa using hlt
      have Hi : Aside0 (l1.take i = l1) := ⟨List.take_of_length_le (by omega)⟩
      have HI2 : Aside0 (Lib.IsBuilder 115 5 (w.heap.size + 1) (w.heap.size + 1) (Lib.byteCells (catLaid l1).data.toList) wr) := ⟨by have := HI.out; rw [Hi.out] at this; exact this⟩
      have hne : (catLaid l1).data.toList ≠ [] := by
        intro e
        have h1 := catLaid_size l1
        have h2 : (catLaid l1).size = (catLaid l1).data.toList.length := (Array.length_toList).symm
        rw [e] at h2
        have h3 : l1.length ≠ 0 := fun h => hn1 (List.eq_nil_of_length_eq_zero h)
        rw [List.length_nil] at h2
        omega
      obtain ⟨p, g, cap, cur, hBg, hgl, hbl, hbk, hg, hnc, hcm, hcs, ht⟩ := builder_lies HI2.out hne
      have HBK := Aside0.mk hbk
      have HG := Aside0.mk hg
      have HT := Aside0.mk (And.intro hnc (And.intro hcm (And.intro hcs ht)))
      have HGL := Aside0.mk hgl
      have HBL := Aside0.mk hbl
      have HBG := Aside0.mk hBg
      have HNE := Aside0.mk hne
      clear hbk hg hnc hcm hcs ht hgl hbl hBg hne HI HI2
      have hlt2 : w.heap.size < wr.heap.size := by have := HS.out; omega
      go_wp2_with (first | (fail))
      refine (slices_Clone_int64.calls A0 c0 l0 l0 _ (Kd.C_below HR0.out HB.out) HC0.out (if_pos (by have := HL0.out; omega))).mono ?_
      rintro e w8 ⟨v2, rfl, hR, hb⟩
      obtain ⟨A2, c2, rfl⟩ := Kd.R_slice hR
      have n0_ := Aside0.mk (below_step HB.out hb)
      have n1_ := Aside0.mk (blk_below HRb.out hb)
      have n2_ := Aside0.mk (blk_below HBK.out hb)
      have n3_ := Aside0.mk (blk_below HG.out hb)
      have HO := Aside0.mk (Kd.R_lower hR (below_size HB.out))
      clear HB HRb HBK HG hb hR
      have HB := n0_; have HRb := n1_; have HBK := n2_; have HG := n3_
      clear n0_ n1_ n2_ n3_
      go_wp2_with (first | (fail))
      refine (sh_String.calls (w.heap.size + 1) g cap p cur _ _ HNE.out HBK.out HG.out HT.out.1 HT.out.2.1 HT.out.2.2.1 HT.out.2.2.2).mono ?_
      rintro e w9 ⟨rfl, hw9⟩
      have hk := freeze_kept w8 g (catLaid l1).data.toList.length
      rw [← hw9] at hk
      have n0_ := Aside0.mk (show Below w.heap.size w w9 by rw [hw9]; exact Lib.below_freeze (below_drew1 HB.out) (p := ⟨g, 0, none⟩) (by have := HBG.out; show w.heap.size ≤ g; omega) _)
      have n1_ := Aside0.mk ((hk.2 w.heap.size (blk_lt HRb.out) (by have := HBG.out; omega)).trans HRb.out)
      have HO2 := Aside0.mk (Kd.R_kept HO.out hk (fun k hk1 hk2 => by have := HGL.out; omega))
      clear HB HRb HO hk hw9 HBK HG
      have HB := n0_; have HRb := n1_
      clear n0_ n1_
      have cR0 : w9.cell? ⟨w.heap.size, 0, none⟩ = some (.string ⟨#[]⟩) := (blk_cell HRb.out 0).trans rfl
      have cR1 : w9.cell? ⟨w.heap.size, 1, none⟩ = some (.int .i64 0) := (blk_cell HRb.out 1).trans rfl
      have cR2 : w9.cell? ⟨w.heap.size, 2, none⟩ = some (.slice none 0 0) := (blk_cell HRb.out 2).trans rfl
      have cR3 : w9.cell? ⟨w.heap.size, 3, none⟩ = some (.string ⟨#[]⟩) := (blk_cell HRb.out 3).trans rfl
      have fR0 := blk_frozen HRb.out 0
      have fR1 := blk_frozen HRb.out 1
      have fR2 := blk_frozen HRb.out 2
      have fR3 := blk_frozen HRb.out 3
      go_wp2_with (first | (fail))
      refine bodyPost_ret (results_cell_row rfl _ _ w.heap.size 42 #[.string name, .int .i64 k, .slice A2 l0.length c2, .string ⟨(catLaid l1).data⟩] (0, 0) _ rfl (by refine blk_put (cs := #[.string name, .int .i64 k, .slice A2 l0.length c2, .string (⟨#[]⟩ : ByteArray)]) ?_ 3 _ rfl; refine blk_put (cs := #[.string name, .int .i64 k, .slice none 0 0, .string (⟨#[]⟩ : ByteArray)]) ?_ 2 _ rfl; refine blk_put (cs := #[.string name, .int .i64 0, .slice none 0 0, .string (⟨#[]⟩ : ByteArray)]) ?_ 1 _ rfl; refine blk_put (cs := #[.string (⟨#[]⟩ : ByteArray), .int .i64 0, .slice none 0 0, .string (⟨#[]⟩ : ByteArray)]) ?_ 0 _ rfl; exact HRb.out) Try.underlying42 rfl (by kernel_rfl)) rfl ?_
      have hfar : ∀ k_ : Nat, wr.heap.size ≤ k_ → k_ ≠ w.heap.size := fun k_ h => by omega
      exact ⟨_, rfl, Kd.R_mono (Kd.R_far (Kd.R_far (Kd.R_far (Kd.R_far HO2.out hfar _) hfar _) hfar _) hfar _) (fun k_ h => by omega), below_set (below_set (below_set (below_set HB.out (Nat.le_refl _)) (Nat.le_refl _)) (Nat.le_refl _)) (Nat.le_refl _)⟩
theorem tensor_OfInts0.calls (name : ByteArray) (A0 : Option Addr) (c0 : Nat) (l0 : List Int) (A1 : Option Addr) (c1 : Nat) (l1 : List Int) (w : World) (hr0 : Kd.C (Kd.int .i64) w A0 l0.length l0) (hc0 : l0.length ≤ c0) (hr1 : Kd.C (Kd.int .i64) w A1 l1.length l1) (hc1 : l1.length ≤ c1) (hl0 : l0.length ≤ 1000000) (hl1 : l1.length ≤ 1000000) (hn1 : l1 ≠ []) :
    Calls Try.prog 35 #[.string name, .slice A0 l0.length c0, .slice A1 l1.length c1] w fun e w' => ∃ v2_, e = .returned (.agg #[.string name, .int .i64 7, v2_, .string (catLaid l1)]) ∧ Kd.R (Kd.int .i64) 2 w' w.heap.size (fun k_ => w.heap.size ≤ k_) v2_ l0 ∧ Below w.heap.size w w' := by
  have HR0 := Aside0.mk hr0
  have HR1 := Aside0.mk hr1
  have HH := Aside0.mk (And.intro hc0 (And.intro hc1 (And.intro hl0 (And.intro hl1 hn1))))
  clear hr0 hr1 hc0 hc1 hl0 hl1 hn1
  go_enter Try.func35, Try.ntmps35
  go_wp2_with (first | (fail))
  have HRb := Aside0.mk (blk_new w (Obj.cells #[Value.string { data := #[] }, Value.int IntKind.i64 0, Value.slice none 0 0, Value.string { data := #[] }] 42))
  have HB := Aside0.mk (below_alloc (Below.refl w.heap.size w) (Obj.cells #[Value.string { data := #[] }, Value.int IntKind.i64 0, Value.slice none 0 0, Value.string { data := #[] }] 42))
  refine (of_ints.calls name 7 A0 c0 l0 A1 c1 l1 _ (Kd.C_below HR0.out HB.out) HH.out.1 (Kd.C_below HR1.out HB.out) HH.out.2.1 HH.out.2.2.1 HH.out.2.2.2.1 HH.out.2.2.2.2).mono ?_
  rintro e w8 ⟨v2, rfl, hR, hb⟩
  obtain ⟨A2, c2, rfl⟩ := Kd.R_slice hR
  have hlt : (w.alloc (Obj.cells #[Value.string { data := #[] }, Value.int IntKind.i64 0, Value.slice none 0 0, Value.string { data := #[] }] 42)).heap.size = w.heap.size + 1 := alloc_size _ _
  have n0_ := Aside0.mk (below_step HB.out hb)
  have n1_ := Aside0.mk (blk_below HRb.out hb)
  have HO := Aside0.mk (Kd.R_lower hR (below_size HB.out))
  rw [hlt] at HO
  clear HB HRb hb hR hlt
  have HB := n0_; have HRb := n1_
  clear n0_ n1_
  have cR0 : w8.cell? ⟨w.heap.size, 0, none⟩ = some (.string ⟨#[]⟩) := (blk_cell HRb.out 0).trans rfl
  have cR1 : w8.cell? ⟨w.heap.size, 1, none⟩ = some (.int .i64 0) := (blk_cell HRb.out 1).trans rfl
  have cR2 : w8.cell? ⟨w.heap.size, 2, none⟩ = some (.slice none 0 0) := (blk_cell HRb.out 2).trans rfl
  have cR3 : w8.cell? ⟨w.heap.size, 3, none⟩ = some (.string ⟨#[]⟩) := (blk_cell HRb.out 3).trans rfl
  have fR0 := blk_frozen HRb.out 0
  have fR1 := blk_frozen HRb.out 1
  have fR2 := blk_frozen HRb.out 2
  have fR3 := blk_frozen HRb.out 3
  go_wp2_with (first | (fail))
  refine bodyPost_ret (results_cell_row rfl _ _ w.heap.size 42 #[.string name, .int .i64 7, .slice A2 l0.length c2, .string (catLaid l1)] (0, 0) _ rfl (by refine blk_put (cs := #[.string name, .int .i64 7, .slice A2 l0.length c2, .string (⟨#[]⟩ : ByteArray)]) ?_ 3 _ rfl; refine blk_put (cs := #[.string name, .int .i64 7, .slice none 0 0, .string (⟨#[]⟩ : ByteArray)]) ?_ 2 _ rfl; refine blk_put (cs := #[.string name, .int .i64 0, .slice none 0 0, .string (⟨#[]⟩ : ByteArray)]) ?_ 1 _ rfl; refine blk_put (cs := #[.string (⟨#[]⟩ : ByteArray), .int .i64 0, .slice none 0 0, .string (⟨#[]⟩ : ByteArray)]) ?_ 0 _ rfl; exact HRb.out) Try.underlying42 rfl (by kernel_rfl)) rfl ?_
  have hfar : ∀ k_ : Nat, w.heap.size + 1 ≤ k_ → k_ ≠ w.heap.size := fun k_ h => by omega
  exact ⟨_, rfl, Kd.R_mono (Kd.R_far (Kd.R_far (Kd.R_far (Kd.R_far HO.out hfar _) hfar _) hfar _) hfar _) (fun k_ h => by omega), below_set (below_set (below_set (below_set HB.out (Nat.le_refl _)) (Nat.le_refl _)) (Nat.le_refl _)) (Nat.le_refl _)⟩
end Go.Proofs.Ytfejdnkmmjffcaa.X
