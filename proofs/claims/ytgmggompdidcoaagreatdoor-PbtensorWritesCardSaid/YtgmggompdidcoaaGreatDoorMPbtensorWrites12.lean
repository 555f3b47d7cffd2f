import Derived.Test.YtgmggompdidcoaaGreatDoorMPbtensorWrites2
import Derived.Test.YtgmggompdidcoaaGreatDoorMPbtensorWrites11
import Derived.Test.YtgmggompdidcoaaGreatDoorMPbtensorWrites3
import Derived.Test.YtgmggompdidcoaaGreatDoorMPbtensorWrites4
namespace Go.Proofs.YtgmggompdidcoaaGreatDoor.X
open Go.RowKit Go.Proofs.YtgmggompdidcoaaGreatDoorW.PrintWords Go.Proofs.YtgmggompdidcoaaGreatDoorW.PrintLast Go.Proofs.YtgmggompdidcoaaGreatDoorW.PrintMore
attribute [local go_sem] max2_int min2_int max_two min_two max_three min_three max_four min_four
set_option linter.unusedVariables false
set_option linter.unusedSimpArgs false
def pack_packed.l0 : Nat → List Int → ByteArray → Option (List Int × Int)
 | 0, _, _ => none
 | k + 1, x0, x1 => if x1.toList = ([] : List UInt8) then (some (x0, 0)) else ((varint_Read.f x1).bind fun bt101 => (if bt101.2.2 = 0 then (if (x0.length : Int) ≥ 65536 then (some (([] : List Int), 7)) else (if x0.length < 17592186044416 then (if 0 ≤ bt101.2.1 then (if bt101.2.1 ≤ (x1.size : Int) then (pack_packed.l0 k (x0 ++ [wrap64 (bt101.1)]) (x1.extract (bt101.2.1 : Int).toNat x1.size)) else (none)) else (none)) else (none))) else (some (([] : List Int), bt101.2.2))))
def pack_packed.f (k : Nat) (l0 : List Int) (a1 : ByteArray) : Option (List Int × Int) := pack_packed.l0 k l0 a1
set_option maxHeartbeats 8000000 in
set_option maxRecDepth 100000 in
theorem pack_packed.calls (k : Nat) (P0_ : Nat → Prop) (u9000_ : Value) (l0 : List Int) (a1 : ByteArray) (r1 : List Int) (r2 : Int) (w0 w : World) (hB : Below w0.heap.size w0 w) (ho0 : Kd.R (Kd.int .i64) 2 w w0.heap.size P0_ u9000_ l0) (h : pack_packed.f k l0 a1 = some (r1, r2)) :
  Calls Tryz.prog 82 #[u9000_, .string a1] w fun e w' => ∃ v0_ : Value, e = .returned (.tuple #[v0_, .int .i64 r2]) ∧ Kd.R (Kd.int .i64) 2 w' w0.heap.size (fun k_ => (P0_ k_ ∨ w.heap.size ≤ k_)) v0_ r1 ∧ Below w0.heap.size w0 w' ∧ Kept w w' (fun k_ => P0_ k_) := by
 have HO0 := mk0 (show Kd.R (Kd.int .i64) 2 w w0.heap.size (fun k_ => (P0_ k_ ∨ w.heap.size ≤ k_)) u9000_ l0 from Kd.R_mono ho0 (fun k_ hk => (.inl hk))); have HK := mk0 (Kept.refl w (fun k_ => P0_ k_)); have HW0 := mk0 hB.size; have HB := mk0 hB; clear hB; have H : (pack_packed.l0 k l0 a1) = some (r1, r2) := h; clear h; have H' := mk0 H; clear H
 go_enter Tryz.func82, Tryz.ntmps82
 go_wp2
 go_loopg [0, 1] k (fun kq v0 v1 w' => ∃ (x0_1 : List Int) (x1_1 : ByteArray), v1 = .string x1_1 ∧ Aside0 (pack_packed.l0 kq x0_1 x1_1 = some (r1, r2)) ∧ Aside0 (kq ≤ k) ∧ Aside0 (Kd.R (Kd.int .i64) 2 w' w0.heap.size (fun k_ => (P0_ k_ ∨ w.heap.size ≤ k_)) v0 x0_1) ∧ Aside0 (Kept w w' (fun k_ => P0_ k_)) ∧ Aside0 (Below w0.heap.size w0 w'))
 case atStart => exact ⟨(l0), (a1), cl0, H', ⟨Nat.le_refl _⟩, ⟨krA HO0⟩, ⟨by repeat (first | (with_reducible first | exact HK.out | apply Kept.alloc | apply Kept.drewN | apply Kept.drew) | exact HK.out)⟩, ⟨hbA HB⟩⟩
 case round =>
  clear H'; obtain ⟨x0_1, x1_1, rfl, HA, HK1, HO_0, HK, HB⟩ := hrel
  cases gk with
  | zero => exact absurd HA.out (by simp [pack_packed.l0])
  | succ k1 =>
   have H := HA.out; clear HA
   simp only [pack_packed.l0] at H
   by_cases c3 : x1_1.toList = ([] : List UInt8)
   ·
    rw [if_pos c3] at H; have c3b0 := beq_iff_eq.mpr c3; have c3b1 := bne_eq_false_iff_eq.mpr c3; clear c3
    simp only [Option.some.injEq, Prod.mk.injEq] at H
    obtain ⟨rfl, rfl⟩ := H
    go_wp2
    go_ret2
    exact ⟨_, cl3, krA HO_0, hbA HB, by repeat (first | (with_reducible first | exact HK.out | apply Kept.alloc | apply Kept.drewN | apply Kept.drew) | exact HK.out)⟩
   ·
    rw [if_neg c3] at H; have c3b0 := beq_eq_false_iff_ne.mpr c3; have c3b1 := bne_iff_ne.mpr c3; replace H := Option.bind_eq_some_iff.mp H; obtain ⟨⟨t101, t102, t103⟩, A40, H⟩ := H; replace H : (if t103 = 0 then (if (x0_1.length : Int) ≥ 65536 then (some (([] : List Int), 7)) else (if x0_1.length < 17592186044416 then (if 0 ≤ t102 then (if t102 ≤ (x1_1.size : Int) then (pack_packed.l0 k1 (x0_1 ++ [wrap64 (t101)]) (x1_1.extract (t102 : Int).toNat x1_1.size)) else (none)) else (none)) else (none))) else (some (([] : List Int), t103))) = some (r1, r2) := H; have A4 := mk0 A40; clear A40
    by_cases c5 : t103 = 0
    ·
     rw [if_pos c5] at H; have c5b0 := beq_iff_eq.mpr c5; have c5b1 := bne_eq_false_iff_eq.mpr c5; clear c5
     by_cases c6 : (x0_1.length : Int) ≥ 65536
     ·
      rw [if_pos c6] at H; have c6b0 := decide_eq_true c6; have c6b1 : decide (65536 ≤ x0_1.length) = true := decide_eq_true (by omega); clear c6
      simp only [Option.some.injEq, Prod.mk.injEq] at H
      obtain ⟨rfl, rfl⟩ := H
      go_wp2_with (first | ((with_reducible refine gate_callee (f := 97) rfl ?_); refine glE (some 13) rfl rfl Tryz.func97 (by kernel_rfl) rfl #[.string x1_1] rfl ?_; (with_reducible refine (varint_Read.calls x1_1 t101 t102 t103 _ A4.out).mono ?_); rintro e w' ⟨rfl, ⟨nd, rfl⟩⟩; refine ⟨_, rfl, ?_⟩; obtain ⟨Ao7, co7, eo7⟩ := Kd.R_slice HO_0.out; subst eo7))
      go_ret2
      exact ⟨_, cl3, by first | exact Kd.R_nil _ _ _ _ _ | exact Kd.N_nil _ _ _ _ _ | exact Kd.V_nil _ _ _ _ _ | exact Kd.Q_nil _ _ _ _ _ | exact Kd.S_nil _ _ _ _ _, hbA HB, by repeat (first | (with_reducible first | exact HK.out | apply Kept.alloc | apply Kept.drewN | apply Kept.drew) | exact HK.out)⟩
     ·
      rw [if_neg c6] at H; have c6b0 := decide_eq_false c6; have c6b1 : decide (65536 ≤ x0_1.length) = false := decide_eq_false (by omega); clear c6; replace H := ifS H; obtain ⟨c8, H⟩ := H; have LMc8 := mk0 c8; clear c8; obtain ⟨y104, hy104⟩ : ∃ y_ : List Int, y_ = (x0_1 ++ [wrap64 (t101)]) := ⟨_, rfl⟩; replace H : (if 0 ≤ t102 then (if t102 ≤ (x1_1.size : Int) then (pack_packed.l0 k1 y104 (x1_1.extract (t102 : Int).toNat x1_1.size)) else (none)) else (none)) = some (r1, r2) := by first | (rw [hy104]; with_reducible exact H) | (have H2_ := (Option.bind_some _ _).symm.trans H; rw [hy104]; with_reducible exact H2_) | (have H2_ := (Option.bind_some _ _).symm.trans H; with_reducible exact H2_) | with_reducible exact H | (rw [hy104]; exact H) | exact H
      have Ny104 := mk0 hy104; clear hy104; replace H := ifS H; obtain ⟨c9, H⟩ := H; have c9b0 := eq_true c9; have c9b1 := decide_eq_true c9; clear c9; replace H := ifS H; obtain ⟨c10, H⟩ := H; have c10b0 := eq_true c10; have c10b1 := decide_eq_true c10; clear c10; have H' := mk0 H; clear H
      go_wp2_with (first | ((with_reducible refine gate_callee (f := 97) rfl ?_); refine glE (some 13) rfl rfl Tryz.func97 (by kernel_rfl) rfl #[.string x1_1] rfl ?_; (with_reducible refine (varint_Read.calls x1_1 t101 t102 t103 _ A4.out).mono ?_); rintro e w' ⟨rfl, ⟨nd, rfl⟩⟩; refine ⟨_, rfl, ?_⟩; obtain ⟨Ao11, co11, eo11⟩ := Kd.R_slice HO_0.out; subst eo11) | ((with_reducible refine gate_builtin (b := .append) (xs := #[.tmp 25, .tmp 28]) rfl ?_); at_builtin; refine Kd.R_append (Kd.int .i64) (w0 := w0) w0.heap.size rfl (.tmp 25) (.tmp 28) 31 2 (.int .i64 0) 8 rfl Tryz.underlying31 info2 rfl (by decide) (by omega) (.slice Ao11 x0_1.length co11) x0_1 (wrap64 (t101)) [.int .i64 (wrap64 (t101))] (fun k_ => (P0_ k_ ∨ w.heap.size ≤ k_)) (fun _ => False) rfl rfl ?aP (fun _ hk => hk.elim) ?aF ?aO ?aB ?aS ?aL ?_; (case aP => exact rfl); (case aB => exact (hbA HB)); (case aF => exact (fun k_ hk => (.inr (Nat.le_trans (by first | exact HK.out.1 | exact (show Kept w _ (fun k_ => P0_ k_) from by repeat (first | (with_reducible first | exact HK.out | apply Kept.alloc | apply Kept.drewN | apply Kept.drew) | exact HK.out)).1) hk)))); (case aO => exact (krA HO_0)); (case aS => exact (below_size (hbA HB))); (case aL => have := LMc8.out; omega); intro v105 w12 ho hb hg hat; rw [← Ny104.out] at ho; replace HB := mk0 hb; replace HK := mk0 (Kept.of_grown (S := (fun k_ => P0_ k_)) hg (by repeat (first | (with_reducible first | exact HK.out | apply Kept.alloc | apply Kept.drewN | apply Kept.drew) | exact HK.out)) (fun k_ e_ => (HO_0.out.1 k_ e_))); have HO106 := mk0 ho; clear HO_0; clear ho hb hg hat))
      go_roundg k1
      case measure => have := HK1.out; omega
      case rel => exact ⟨(y104), (x1_1.extract (t102 : Int).toNat x1_1.size), cl0, H', cl2 HK1, ⟨krA HO106⟩, ⟨by repeat (first | (with_reducible first | exact HK.out | apply Kept.alloc | apply Kept.drewN | apply Kept.drew) | exact HK.out)⟩, ⟨hbA HB⟩⟩
    ·
     rw [if_neg c5] at H; have c5b0 := beq_eq_false_iff_ne.mpr c5; have c5b1 := bne_iff_ne.mpr c5
     simp only [Option.some.injEq, Prod.mk.injEq] at H
     obtain ⟨rfl, rfl⟩ := H
     go_wp2_with (first | ((with_reducible refine gate_callee (f := 97) rfl ?_); refine glE (some 13) rfl rfl Tryz.func97 (by kernel_rfl) rfl #[.string x1_1] rfl ?_; (with_reducible refine (varint_Read.calls x1_1 t101 t102 t103 _ A4.out).mono ?_); rintro e w' ⟨rfl, ⟨nd, rfl⟩⟩; refine ⟨_, rfl, ?_⟩))
     go_ret2
     exact ⟨_, cl3, by first | exact Kd.R_nil _ _ _ _ _ | exact Kd.N_nil _ _ _ _ _ | exact Kd.V_nil _ _ _ _ _ | exact Kd.Q_nil _ _ _ _ _ | exact Kd.S_nil _ _ _ _ _, hbA HB, by repeat (first | (with_reducible first | exact HK.out | apply Kept.alloc | apply Kept.drewN | apply Kept.drew) | exact HK.out)⟩
def pack_packed_s.f (l0 : List Int) (a1 : ByteArray) : Option (List Int × Int) := if a1.size ≤ 140737488351232 ∧ l0.length ≤ 65536 then some ((packedF a1.size l0 a1).1, ((packedF a1.size l0 a1).2 : Int)) else none
theorem pack_packed_eval (d : Nat) : ∀ (k : Nat) (out : List Int) (b : ByteArray), b.size ≤ d → b.size ≤ 140737488351232 → out.length ≤ 65536 → d < k →
    pack_packed.l0 k out b = some ((packedF d out b).1, ((packedF d out b).2 : Int)) := by
  induction d with
  | zero =>
    intro k out b hb hs ho hk
    obtain ⟨k, rfl⟩ : ∃ m, k = m + 1 := ⟨k - 1, by omega⟩
    simp only [pack_packed.l0]
    rw [if_pos (toList_nil.2 (by omega))]
    rfl
  | succ d ih =>
    intro k out b hb hs ho hk
    obtain ⟨k, rfl⟩ : ∃ m, k = m + 1 := ⟨k - 1, by omega⟩
    simp only [pack_packed.l0]
    rw [packedF]
    by_cases h0 : b.size = 0
    · rw [if_pos (toList_nil.2 h0), if_pos h0]; rfl
    · rw [if_neg (fun h => h0 (toList_nil.1 h)), if_neg h0]
      have hg := vRead_pos b
      obtain ⟨⟨y, n, e⟩, hr⟩ : ∃ x, vRead b = x := ⟨_, rfl⟩
      simp only [varint_Read.f, Option.bind_some, hr] at hg ⊢
      by_cases he : e = 0
      · subst he
        have g := hg rfl
        rw [if_pos (by rfl), if_neg (show ¬ ((0 : Nat) ≠ 0) by simp)]
        by_cases hl : 65536 ≤ out.length
        · rw [if_pos (by omega), if_pos hl]; rfl
        · rw [if_neg (by omega), if_neg hl, if_pos (by omega), if_pos (by omega), if_pos (by omega), Int.toNat_natCast]
          exact ih k _ _ (by rw [extract_size' _ _ g.2.1]; omega) (by rw [extract_size' _ _ g.2.1]; omega) (by simp; omega) (by omega)
      · rw [if_neg (by omega), if_pos he]
theorem pack_packed_s.ev (l0 : List Int) (a1 : ByteArray) (r) (h : pack_packed_s.f l0 a1 = some r) : ∃ k, pack_packed.f k l0 a1 = some r := by
  unfold pack_packed_s.f at h
  split at h
  · rename_i hs
    exact ⟨a1.size + 1, (pack_packed_eval a1.size _ l0 a1 (Nat.le_refl _) hs.1 hs.2 (by omega)).trans h⟩
  · cases h
set_option maxHeartbeats 1000000 in
theorem pack_packed_s.calls (P0_ : Nat → Prop) (u9000_ : Value) (l0 : List Int) (a1 : ByteArray) (r1 : List Int) (r2 : Int) (w0 w : World) (hB : Below w0.heap.size w0 w) (ho0 : Kd.R (Kd.int .i64) 2 w w0.heap.size P0_ u9000_ l0) (h : pack_packed_s.f l0 a1 = some (r1, r2)) :
    Calls Tryz.prog 82 #[u9000_, .string a1] w fun e w' => ∃ v0_ : Value, e = .returned (.tuple #[v0_, .int .i64 r2]) ∧ Kd.R (Kd.int .i64) 2 w' w0.heap.size (fun k_ => (P0_ k_ ∨ w.heap.size ≤ k_)) v0_ r1 ∧ Below w0.heap.size w0 w' ∧ Kept w w' (fun k_ => P0_ k_) := by
  obtain ⟨k, hk⟩ := pack_packed_s.ev l0 a1 _ h
  exact pack_packed.calls k P0_ u9000_ l0 a1 r1 r2 w0 w hB ho0 hk
def wire_All.l0 : Nat → Int → List (S95) → List (S95) → Int → Int → Option ((List (S95)))
 | 0, _, _, _, _, _ => none
 | k + 1, x1, x5, x8, x9, x10 => if x10 < x9 then (if 0 ≤ x10 then (if x10 < (x8.length : Int) then (if ((rd_T95 x8 x10).f0) = x1 then (if x5.length < 3518437208883 then (wire_All.l0 k x1 (x5 ++ [(⟨(rd_T95 x8 x10).f0, (rd_T95 x8 x10).f1, (rd_T95 x8 x10).f2, (rd_T95 x8 x10).f3⟩ : S95)]) x8 x9 (wrap64 (x10 + 1))) else (none)) else (wire_All.l0 k x1 x5 x8 x9 (wrap64 (x10 + 1)))) else (none)) else (none)) else (some x5)
def wire_All.f (k : Nat) (l0 : List (S95)) (a1 : Int) : Option ((List (S95))) := wire_All.l0 k a1 ([] : List (S95)) l0 (l0.length : Int) 0
set_option maxHeartbeats 8000000 in
set_option maxRecDepth 100000 in
theorem wire_All.calls (k : Nat) (A0 : Option Addr) (c0 : Nat) (l0 : List (S95)) (a1 : Int) (r : List (S95)) (w : World) (hr0 : Kd.C k95 w A0 l0.length l0) (hc0 : l0.length ≤ c0) (h : wire_All.f k l0 a1 = some r) :
  Calls Tryz.prog 81 #[.slice A0 l0.length c0, .int .i64 a1] w fun e w' => ∃ v0_ : Value, e = .returned (v0_) ∧ Kd.R k95 95 w' w.heap.size (fun _ => True) v0_ r ∧ Below w.heap.size w w' := by
 have hu95 := Tryz.underlying95; have HR0 := mk0 hr0; have HC0 := mk0 hc0; clear hr0 hc0; have HB := mk0 (Below.refl w.heap.size w); have H : (wire_All.l0 k a1 ([] : List (S95)) l0 (l0.length : Int) 0) = some r := h; clear h; have H' := mk0 H; clear H
 go_enter Tryz.func81, Tryz.ntmps81
 go_wp2
 go_loopg [5, 10] k (fun kq v5 v10 w' => ∃ (x5_1 : List (S95)) (x10_1 : Int), v10 = .int .i64 x10_1 ∧ Aside0 (wire_All.l0 kq a1 x5_1 l0 (l0.length : Int) x10_1 = some r) ∧ Aside0 (kq ≤ k) ∧ Aside0 (Kd.R k95 95 w' w.heap.size (fun _ => True) v5 x5_1) ∧ Aside0 (Below w.heap.size w w'))
 case atStart => exact ⟨(([] : List (S95))), (0), cl0, H', ⟨Nat.le_refl _⟩, ⟨by first | exact Kd.R_nil _ _ _ _ _ | exact Kd.N_nil _ _ _ _ _ | exact Kd.V_nil _ _ _ _ _ | exact Kd.Q_nil _ _ _ _ _ | exact Kd.S_nil _ _ _ _ _⟩, ⟨hbA HB⟩⟩
 case round =>
  clear H'; obtain ⟨x5_1, x10_1, rfl, HA, HK1, HO_5, HB⟩ := hrel
  cases gk with
  | zero => exact absurd HA.out (by simp [wire_All.l0])
  | succ k1 =>
   have H := HA.out; clear HA
   simp only [wire_All.l0] at H
   by_cases c3 : x10_1 < (l0.length : Int)
   ·
    rw [if_pos c3] at H; have c3b0 := decide_eq_true c3; clear c3; replace H := ifS H; obtain ⟨c4, H⟩ := H; have c4b0 := decide_eq_true c4; clear c4
    by_cases c5 : x10_1 < (l0.length : Int)
    ·
     rw [if_pos c5] at H; have c5b0 := decide_eq_true c5; clear c5
     by_cases c6 : ((rd_T95 l0 x10_1).f0) = a1
     ·
      rw [if_pos c6] at H; have c6b0 := beq_iff_eq.mpr c6; have c6b1 := bne_eq_false_iff_eq.mpr c6; clear c6; replace H := ifS H; obtain ⟨c7, H⟩ := H; have LMc7 := mk0 c7; clear c7; obtain ⟨y103, hy103⟩ : ∃ y_ : List (S95), y_ = (x5_1 ++ [(⟨(rd_T95 l0 x10_1).f0, (rd_T95 l0 x10_1).f1, (rd_T95 l0 x10_1).f2, (rd_T95 l0 x10_1).f3⟩ : S95)]) := ⟨_, rfl⟩; replace H : (wire_All.l0 k1 a1 y103 l0 (l0.length : Int) (wrap64 (x10_1 + 1))) = some r := by first | (rw [hy103]; with_reducible exact H) | (have H2_ := (Option.bind_some _ _).symm.trans H; rw [hy103]; with_reducible exact H2_) | (have H2_ := (Option.bind_some _ _).symm.trans H; with_reducible exact H2_) | with_reducible exact H | (rw [hy103]; exact H) | exact H
      have Ny103 := mk0 hy103; clear hy103; have H' := mk0 H; clear H; have p101 : 0 ≤ (x10_1 : Int) := ofd; have q101 : x10_1 < (l0.length : Int) := ofd; obtain ⟨ad101, e101, hx101_0, hx101_1, hx101_2, hx101_3⟩ := at_T95 HR0.out x10_1 p101 q101; cases e101; replace hx101_0 := hbc HB hx101_0; replace hx101_1 := hbc HB hx101_1; replace hx101_2 := hbc HB hx101_2; replace hx101_3 := hbc HB hx101_3; replace p101 := eq_true p101; replace q101 := eq_true q101
      go_wp2_with (first | ((with_reducible refine gate_dst (N := 7) rfl ?_); refine boxE (N := 7) (cs := #[.int .i64 0, .int .i64 0, .int .u64 0, .string (⟨#[]⟩ : ByteArray)]) (t := 95) ?_; intro gb102 hg w8 hbox hb; replace HO_5 := mk0 (Kd.R_below (Kd.R_elderB (krA HO_5) gb102 (Nat.le_of_eq hg.symm)) hb); have BK102 := mk0 hbox; have GW102 := gwS HB hg; have GE102 := gwS HB hg; replace HB := hbS HB hb; clear hb hbox hg; obtain ⟨hcz9_0, hcz9_1, hcz9_2, hcz9_3⟩ := cz4 BK102; have hfz9_0 := fz BK102 0; have hfz9_1 := fz BK102 1; have hfz9_2 := fz BK102 2; have hfz9_3 := fz BK102 3) | ((with_reducible refine gate_builtin (b := .append) (xs := #[.tmp 18, .tmp 20]) rfl ?_); at_builtin; refine Kd.R_append k95 (w0 := w) w.heap.size rfl (.tmp 18) (.tmp 20) 96 95 (.agg #[(.int .i64 0), (.int .i64 0), (.int .u64 0), (.string ⟨#[]⟩)]) 40 rfl Tryz.underlying96 info95 rfl (by decide) (by omega) u5 x5_1 (⟨(rd_T95 l0 x10_1).f0, (rd_T95 l0 x10_1).f1, (rd_T95 l0 x10_1).f2, (rd_T95 l0 x10_1).f3⟩ : S95) [.int .i64 ((rd_T95 l0 x10_1).f0), .int .i64 ((rd_T95 l0 x10_1).f1), .int .u64 ((rd_T95 l0 x10_1).f2), .string ((rd_T95 l0 x10_1).f3)] (fun k_ => k_ ≠ gb102) (fun _ => False) rfl (by first | (go_simp; done) | (go_simp; rfl)) ?aP (fun _ hk => hk.elim) ?aF ?aO ?aB ?aS ?aL ?_; (case aP => exact k95_mkM _ _ _ (⟨(rd_T95 l0 x10_1).f0, (rd_T95 l0 x10_1).f1, (rd_T95 l0 x10_1).f2, (rd_T95 l0 x10_1).f3⟩ : S95)); (case aB => exact (hbA HB)); (case aF => exact (fun k_ hk => Kd.freshB (g := gb102) (o := .cells #[.int .i64 ((rd_T95 l0 x10_1).f0), .int .i64 ((rd_T95 l0 x10_1).f1), .int .u64 ((rd_T95 l0 x10_1).f2), .string ((rd_T95 l0 x10_1).f3)] 95 (0, 0)) (bkW BK102) k_ hk)); (case aO => exact (by (with_reducible repeat (first | apply Kd.R_alloc | apply Kd.R_drewN | apply Kd.R_drew)); exact Kd.R_mono (Kd.R_far (p := ⟨gb102, 3, none⟩) (Kd.R_far (p := ⟨gb102, 2, none⟩) (Kd.R_far (p := ⟨gb102, 1, none⟩) (Kd.R_far (p := ⟨gb102, 0, none⟩) (Kd.R_mono HO_5.out (fun k_ hk => (⟨hk, hk.2⟩ : _ ∧ k_ ≠ gb102))) (fun _ hk => hk.2) (.int .i64 ((rd_T95 l0 x10_1).f0))) (fun _ hk => hk.2) (.int .i64 ((rd_T95 l0 x10_1).f1))) (fun _ hk => hk.2) (.int .u64 ((rd_T95 l0 x10_1).f2))) (fun _ hk => hk.2) (.string ((rd_T95 l0 x10_1).f3))) (fun _ hk => hk.1.2))); (case aS => exact (below_size (hbA HB))); (case aL => have := LMc7.out; omega); intro v104 w10 ho hb hg hat; rw [← Ny103.out] at ho; replace BK102 := mk0 (blk_grown (g := gb102) (o := .cells #[.int .i64 ((rd_T95 l0 x10_1).f0), .int .i64 ((rd_T95 l0 x10_1).f1), .int .u64 ((rd_T95 l0 x10_1).f2), .string ((rd_T95 l0 x10_1).f3)] 95 (0, 0)) (bkW BK102) hg (Kd.R_away HO_5.out (fun _ hk => hk.2))); replace HB := mk0 hb; have HO105 := mk0 ho; clear HO_5; clear ho hb hg hat))
      go_roundg k1
      case measure => have := HK1.out; omega
      case rel => exact ⟨(y103), (wrap64 (x10_1 + 1)), cl0, H', cl2 HK1, ⟨by (with_reducible repeat (first | apply Kd.R_alloc | apply Kd.R_drewN | apply Kd.R_drew)); exact Kd.R_mono HO105.out (fun _ hk => trivial)⟩, ⟨hbA HB⟩⟩
     ·
      rw [if_neg c6] at H; have c6b0 := beq_eq_false_iff_ne.mpr c6; have c6b1 := bne_iff_ne.mpr c6; have H' := mk0 H; clear H; have p101 : 0 ≤ (x10_1 : Int) := ofd; have q101 : x10_1 < (l0.length : Int) := ofd; obtain ⟨ad101, e101, hx101_0, hx101_1, hx101_2, hx101_3⟩ := at_T95 HR0.out x10_1 p101 q101; cases e101; replace hx101_0 := hbc HB hx101_0; replace hx101_1 := hbc HB hx101_1; replace hx101_2 := hbc HB hx101_2; replace hx101_3 := hbc HB hx101_3; replace p101 := eq_true p101; replace q101 := eq_true q101
      go_wp2_with (first | ((with_reducible refine gate_dst (N := 7) rfl ?_); refine boxE (N := 7) (cs := #[.int .i64 0, .int .i64 0, .int .u64 0, .string (⟨#[]⟩ : ByteArray)]) (t := 95) ?_; intro gb102 hg w11 hbox hb; replace HO_5 := mk0 (Kd.R_below (Kd.R_elderB (krA HO_5) gb102 (Nat.le_of_eq hg.symm)) hb); have BK102 := mk0 hbox; have GW102 := gwS HB hg; have GE102 := gwS HB hg; replace HB := hbS HB hb; clear hb hbox hg; obtain ⟨hcz12_0, hcz12_1, hcz12_2, hcz12_3⟩ := cz4 BK102; have hfz12_0 := fz BK102 0; have hfz12_1 := fz BK102 1; have hfz12_2 := fz BK102 2; have hfz12_3 := blk_frozen BK102.out 3))
      go_roundg k1
      case measure => have := HK1.out; omega
      case rel => exact ⟨(x5_1), (wrap64 (x10_1 + 1)), cl0, H', cl2 HK1, ⟨by (with_reducible repeat (first | apply Kd.R_alloc | apply Kd.R_drewN | apply Kd.R_drew)); exact Kd.R_mono (Kd.R_far (p := ⟨gb102, 3, none⟩) (Kd.R_far (p := ⟨gb102, 2, none⟩) (Kd.R_far (p := ⟨gb102, 1, none⟩) (Kd.R_far (p := ⟨gb102, 0, none⟩) (Kd.R_mono HO_5.out (fun k_ hk => (⟨hk, hk.2⟩ : _ ∧ k_ ≠ gb102))) (fun _ hk => hk.2) (.int .i64 ((rd_T95 l0 x10_1).f0))) (fun _ hk => hk.2) (.int .i64 ((rd_T95 l0 x10_1).f1))) (fun _ hk => hk.2) (.int .u64 ((rd_T95 l0 x10_1).f2))) (fun _ hk => hk.2) (.string ((rd_T95 l0 x10_1).f3))) (fun _ hk => trivial)⟩, ⟨hbA HB⟩⟩
    ·
     exact absurd (of_decide_eq_true c3b0) c5
   ·
    rw [if_neg c3] at H; have c3b0 := decide_eq_false c3; clear c3; obtain rfl := Option.some.inj H
    go_wp2
    go_ret
    exact ⟨_, cl3, krA HO_5, hbA HB⟩
def wire_All_s.f (l0 : List (S95)) (a1 : Int) : Option (List (S95)) := if l0.length ≤ 3518437208883 then some (l0.filter fun x => x.f0 == a1) else none
theorem wire_All_eval (l0 : List (S95)) (a1 : Int) (hb : l0.length ≤ 3518437208883) (d : Nat) : ∀ (k i : Nat) (acc : List (S95)), l0.length - i = d → i ≤ l0.length → acc.length ≤ i → d < k →
    wire_All.l0 k (a1) acc l0 l0.length i = some (acc ++ (l0.drop i).filter fun x => x.f0 == a1) := by
  induction d with
  | zero =>
    intro k i acc hd hi ha hk
    obtain ⟨k, rfl⟩ : ∃ m, k = m + 1 := ⟨k - 1, by omega⟩
    simp only [wire_All.l0]
    rw [if_neg (by omega), List.drop_of_length_le (by omega)]
    simp
  | succ d ih =>
    intro k i acc hd hi ha hk
    obtain ⟨k, rfl⟩ : ∃ m, k = m + 1 := ⟨k - 1, by omega⟩
    have h0 : i < l0.length := by omega
    have e0 : rd_T95 l0 (i : Int) = l0[i] := by simp [rd_T95, List.getD_eq_getElem?_getD, h0]
    simp only [wire_All.l0, e0]
    rw [if_pos (by omega), if_pos (by omega), List.drop_eq_getElem_cons h0, wrap64_id (by omega) (by omega)]
    try rw [if_pos (show (i : Int) < (l0.length : Int) by omega)]
    by_cases h : l0[i].f0 = a1
    · rw [if_pos h, if_pos (by omega)]
      have := ih k (i + 1) (acc ++ [l0[i]]) (by omega) (by omega) (by simp; omega) (by omega)
      refine this.trans ?_
      rw [List.filter_cons_of_pos (by simp [h]), List.append_assoc]; rfl
    · rw [if_neg h]
      have := ih k (i + 1) acc (by omega) (by omega) (by omega) (by omega)
      refine this.trans ?_
      rw [List.filter_cons_of_neg (by simp [h])]
theorem wire_All_s.ev (l0 : List (S95)) (a1 : Int) (r) (h : wire_All_s.f l0 a1 = some r) : ∃ k, wire_All.f k l0 a1 = some r := by
  unfold wire_All_s.f at h
  split at h
  · rename_i hb
    rw [← h]
    refine ⟨l0.length + 1, ?_⟩
    unfold wire_All.f
    simpa using wire_All_eval l0 a1 hb l0.length (l0.length + 1) 0 [] (by omega) (by omega) (by simp) (by omega)
  · cases h
set_option maxHeartbeats 1000000 in
theorem wire_All_s.calls (A0 : Option Addr) (c0 : Nat) (l0 : List (S95)) (a1 : Int) (r : List (S95)) (w : World) (hr0 : Kd.C k95 w A0 l0.length l0) (hc0 : l0.length ≤ c0) (h : wire_All_s.f l0 a1 = some r) :
    Calls Tryz.prog 81 #[.slice A0 l0.length c0, .int .i64 a1] w fun e w' => ∃ v0_ : Value, e = .returned (v0_) ∧ Kd.R k95 95 w' w.heap.size (fun _ => True) v0_ r ∧ Below w.heap.size w w' := by
  obtain ⟨k, hk⟩ := wire_All_s.ev l0 a1 _ h
  exact wire_All.calls k A0 c0 l0 a1 r w hr0 hc0 hk
def pack_Ints.l0 : Nat → List Int → List (S95) → Int → Int → Option (List Int × Int)
 | 0, _, _, _, _ => none
 | k + 1, x6, x13, x14, x15 => if x15 < x14 then (if 0 ≤ x15 then (if x15 < (x13.length : Int) then (if ((rd_T95 x13 x15).f1) = 0 then (if (x6.length : Int) ≥ 65536 then (some (([] : List Int), 7)) else (if x6.length < 17592186044416 then (pack_Ints.l0 k (x6 ++ [wrap64 ((rd_T95 x13 x15).f2)]) x13 x14 (wrap64 (x15 + 1))) else (none))) else (if ((rd_T95 x13 x15).f1) = 2 then ((pack_packed_s.f x6 ((rd_T95 x13 x15).f3)).bind fun bt109 => (if bt109.2 = 0 then (pack_Ints.l0 k bt109.1 x13 x14 (wrap64 (x15 + 1))) else (some (([] : List Int), bt109.2)))) else (some (([] : List Int), 3)))) else (none)) else (none)) else (some (x6, 0))
def pack_Ints.f (k : Nat) (l0 : List (S95)) (a1 : Int) : Option (List Int × Int) := (wire_All_s.f l0 a1).bind fun t101 => (pack_Ints.l0 k ([] : List Int) t101 (t101.length : Int) 0)
set_option maxHeartbeats 8000000 in
set_option maxRecDepth 100000 in
theorem pack_Ints.calls (k : Nat) (A0 : Option Addr) (c0 : Nat) (l0 : List (S95)) (a1 : Int) (r1 : List Int) (r2 : Int) (w : World) (hr0 : Kd.C k95 w A0 l0.length l0) (hc0 : l0.length ≤ c0) (h : pack_Ints.f k l0 a1 = some (r1, r2)) :
  Calls Tryz.prog 45 #[.slice A0 l0.length c0, .int .i64 a1] w fun e w' => ∃ v0_ : Value, e = .returned (.tuple #[v0_, .int .i64 r2]) ∧ Kd.R (Kd.int .i64) 2 w' w.heap.size (fun _ => True) v0_ r1 ∧ Below w.heap.size w w' := by
 have hu95 := Tryz.underlying95; have HR0 := mk0 hr0; have HC0 := mk0 hc0; clear hr0 hc0; have HB := mk0 (Below.refl w.heap.size w); have H : ((wire_All_s.f l0 a1).bind fun t101 => (pack_Ints.l0 k ([] : List Int) t101 (t101.length : Int) 0)) = some (r1, r2) := h; clear h; replace H := bnd H; obtain ⟨t101, A3, H⟩ := H; have H' := mk0 H; clear H
 go_enter Tryz.func45, Tryz.ntmps45
 go_wp2_with (first | ((with_reducible refine gate_callee (f := 81) rfl ?_); refine glE (some 13) rfl rfl Tryz.func81 (by kernel_rfl) rfl #[.slice A0 l0.length c0, .int .i64 a1] rfl ?_; (with_reducible refine (wire_All_s.calls _ _ l0 a1 t101 _ ?side1 ?side2 A3.out).mono ?_); (case side1 => repeat (first | exact HR0.out | (with_reducible refine Kd.C_alloc ?_ _) | (with_reducible refine Kd.C_drewN ?_ _) | (with_reducible refine Kd.C_drew ?_))); (case side2 => exact HC0.out); rintro e w4 ⟨v102, rfl, ho0, hb⟩; refine ⟨_, rfl, ?_⟩; have HO103 := mk0 (Kd.R_lower ho0 (below_size (hbA HB))); replace HB := hbS HB hb; (try clear hb); (try clear ho0); obtain ⟨Ao5, co5, eo5⟩ := Kd.R_slice HO103.out; subst eo5))
 go_loopg [6, 15] k (fun kq v6 v15 w' => ∃ (x6_1 : List Int) (x15_1 : Int), v15 = .int .i64 x15_1 ∧ Aside0 (pack_Ints.l0 kq x6_1 t101 (t101.length : Int) x15_1 = some (r1, r2)) ∧ Aside0 (kq ≤ k) ∧ Aside0 (Kd.R (Kd.int .i64) 2 w' w.heap.size (fun _ => True) v6 x6_1) ∧ Aside0 (Kd.R k95 95 w' w.heap.size (fun _ => True) (.slice Ao5 t101.length co5) t101) ∧ Aside0 (Below w.heap.size w w'))
 case atStart => exact ⟨(([] : List Int)), (0), cl0, H', ⟨Nat.le_refl _⟩, ⟨by first | exact Kd.R_nil _ _ _ _ _ | exact Kd.N_nil _ _ _ _ _ | exact Kd.V_nil _ _ _ _ _ | exact Kd.Q_nil _ _ _ _ _ | exact Kd.S_nil _ _ _ _ _⟩, ⟨krA HO103⟩, ⟨hbA HB⟩⟩
 case round =>
  clear H'; obtain ⟨x6_1, x15_1, rfl, HA, HK1, HO_6, HO_13, HB⟩ := hrel
  cases gk with
  | zero => exact absurd HA.out (by simp [pack_Ints.l0])
  | succ k1 =>
   have H := HA.out; clear HA
   simp only [pack_Ints.l0] at H
   by_cases c6 : x15_1 < (t101.length : Int)
   ·
    rw [if_pos c6] at H; have c6b0 := decide_eq_true c6; clear c6; replace H := ifS H; obtain ⟨c7, H⟩ := H; have c7b0 := decide_eq_true c7; clear c7
    by_cases c8 : x15_1 < (t101.length : Int)
    ·
     rw [if_pos c8] at H; have c8b0 := decide_eq_true c8; clear c8
     by_cases c9 : ((rd_T95 t101 x15_1).f1) = 0
     ·
      rw [if_pos c9] at H; have c9b0 := beq_iff_eq.mpr c9; have c9b1 := bne_eq_false_iff_eq.mpr c9; clear c9
      by_cases c10 : (x6_1.length : Int) ≥ 65536
      ·
       rw [if_pos c10] at H; have c10b0 := decide_eq_true c10; have c10b1 : decide (65536 ≤ x6_1.length) = true := decide_eq_true (by omega); clear c10
       simp only [Option.some.injEq, Prod.mk.injEq] at H
       obtain ⟨rfl, rfl⟩ := H; have p104 : 0 ≤ (x15_1 : Int) := ofd; have q104 : x15_1 < (t101.length : Int) := ofd; obtain ⟨ad104, e104, hx104_0, hx104_1, hx104_2, hx104_3⟩ := at_T95 (Kd.R_reads' HO_13.out).2.2 x15_1 p104 q104; cases e104; replace p104 := eq_true p104; replace q104 := eq_true q104
       go_wp2_with (first | ((with_reducible refine gate_dst (N := 8) rfl ?_); refine boxE (N := 8) (cs := #[.int .i64 0, .int .i64 0, .int .u64 0, .string (⟨#[]⟩ : ByteArray)]) (t := 95) ?_; intro gb105 hg w11 hbox hb; replace HO_6 := mk0 (Kd.R_below (krA HO_6) hb); replace HO_13 := mk0 (Kd.R_below (Kd.R_elderB (krA HO_13) gb105 (Nat.le_of_eq hg.symm)) hb); have BK105 := mk0 hbox; have GW105 := gwS HB hg; have GE105 := gwS HB hg; replace HB := hbS HB hb; clear hb hbox hg; obtain ⟨hcz12_0, hcz12_1, hcz12_2, hcz12_3⟩ := cz4 BK105; have hfz12_0 := fz BK105 0; have hfz12_1 := fz BK105 1; have hfz12_2 := fz BK105 2; have hfz12_3 := fz BK105 3; obtain ⟨Ao13, co13, eo13⟩ := Kd.R_slice HO_6.out; subst eo13))
       go_ret2
       exact ⟨_, cl3, by first | exact Kd.R_nil _ _ _ _ _ | exact Kd.N_nil _ _ _ _ _ | exact Kd.V_nil _ _ _ _ _ | exact Kd.Q_nil _ _ _ _ _ | exact Kd.S_nil _ _ _ _ _, hbA HB⟩
      ·
       rw [if_neg c10] at H; have c10b0 := decide_eq_false c10; have c10b1 : decide (65536 ≤ x6_1.length) = false := decide_eq_false (by omega); clear c10; replace H := ifS H; obtain ⟨c14, H⟩ := H; have LMc14 := mk0 c14; clear c14; obtain ⟨y106, hy106⟩ : ∃ y_ : List Int, y_ = (x6_1 ++ [wrap64 ((rd_T95 t101 x15_1).f2)]) := ⟨_, rfl⟩; replace H : (pack_Ints.l0 k1 y106 t101 (t101.length : Int) (wrap64 (x15_1 + 1))) = some (r1, r2) := by first | (rw [hy106]; with_reducible exact H) | (have H2_ := (Option.bind_some _ _).symm.trans H; rw [hy106]; with_reducible exact H2_) | (have H2_ := (Option.bind_some _ _).symm.trans H; with_reducible exact H2_) | with_reducible exact H | (rw [hy106]; exact H) | exact H
       have Ny106 := mk0 hy106; clear hy106; have H' := mk0 H; clear H; have p104 : 0 ≤ (x15_1 : Int) := ofd; have q104 : x15_1 < (t101.length : Int) := ofd; obtain ⟨ad104, e104, hx104_0, hx104_1, hx104_2, hx104_3⟩ := at_T95 (Kd.R_reads' HO_13.out).2.2 x15_1 p104 q104; cases e104; replace p104 := eq_true p104; replace q104 := eq_true q104
       go_wp2_with (first | ((with_reducible refine gate_dst (N := 8) rfl ?_); refine boxE (N := 8) (cs := #[.int .i64 0, .int .i64 0, .int .u64 0, .string (⟨#[]⟩ : ByteArray)]) (t := 95) ?_; intro gb105 hg w15 hbox hb; replace HO_6 := mk0 (Kd.R_below (krA HO_6) hb); replace HO_13 := mk0 (Kd.R_below (Kd.R_elderB (krA HO_13) gb105 (Nat.le_of_eq hg.symm)) hb); have BK105 := mk0 hbox; have GW105 := gwS HB hg; have GE105 := gwS HB hg; replace HB := hbS HB hb; clear hb hbox hg; obtain ⟨hcz16_0, hcz16_1, hcz16_2, hcz16_3⟩ := cz4 BK105; have hfz16_0 := fz BK105 0; have hfz16_1 := fz BK105 1; have hfz16_2 := fz BK105 2; have hfz16_3 := fz BK105 3; obtain ⟨Ao17, co17, eo17⟩ := Kd.R_slice HO_6.out; subst eo17) | ((with_reducible refine gate_builtin (b := .append) (xs := #[.tmp 26, .tmp 30]) rfl ?_); at_builtin; refine Kd.R_append (Kd.int .i64) (w0 := w) w.heap.size rfl (.tmp 26) (.tmp 30) 31 2 (.int .i64 0) 8 rfl Tryz.underlying31 info2 rfl (by decide) (by omega) (.slice Ao17 x6_1.length co17) x6_1 (wrap64 ((rd_T95 t101 x15_1).f2)) [.int .i64 (wrap64 ((rd_T95 t101 x15_1).f2))] (fun _ => True) (fun _ => False) rfl (by first | (go_simp; done) | (go_simp; rfl)) ?aP (fun _ hk => hk.elim) ?aF ?aO ?aB ?aS ?aL ?_; (case aP => exact rfl); (case aB => exact (hbA HB)); (case aF => exact (fun _ _ => trivial)); (case aO => exact (by (with_reducible repeat (first | apply Kd.R_alloc | apply Kd.R_drewN | apply Kd.R_drew)); exact Kd.R_mono (Kd.R_far (p := ⟨gb105, 3, none⟩) (Kd.R_far (p := ⟨gb105, 2, none⟩) (Kd.R_far (p := ⟨gb105, 1, none⟩) (Kd.R_far (p := ⟨gb105, 0, none⟩) (Kd.R_types HO_6.out BK105.out (by decide)) (fun _ hk => hk.2) (.int .i64 ((rd_T95 t101 x15_1).f0))) (fun _ hk => hk.2) (.int .i64 ((rd_T95 t101 x15_1).f1))) (fun _ hk => hk.2) (.int .u64 ((rd_T95 t101 x15_1).f2))) (fun _ hk => hk.2) (.string ((rd_T95 t101 x15_1).f3))) (fun _ hk => trivial))); (case aS => exact (below_size (hbA HB))); (case aL => have := LMc14.out; omega); intro v107 w18 ho hb hg hat; rw [← Ny106.out] at ho; replace HO_13 := mk0 (Kd.R_over' (by (with_reducible repeat (first | apply Kd.R_alloc | apply Kd.R_drewN | apply Kd.R_drew)); exact (Kd.R_mono (Kd.R_far (p := ⟨gb105, 3, none⟩) (Kd.R_far (p := ⟨gb105, 2, none⟩) (Kd.R_far (p := ⟨gb105, 1, none⟩) (Kd.R_far (p := ⟨gb105, 0, none⟩) (Kd.R_mono HO_13.out (fun k_ hk => (⟨hk, hk.2⟩ : _ ∧ k_ ≠ gb105))) (fun _ hk => hk.2) (.int .i64 ((rd_T95 t101 x15_1).f0))) (fun _ hk => hk.2) (.int .i64 ((rd_T95 t101 x15_1).f1))) (fun _ hk => hk.2) (.int .u64 ((rd_T95 t101 x15_1).f2))) (fun _ hk => hk.2) (.string ((rd_T95 t101 x15_1).f3))) (fun _ h_ => h_.1))) (Kd.R_typed (by (with_reducible repeat (first | apply Kd.R_alloc | apply Kd.R_drewN | apply Kd.R_drew)); exact (Kd.R_mono (Kd.R_far (p := ⟨gb105, 3, none⟩) (Kd.R_far (p := ⟨gb105, 2, none⟩) (Kd.R_far (p := ⟨gb105, 1, none⟩) (Kd.R_far (p := ⟨gb105, 0, none⟩) (Kd.R_types HO_6.out BK105.out (by decide)) (fun _ hk => hk.2) (.int .i64 ((rd_T95 t101 x15_1).f0))) (fun _ hk => hk.2) (.int .i64 ((rd_T95 t101 x15_1).f1))) (fun _ hk => hk.2) (.int .u64 ((rd_T95 t101 x15_1).f2))) (fun _ hk => hk.2) (.string ((rd_T95 t101 x15_1).f3))) (fun _ h_ => h_.1)))) (by decide) hg); replace BK105 := mk0 (blk_grown (g := gb105) (o := .cells #[.int .i64 ((rd_T95 t101 x15_1).f0), .int .i64 ((rd_T95 t101 x15_1).f1), .int .u64 ((rd_T95 t101 x15_1).f2), .string ((rd_T95 t101 x15_1).f3)] 95 (0, 0)) (bkW BK105) hg (Kd.R_ne HO_6.out BK105.out (by decide))); replace HB := mk0 hb; have HO108 := mk0 ho; clear HO_6; clear ho hb hg hat))
       go_roundg k1
       case measure => have := HK1.out; omega
       case rel => exact ⟨(y106), (wrap64 (x15_1 + 1)), cl0, H', cl2 HK1, ⟨krA HO108⟩, ⟨by (with_reducible repeat (first | apply Kd.R_alloc | apply Kd.R_drewN | apply Kd.R_drew)); exact Kd.R_mono HO_13.out (fun _ hk => trivial)⟩, ⟨hbA HB⟩⟩
     ·
      rw [if_neg c9] at H; have c9b0 := beq_eq_false_iff_ne.mpr c9; have c9b1 := bne_iff_ne.mpr c9
      by_cases c19 : ((rd_T95 t101 x15_1).f1) = 2
      ·
       rw [if_pos c19] at H; have c19b0 := beq_iff_eq.mpr c19; have c19b1 := bne_eq_false_iff_eq.mpr c19; clear c19; replace H := Option.bind_eq_some_iff.mp H; obtain ⟨⟨t109, t112⟩, A200, H⟩ := H; replace H : (if t112 = 0 then (pack_Ints.l0 k1 t109 t101 (t101.length : Int) (wrap64 (x15_1 + 1))) else (some (([] : List Int), t112))) = some (r1, r2) := H; have A20 := mk0 A200; clear A200
       by_cases c21 : t112 = 0
       ·
        rw [if_pos c21] at H; have c21b0 := beq_iff_eq.mpr c21; have c21b1 := bne_eq_false_iff_eq.mpr c21; clear c21; have H' := mk0 H; clear H; have p104 : 0 ≤ (x15_1 : Int) := ofd; have q104 : x15_1 < (t101.length : Int) := ofd; obtain ⟨ad104, e104, hx104_0, hx104_1, hx104_2, hx104_3⟩ := at_T95 (Kd.R_reads' HO_13.out).2.2 x15_1 p104 q104; cases e104; replace p104 := eq_true p104; replace q104 := eq_true q104
        go_wp2_with (first | ((with_reducible refine gate_dst (N := 8) rfl ?_); refine boxE (N := 8) (cs := #[.int .i64 0, .int .i64 0, .int .u64 0, .string (⟨#[]⟩ : ByteArray)]) (t := 95) ?_; intro gb105 hg w22 hbox hb; replace HO_6 := mk0 (Kd.R_below (krA HO_6) hb); replace HO_13 := mk0 (Kd.R_below (Kd.R_elderB (krA HO_13) gb105 (Nat.le_of_eq hg.symm)) hb); have BK105 := mk0 hbox; have GW105 := gwS HB hg; have GE105 := gwS HB hg; replace HB := hbS HB hb; clear hb hbox hg; obtain ⟨hcz23_0, hcz23_1, hcz23_2, hcz23_3⟩ := cz4 BK105; have hfz23_0 := fz BK105 0; have hfz23_1 := fz BK105 1; have hfz23_2 := fz BK105 2; have hfz23_3 := fz BK105 3) | ((with_reducible refine gate_store (t := 95) (p := 8) rfl ?_); refine store_event (t := 95) (p := 8) (v := ?vo_w24) (w1 := ((((w22.setCell ⟨gb105, 0, none⟩ (.int .i64 ((rd_T95 t101 x15_1).f0))).setCell ⟨gb105, 1, none⟩ (.int .i64 ((rd_T95 t101 x15_1).f1))).setCell ⟨gb105, 2, none⟩ (.int .u64 ((rd_T95 t101 x15_1).f2))).setCell ⟨gb105, 3, none⟩ (.string ((rd_T95 t101 x15_1).f3)))) ?hg ?ho ?hn ?hr ?_; (case ho => rfl); (case hg => rfl); (case hn => rfl); (case hr => first | (go_simp; done) | (go_simp; rfl)); intro w24 hw; have n0_ : Aside0 (Kd.R (Kd.int .i64) 2 w24 w.heap.size (fun _ => True) u6 x6_1) := ⟨(by rw [hw]; exact (by (with_reducible repeat (first | apply Kd.R_alloc | apply Kd.R_drewN | apply Kd.R_drew)); exact Kd.R_mono (Kd.R_far (p := ⟨gb105, 3, none⟩) (Kd.R_far (p := ⟨gb105, 2, none⟩) (Kd.R_far (p := ⟨gb105, 1, none⟩) (Kd.R_far (p := ⟨gb105, 0, none⟩) (Kd.R_types HO_6.out BK105.out (by decide)) (fun _ hk => hk.2) (.int .i64 ((rd_T95 t101 x15_1).f0))) (fun _ hk => hk.2) (.int .i64 ((rd_T95 t101 x15_1).f1))) (fun _ hk => hk.2) (.int .u64 ((rd_T95 t101 x15_1).f2))) (fun _ hk => hk.2) (.string ((rd_T95 t101 x15_1).f3))) (fun _ hk => trivial)))⟩; have n1_ : Aside0 (Kd.R k95 95 w24 w.heap.size (fun k_ => k_ ≠ gb105) (.slice (some ad104) t101.length co5) t101) := ⟨(by rw [hw]; exact (by (with_reducible repeat (first | apply Kd.R_alloc | apply Kd.R_drewN | apply Kd.R_drew)); exact Kd.R_mono (Kd.R_far (p := ⟨gb105, 3, none⟩) (Kd.R_far (p := ⟨gb105, 2, none⟩) (Kd.R_far (p := ⟨gb105, 1, none⟩) (Kd.R_far (p := ⟨gb105, 0, none⟩) (Kd.R_mono HO_13.out (fun k_ hk => (⟨hk, hk.2⟩ : _ ∧ k_ ≠ gb105))) (fun _ hk => hk.2) (.int .i64 ((rd_T95 t101 x15_1).f0))) (fun _ hk => hk.2) (.int .i64 ((rd_T95 t101 x15_1).f1))) (fun _ hk => hk.2) (.int .u64 ((rd_T95 t101 x15_1).f2))) (fun _ hk => hk.2) (.string ((rd_T95 t101 x15_1).f3))) (fun _ hk => hk.1.2)))⟩; have n2_ : Aside0 (w24.heap[gb105]? = some (.cells #[.int .i64 ((rd_T95 t101 x15_1).f0), .int .i64 ((rd_T95 t101 x15_1).f1), .int .u64 ((rd_T95 t101 x15_1).f2), .string ((rd_T95 t101 x15_1).f3)] 95 (0, 0))) := ⟨(by rw [hw]; exact (bkW BK105))⟩; have n3_ : Aside0 (Below w.heap.size w w24) := ⟨(by rw [hw]; exact (hbA HB))⟩; clear hw; clear HO_6; clear HO_13; clear BK105; clear HB; have HO_6 := n0_; have HO_13 := n1_; have BK105 := n2_; have HB := n3_; clear n0_ n1_ n2_ n3_; obtain ⟨hcz25_0, hcz25_1, hcz25_2, hcz25_3⟩ := cz4 BK105; have hfz25_0 := fz BK105 0; have hfz25_1 := fz BK105 1; have hfz25_2 := fz BK105 2; have hfz25_3 := fz BK105 3; obtain ⟨Ao26, co26, eo26⟩ := Kd.R_slice HO_6.out; subst eo26) | ((with_reducible refine gate_callee (f := 82) rfl ?_); refine glE (some 38) rfl rfl Tryz.func82 (by kernel_rfl) rfl #[.slice Ao26 x6_1.length co26, .string ((rd_T95 t101 x15_1).f3)] rfl ?_; (with_reducible refine (pack_packed_s.calls (fun k_ => some k_ = (.slice Ao26 x6_1.length co26 : Value).ownBlock) (.slice Ao26 x6_1.length co26) x6_1 ((rd_T95 t101 x15_1).f3) t109 t112 w _ ?side1 ?side2 A20.out).mono ?_); (case side1 => repeat (first | (with_reducible first | exact HB.out | apply below_alloc | apply pw_below_drewN | apply below_drew1 | refine below_set ?_ GE105.out) | exact HB.out)); (case side2 => exact Kd.R_tight rfl HO_6.out); rintro e w27 ⟨v110, rfl, ho0, hb, hkp⟩; refine ⟨_, rfl, ?_⟩; replace HO_13 := mk0 (Kd.R_mono (ok' := fun k_ => k_ ≠ gb105) (Kd.R_keptB ((Kd.R_apart' HO_13.out (Kd.R_typed HO_6.out) (by decide))) hkp (fun k_ hk_ hs_ => (hk_.2) hs_)) (fun k_ hk_ => hk_.1.1)); replace BK105 := mk0 (blk_kept (bkA BK105) hkp (fun hs_ => (fun e_ => (Kd.R_ne HO_6.out BK105.out (by decide)) e_) hs_)); have HO111 := mk0 (Kd.R_mono (ok' := fun k_ => True) ho0 (fun k_ hk_ => trivial)); replace HB := mk0 hb; clear HO_6; (try clear hb); (try clear hkp); (try clear ho0)))
        go_roundg k1
        case measure => have := HK1.out; omega
        case rel => exact ⟨(t109), (wrap64 (x15_1 + 1)), cl0, H', cl2 HK1, ⟨krA HO111⟩, ⟨by (with_reducible repeat (first | apply Kd.R_alloc | apply Kd.R_drewN | apply Kd.R_drew)); exact Kd.R_mono HO_13.out (fun _ hk => trivial)⟩, ⟨hbA HB⟩⟩
       ·
        rw [if_neg c21] at H; have c21b0 := beq_eq_false_iff_ne.mpr c21; have c21b1 := bne_iff_ne.mpr c21
        simp only [Option.some.injEq, Prod.mk.injEq] at H
        obtain ⟨rfl, rfl⟩ := H; have p104 : 0 ≤ (x15_1 : Int) := ofd; have q104 : x15_1 < (t101.length : Int) := ofd; obtain ⟨ad104, e104, hx104_0, hx104_1, hx104_2, hx104_3⟩ := at_T95 (Kd.R_reads' HO_13.out).2.2 x15_1 p104 q104; cases e104; replace p104 := eq_true p104; replace q104 := eq_true q104
        go_wp2_with (first | ((with_reducible refine gate_dst (N := 8) rfl ?_); refine boxE (N := 8) (cs := #[.int .i64 0, .int .i64 0, .int .u64 0, .string (⟨#[]⟩ : ByteArray)]) (t := 95) ?_; intro gb105 hg w28 hbox hb; replace HO_6 := mk0 (Kd.R_below (krA HO_6) hb); replace HO_13 := mk0 (Kd.R_below (Kd.R_elderB (krA HO_13) gb105 (Nat.le_of_eq hg.symm)) hb); have BK105 := mk0 hbox; have GW105 := gwS HB hg; have GE105 := gwS HB hg; replace HB := hbS HB hb; clear hb hbox hg; obtain ⟨hcz29_0, hcz29_1, hcz29_2, hcz29_3⟩ := cz4 BK105; have hfz29_0 := fz BK105 0; have hfz29_1 := fz BK105 1; have hfz29_2 := fz BK105 2; have hfz29_3 := fz BK105 3) | ((with_reducible refine gate_store (t := 95) (p := 8) rfl ?_); refine store_event (t := 95) (p := 8) (v := ?vo_w30) (w1 := ((((w28.setCell ⟨gb105, 0, none⟩ (.int .i64 ((rd_T95 t101 x15_1).f0))).setCell ⟨gb105, 1, none⟩ (.int .i64 ((rd_T95 t101 x15_1).f1))).setCell ⟨gb105, 2, none⟩ (.int .u64 ((rd_T95 t101 x15_1).f2))).setCell ⟨gb105, 3, none⟩ (.string ((rd_T95 t101 x15_1).f3)))) ?hg ?ho ?hn ?hr ?_; (case ho => rfl); (case hg => rfl); (case hn => rfl); (case hr => first | (go_simp; done) | (go_simp; rfl)); intro w30 hw; have n0_ : Aside0 (Kd.R (Kd.int .i64) 2 w30 w.heap.size (fun _ => True) u6 x6_1) := ⟨(by rw [hw]; exact (by (with_reducible repeat (first | apply Kd.R_alloc | apply Kd.R_drewN | apply Kd.R_drew)); exact Kd.R_mono (Kd.R_far (p := ⟨gb105, 3, none⟩) (Kd.R_far (p := ⟨gb105, 2, none⟩) (Kd.R_far (p := ⟨gb105, 1, none⟩) (Kd.R_far (p := ⟨gb105, 0, none⟩) (Kd.R_types HO_6.out BK105.out (by decide)) (fun _ hk => hk.2) (.int .i64 ((rd_T95 t101 x15_1).f0))) (fun _ hk => hk.2) (.int .i64 ((rd_T95 t101 x15_1).f1))) (fun _ hk => hk.2) (.int .u64 ((rd_T95 t101 x15_1).f2))) (fun _ hk => hk.2) (.string ((rd_T95 t101 x15_1).f3))) (fun _ hk => trivial)))⟩; have n1_ : Aside0 (Kd.R k95 95 w30 w.heap.size (fun k_ => k_ ≠ gb105) (.slice (some ad104) t101.length co5) t101) := ⟨(by rw [hw]; exact (by (with_reducible repeat (first | apply Kd.R_alloc | apply Kd.R_drewN | apply Kd.R_drew)); exact Kd.R_mono (Kd.R_far (p := ⟨gb105, 3, none⟩) (Kd.R_far (p := ⟨gb105, 2, none⟩) (Kd.R_far (p := ⟨gb105, 1, none⟩) (Kd.R_far (p := ⟨gb105, 0, none⟩) (Kd.R_mono HO_13.out (fun k_ hk => (⟨hk, hk.2⟩ : _ ∧ k_ ≠ gb105))) (fun _ hk => hk.2) (.int .i64 ((rd_T95 t101 x15_1).f0))) (fun _ hk => hk.2) (.int .i64 ((rd_T95 t101 x15_1).f1))) (fun _ hk => hk.2) (.int .u64 ((rd_T95 t101 x15_1).f2))) (fun _ hk => hk.2) (.string ((rd_T95 t101 x15_1).f3))) (fun _ hk => hk.1.2)))⟩; have n2_ : Aside0 (w30.heap[gb105]? = some (.cells #[.int .i64 ((rd_T95 t101 x15_1).f0), .int .i64 ((rd_T95 t101 x15_1).f1), .int .u64 ((rd_T95 t101 x15_1).f2), .string ((rd_T95 t101 x15_1).f3)] 95 (0, 0))) := ⟨(by rw [hw]; exact (bkW BK105))⟩; have n3_ : Aside0 (Below w.heap.size w w30) := ⟨(by rw [hw]; exact (hbA HB))⟩; clear hw; clear HO_6; clear HO_13; clear BK105; clear HB; have HO_6 := n0_; have HO_13 := n1_; have BK105 := n2_; have HB := n3_; clear n0_ n1_ n2_ n3_; obtain ⟨hcz31_0, hcz31_1, hcz31_2, hcz31_3⟩ := cz4 BK105; have hfz31_0 := fz BK105 0; have hfz31_1 := fz BK105 1; have hfz31_2 := fz BK105 2; have hfz31_3 := fz BK105 3; obtain ⟨Ao32, co32, eo32⟩ := Kd.R_slice HO_6.out; subst eo32) | ((with_reducible refine gate_callee (f := 82) rfl ?_); refine glE (some 38) rfl rfl Tryz.func82 (by kernel_rfl) rfl #[.slice Ao32 x6_1.length co32, .string ((rd_T95 t101 x15_1).f3)] rfl ?_; (with_reducible refine (pack_packed_s.calls (fun k_ => some k_ = (.slice Ao32 x6_1.length co32 : Value).ownBlock) (.slice Ao32 x6_1.length co32) x6_1 ((rd_T95 t101 x15_1).f3) t109 t112 w _ ?side1 ?side2 A20.out).mono ?_); (case side1 => repeat (first | (with_reducible first | exact HB.out | apply below_alloc | apply pw_below_drewN | apply below_drew1 | refine below_set ?_ GE105.out) | exact HB.out)); (case side2 => exact Kd.R_tight rfl HO_6.out); rintro e w33 ⟨v110, rfl, ho0, hb, hkp⟩; refine ⟨_, rfl, ?_⟩; replace HO_13 := mk0 (Kd.R_mono (ok' := fun k_ => k_ ≠ gb105) (Kd.R_keptB ((Kd.R_apart' HO_13.out (Kd.R_typed HO_6.out) (by decide))) hkp (fun k_ hk_ hs_ => (hk_.2) hs_)) (fun k_ hk_ => hk_.1.1)); replace BK105 := mk0 (blk_kept (bkA BK105) hkp (fun hs_ => (fun e_ => (Kd.R_ne HO_6.out BK105.out (by decide)) e_) hs_)); have HO111 := mk0 (Kd.R_mono (ok' := fun k_ => True) ho0 (fun k_ hk_ => trivial)); replace HB := mk0 hb; clear HO_6; (try clear hb); (try clear hkp); (try clear ho0)))
        go_ret2
        exact ⟨_, cl3, by first | exact Kd.R_nil _ _ _ _ _ | exact Kd.N_nil _ _ _ _ _ | exact Kd.V_nil _ _ _ _ _ | exact Kd.Q_nil _ _ _ _ _ | exact Kd.S_nil _ _ _ _ _, hbA HB⟩
      ·
       rw [if_neg c19] at H; have c19b0 := beq_eq_false_iff_ne.mpr c19; have c19b1 := bne_iff_ne.mpr c19
       simp only [Option.some.injEq, Prod.mk.injEq] at H
       obtain ⟨rfl, rfl⟩ := H; have p104 : 0 ≤ (x15_1 : Int) := ofd; have q104 : x15_1 < (t101.length : Int) := ofd; obtain ⟨ad104, e104, hx104_0, hx104_1, hx104_2, hx104_3⟩ := at_T95 (Kd.R_reads' HO_13.out).2.2 x15_1 p104 q104; cases e104; replace p104 := eq_true p104; replace q104 := eq_true q104
       go_wp2_with (first | ((with_reducible refine gate_dst (N := 8) rfl ?_); refine boxE (N := 8) (cs := #[.int .i64 0, .int .i64 0, .int .u64 0, .string (⟨#[]⟩ : ByteArray)]) (t := 95) ?_; intro gb105 hg w34 hbox hb; replace HO_6 := mk0 (Kd.R_below (krA HO_6) hb); replace HO_13 := mk0 (Kd.R_below (Kd.R_elderB (krA HO_13) gb105 (Nat.le_of_eq hg.symm)) hb); have BK105 := mk0 hbox; have GW105 := gwS HB hg; have GE105 := gwS HB hg; replace HB := hbS HB hb; clear hb hbox hg; obtain ⟨hcz35_0, hcz35_1, hcz35_2, hcz35_3⟩ := cz4 BK105; have hfz35_0 := fz BK105 0; have hfz35_1 := fz BK105 1; have hfz35_2 := fz BK105 2; have hfz35_3 := blk_frozen BK105.out 3))
       go_ret2
       exact ⟨_, cl3, by first | exact Kd.R_nil _ _ _ _ _ | exact Kd.N_nil _ _ _ _ _ | exact Kd.V_nil _ _ _ _ _ | exact Kd.Q_nil _ _ _ _ _ | exact Kd.S_nil _ _ _ _ _, hbA HB⟩
    ·
     exact absurd (of_decide_eq_true c6b0) c8
   ·
    rw [if_neg c6] at H; have c6b0 := decide_eq_false c6; clear c6
    simp only [Option.some.injEq, Prod.mk.injEq] at H
    obtain ⟨rfl, rfl⟩ := H
    go_wp2
    go_ret2
    exact ⟨_, cl3, krA HO_6, hbA HB⟩
end Go.Proofs.YtgmggompdidcoaaGreatDoor.X
