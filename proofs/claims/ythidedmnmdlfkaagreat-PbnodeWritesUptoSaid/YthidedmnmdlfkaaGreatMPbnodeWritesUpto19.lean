import Derived.Test.YthidedmnmdlfkaaGreatMPbnodeWritesUpto2
import Derived.Test.YthidedmnmdlfkaaGreatMPbnodeWritesUpto18
import Derived.Test.YthidedmnmdlfkaaGreatMPbnodeWritesUpto17
import Derived.Test.YthidedmnmdlfkaaGreatMPbnodeWritesUpto5
import Derived.Test.YthidedmnmdlfkaaGreatMPbnodeWritesUpto3
import Derived.Test.YthidedmnmdlfkaaGreatMPbnodeWritesUpto4
namespace Go.Proofs.YthidedmnmdlfkaaGreat.X
open Go.RowKit Go.Proofs.YthidedmnmdlfkaaGreatW.PrintWords Go.Proofs.YthidedmnmdlfkaaGreatW.PrintLast Go.Proofs.YthidedmnmdlfkaaGreatW.PrintMore
attribute [local go_sem] max2_int min2_int max_two min_two max_three min_three max_four min_four
set_option linter.unusedVariables false
set_option linter.unusedSimpArgs false
def text1 (b : ByteArray) (num : Int) : ByteArray := (textsOf b num).headD ⟨#[]⟩
def dimOf (b : ByteArray) : Int := wrap64 (lastTup (lastL b 1)).2.2.1
def infoP (b : ByteArray) : Prop := InfoMsg b (lastL b 1) (lastL (text1 (text1 b 2) 1) 1) (text1 b 2) (text1 (text1 b 2) 1) (text1 (text1 (text1 b 2) 1) 2) (textsOf (text1 (text1 (text1 b 2) 1) 2) 1) ((textsOf (text1 (text1 (text1 b 2) 1) 2) 1).map dimOf)
open Classical in
noncomputable def pbnode_ReadInfo.f (b : ByteArray) : Option (ByteArray × Int × (List Int) × Int) :=
  if infoP b then some ((lastTup (lastL b 1)).2.2.2.1, (lastTup (lastL (text1 (text1 b 2) 1) 1)).2.2.1, (textsOf (text1 (text1 (text1 b 2) 1) 2) 1).map dimOf, 0) else none
theorem pbnode_ReadInfo.calls (a0 : ByteArray) (r1 : ByteArray) (r2 : Int) (r3 : List Int) (r4 : Int) (w : World) (h : pbnode_ReadInfo.f a0 = some (r1, r2, r3, r4)) :
    Calls Tryz.prog 17 #[.string a0] w fun e w' => ∃ v2_ : Value, e = .returned (.tuple #[.agg #[.string r1, .int .i64 r2, v2_], .int .i64 r4]) ∧ Kd.V (Kd.int .i64) 2 w' w.heap.size (fun k_ => (w.heap.size ≤ k_)) v2_ r3 ∧ Below w.heap.size w w' := by
  unfold pbnode_ReadInfo.f at h
  split at h
  · rename_i hn
    obtain ⟨rfl, rfl, rfl, rfl⟩ : _ ∧ _ ∧ _ ∧ _ := by simpa only [Option.some.injEq, Prod.mk.injEq] using h
    refine (pbReadInfo.calls a0 _ _ _ _ _ _ _ hn w).mono ?_
    rintro e w' ⟨A1, c1, rfl, h1, h2⟩
    exact ⟨_, rfl, h1, h2⟩
  · cases h
end Go.Proofs.YthidedmnmdlfkaaGreat.X
namespace Go.Proofs.YthidedmnmdlfkaaGreat.X
open Go.RowKit Go.Proofs.YthidedmnmdlfkaaGreatW.PrintWords Go.Proofs.YthidedmnmdlfkaaGreatW.PrintLast Go.Proofs.YthidedmnmdlfkaaGreatW.PrintMore
attribute [local go_sem] max2_int min2_int max_two min_two max_three min_three max_four min_four
set_option linter.unusedVariables false
set_option linter.unusedSimpArgs false
def agateref01_Put.f : Nat → Int → Option (List Int)
 | 0, _ => none
 | k + 1, a0 => if a0 < 128 then (some (([(a0) % 256] : List Int))) else ((some (([(IntKind.u64.wrap ((Int.tmod a0 128) + 128)) % 256] : List Int) : List Int)).bind fun y104 => ((agateref01_Put.f k (IntKind.u64.wrap (Int.tdiv a0 128))).bind fun t107 => (if y104.length + t107.length < 140737488355328 then (some (y104 ++ t107)) else (none))))
set_option maxHeartbeats 8000000 in
set_option maxRecDepth 100000 in
theorem agateref01_Put.calls (k : Nat) : ∀ (a0 : Int) (r : List Int) (w : World) (h : agateref01_Put.f k a0 = some r),
  Calls Tryz.prog 47 #[.int .u64 a0] w fun e w' => ∃ v0_ : Value, e = .returned (v0_) ∧ Kd.R (Kd.int .u8) 5 w' w.heap.size (fun _ => True) v0_ r ∧ Below w.heap.size w w' := by
 induction k using Nat.strongRecOn with
 | _ k ih =>
 intro a0 r w h
 cases k with
 | zero => exact absurd h (by simp [agateref01_Put.f])
 | succ k =>
 simp only [agateref01_Put.f] at h
 have HB := mk0 (Below.refl w.heap.size w); have H : (if a0 < 128 then (some (([(a0) % 256] : List Int))) else ((some (([(IntKind.u64.wrap ((Int.tmod a0 128) + 128)) % 256] : List Int) : List Int)).bind fun y104 => ((agateref01_Put.f k (IntKind.u64.wrap (Int.tdiv a0 128))).bind fun t107 => (if y104.length + t107.length < 140737488355328 then (some (y104 ++ t107)) else (none))))) = some r := h; clear h
 by_cases c2 : a0 < 128
 ·
  rw [if_pos c2] at H; have c2b0 := decide_eq_true c2; clear c2; obtain ⟨y101, hy101⟩ : ∃ y_ : List Int, y_ = (([(a0) % 256] : List Int)) := ⟨_, rfl⟩; replace H : (some y101) = some r := by first | (rw [hy101]; with_reducible exact H) | (have H2_ := (Option.bind_some _ _).symm.trans H; rw [hy101]; with_reducible exact H2_) | (have H2_ := (Option.bind_some _ _).symm.trans H; with_reducible exact H2_) | with_reducible exact H | (rw [hy101]; exact H) | exact H
  have Ny101 := mk0 hy101; clear hy101; obtain rfl := Option.some.inj H
  go_enter Tryz.func47, Tryz.ntmps47
  go_wp2_with (first | ((with_reducible refine gate_dst (N := 7) rfl ?_); refine Kd.R_lit (Kd.int .u8) _ 5 ?hg (N := 7) ?hd (xs := ([(a0) % 256] : List Int)) (inner := [.int .u8 ((a0) % 256)]) (ok := fun _ => True) (okp := fun _ => True) ?hr ?hp (fun _ hk => hk) trivial (Below.refl _ _) (Nat.le_refl _) (by simp) ?_; (case hd => rfl); (case hg => rfl); (case hr => first | (go_simp; done) | (go_simp; rfl)); (case hp => exact (Reps.one (show Kd.M (Kd.int .u8) _ _ _ ((a0) % 256) [.int .u8 ((a0) % 256)] from rfl) (Reps.none _ _))); intro v102 w3 ho4 hb hg_ hnew_; clear hg_ hnew_; (first | rw [← Ny101.out] at ho4 | (simp only [Int.reduceToNat] at ho4; rw [← Ny101.out] at ho4)); have HO103 := mk0 (Kd.R_lower ho4 (below_size (hbA HB))); replace HB := hbS HB hb; clear hb ho4))
  go_ret
  exact ⟨_, cl3, krA HO103, hbA HB⟩
 ·
  rw [if_neg c2] at H; have c2b0 := decide_eq_false c2; clear c2; obtain ⟨y104, hy104⟩ : ∃ y_ : List Int, y_ = (([(IntKind.u64.wrap ((Int.tmod a0 128) + 128)) % 256] : List Int)) := ⟨_, rfl⟩; replace H : ((agateref01_Put.f k (IntKind.u64.wrap (Int.tdiv a0 128))).bind fun t107 => (if y104.length + t107.length < 140737488355328 then (some (y104 ++ t107)) else (none))) = some r := by first | (rw [hy104]; with_reducible exact H) | (have H2_ := (Option.bind_some _ _).symm.trans H; rw [hy104]; with_reducible exact H2_) | (have H2_ := (Option.bind_some _ _).symm.trans H; with_reducible exact H2_) | with_reducible exact H | (rw [hy104]; exact H) | exact H
  have Ny104 := mk0 hy104; clear hy104; replace H := bnd H; obtain ⟨t107, A5, H⟩ := H; replace H := ifS H; obtain ⟨c6, H⟩ := H; have LMc6 := mk0 c6; clear c6; obtain ⟨y110, hy110⟩ : ∃ y_ : List Int, y_ = (y104 ++ t107) := ⟨_, rfl⟩; replace H : (some y110) = some r := by first | (rw [hy110]; with_reducible exact H) | (have H2_ := (Option.bind_some _ _).symm.trans H; rw [hy110]; with_reducible exact H2_) | (have H2_ := (Option.bind_some _ _).symm.trans H; with_reducible exact H2_) | with_reducible exact H | (rw [hy110]; exact H) | exact H
  have Ny110 := mk0 hy110; clear hy110; obtain rfl := Option.some.inj H
  go_enter Tryz.func47, Tryz.ntmps47
  go_wp2_with (first | ((with_reducible refine gate_dst (N := 12) rfl ?_); refine Kd.R_lit (Kd.int .u8) _ 5 ?hg (N := 12) ?hd (xs := ([(IntKind.u64.wrap ((Int.tmod a0 128) + 128)) % 256] : List Int)) (inner := [.int .u8 ((IntKind.u64.wrap ((Int.tmod a0 128) + 128)) % 256)]) (ok := fun _ => True) (okp := fun _ => True) ?hr ?hp (fun _ hk => hk) trivial (Below.refl _ _) (Nat.le_refl _) (by simp) ?_; (case hd => rfl); (case hg => rfl); (case hr => first | (go_simp; done) | (go_simp; rfl)); (case hp => exact (Reps.one (show Kd.M (Kd.int .u8) _ _ _ ((IntKind.u64.wrap ((Int.tmod a0 128) + 128)) % 256) [.int .u8 ((IntKind.u64.wrap ((Int.tmod a0 128) + 128)) % 256)] from rfl) (Reps.none _ _))); intro v105 w7 ho8 hb hg_ hnew_; clear hg_ hnew_; (first | rw [← Ny104.out] at ho8 | (simp only [Int.reduceToNat] at ho8; rw [← Ny104.out] at ho8)); have HO106 := mk0 (Kd.R_lower ho8 (below_size (hbA HB))); replace HB := hbS HB hb; clear hb ho8) | ((with_reducible refine gate_callee (f := 47) rfl ?_); refine glE (some 15) rfl rfl Tryz.func47 (by kernel_rfl) rfl #[.int .u64 (IntKind.u64.wrap (Int.tdiv a0 128))] rfl ?_; (with_reducible refine (ih k (by omega) (IntKind.u64.wrap (Int.tdiv a0 128)) t107 _ A5.out).mono ?_); rintro e w9 ⟨v108, rfl, ho0, hb⟩; refine ⟨_, rfl, ?_⟩; have HO109 := mk0 (Kd.R_lower (Kd.R_new' ho0 (Kd.R_lt (krA HO106))) (below_size (hbA HB))); replace HO106 := mk0 (Kd.R_elder' (krA HO106) (Kd.R_base ho0) hb); replace HB := hbS HB hb; (try clear hb); (try clear ho0); obtain ⟨Ao11, co11, eo11⟩ := Kd.R_slice HO109.out; subst eo11) | ((with_reducible refine gate_builtin (b := .append) (xs := #[.tmp 12, .tmp 15]) rfl ?_); at_builtin; refine Kd.R_append_rows (Kd.int .u8) (w0 := w) w.heap.size rfl (.tmp 12) (.tmp 15) 98 5 (.int .u8 0) 1 rfl Tryz.underlying98 info5 rfl (by decide) (by omega) v105 y104 t107 _ _ _ (fun k_ => some k_ ≠ (.slice Ao11 t107.length co11 : Value).ownBlock) (fun _ => False) rfl rfl ?aO ?aR (fun _ _ h => h) (fun _ h => h.elim) ?aF ?aB ?aS ?aL ?_; (case aR => repeat (first | exact (Kd.R_reads' HO109.out).2.2 | (with_reducible refine Kd.C_alloc ?_ _) | (with_reducible refine Kd.C_drewN ?_ _) | (with_reducible refine Kd.C_drew ?_))); (case aB => exact (hbA HB)); (case aF => exact (fun k_ hk => Kd.fresh' (Kd.R_lt (krA HO109)) k_ hk)); (case aO => exact (by (with_reducible repeat (first | apply Kd.R_alloc | apply Kd.R_drewN | apply Kd.R_drew)); exact Kd.R_mono HO106.out (fun _ hk => hk.2))); (case aS => exact (below_size (hbA HB))); (case aL => have := LMc6.out; omega); intro v111 w10 ho hb hg hat; rw [← Ny110.out] at ho; replace HO109 := mk0 (Kd.R_after (ok := (fun _ => True)) (krA HO109) hg hat); replace HB := mk0 hb; have HO112 := mk0 ho; clear HO106; clear ho hb hg hat))
  go_ret
  exact ⟨_, cl3, by (with_reducible repeat (first | apply Kd.R_alloc | apply Kd.R_drewN | apply Kd.R_drew)); exact Kd.R_mono HO112.out (fun _ hk => trivial), hbA HB⟩
def agateref01_Put_s.f (a0 : Int) : Option (List Int) := if 0 ≤ a0 ∧ a0 < 18446744073709551616 then some ((vPut a0.toNat).map Int.ofNat) else none
theorem agateref01_Put_eval : ∀ (k n : Nat), n < 18446744073709551616 → vSize n ≤ k → agateref01_Put.f k (n : Int) = some ((vPut n).map Int.ofNat)
  | 0, n, _, h => by have := vSize_pos n; omega
  | k + 1, n, hn, h => by
    simp only [agateref01_Put.f]
    by_cases h1 : n < 128
    · rw [if_pos (by omega), vPut_lt h1]
      simp; omega
    · rw [if_neg (by omega), Option.bind_some]
      have e1 : IntKind.u64.wrap (Int.tdiv (n : Int) 128) = ((n / 128 : Nat) : Int) := by
        rw [Int.tdiv_eq_ediv_of_nonneg (by omega), u64_wrap]; omega
      have e2 : IntKind.u64.wrap (Int.tmod (n : Int) 128 + 128) % 256 = ((n % 128 + 128 : Nat) : Int) := by
        rw [Int.tmod_eq_emod_of_nonneg (by omega), u64_wrap]; omega
      have h2 := vSize_ge h1
      rw [e1, agateref01_Put_eval k (n / 128) (by omega) (by omega), Option.bind_some, e2, vPut_ge h1, if_pos]
      · simp
      · have := vSize_10 (n / 128) (by omega)
        simp [vPut_length]; omega
theorem agateref01_Put_s.ev (a0 : Int) (r) (h : agateref01_Put_s.f a0 = some r) : ∃ k, agateref01_Put.f k a0 = some r := by
  unfold agateref01_Put_s.f at h
  split at h
  · rename_i hr
    obtain ⟨n, rfl⟩ := Int.eq_ofNat_of_zero_le hr.1
    exact ⟨_, (agateref01_Put_eval _ n (by omega) (Nat.le_refl _)).trans h⟩
  · cases h
set_option maxHeartbeats 1000000 in
theorem agateref01_Put_s.calls (a0 : Int) (r : List Int) (w : World) (h : agateref01_Put_s.f a0 = some r) :
    Calls Tryz.prog 47 #[.int .u64 a0] w fun e w' => ∃ v0_ : Value, e = .returned (v0_) ∧ Kd.R (Kd.int .u8) 5 w' w.heap.size (fun _ => True) v0_ r ∧ Below w.heap.size w w' := by
  obtain ⟨k, hk⟩ := agateref01_Put_s.ev a0 _ h
  exact agateref01_Put.calls k a0 r w hk
def agateref02_high.l0 : Nat → Int → Int → ByteArray → Int → Option (ByteArray)
  | 0, _, _, _, _ => none
  | k + 1, x0, x1, x5, x6 => if x6 < x1 then ((some (([(Int.tmod x0 256) % 256] : List Int) : List Int)).bind fun y101 => (if x5.size + (strOfNums y101).size ≤ 9223372036854775807 then (agateref02_high.l0 k (IntKind.u64.wrap (Int.tdiv x0 256)) x1 (x5 ++ (strOfNums y101)) (wrap64 (x6 + 1))) else (none))) else (some x5)
def agateref02_high.f (k : Nat) (a0 : Int) (a1 : Int) : Option (ByteArray) := agateref02_high.l0 k a0 a1 (⟨#[]⟩ : ByteArray) 0
set_option maxHeartbeats 8000000 in
set_option maxRecDepth 100000 in
theorem agateref02_high.calls (k : Nat) (a0 : Int) (a1 : Int) (r : ByteArray) (w : World) (h : agateref02_high.f k a0 a1 = some r) :
    Calls Tryz.prog 68 #[.int .u64 a0, .int .i64 a1] w fun e w' => e = .returned (.string r) ∧ Below w.heap.size w w' := by
  have HB := mk0 (Below.refl w.heap.size w); have H : (agateref02_high.l0 k a0 a1 (⟨#[]⟩ : ByteArray) 0) = some r := h; clear h; have H' := mk0 H; clear H
  go_enter Tryz.func68, Tryz.ntmps68
  go_wp2
  go_loopg [0, 5, 6] k (fun kq v0 v5 v6 w' => ∃ (x0_1 : Int) (x5_1 : ByteArray) (x6_1 : Int), v0 = .int .u64 x0_1 ∧ v5 = .string x5_1 ∧ v6 = .int .i64 x6_1 ∧ Aside0 (agateref02_high.l0 kq x0_1 a1 x5_1 x6_1 = some r) ∧ Aside0 (kq ≤ k) ∧ Aside0 (Below w.heap.size w w'))
  case atStart => exact ⟨(a0), ((⟨#[]⟩ : ByteArray)), (0), cl0, cl0, cl0, H', ⟨Nat.le_refl _⟩, ⟨hbA HB⟩⟩
  case round =>
    clear H'; obtain ⟨x0_1, x5_1, x6_1, rfl, rfl, rfl, HA, HK1, HB⟩ := hrel
    cases gk with
    | zero => exact absurd HA.out (by simp [agateref02_high.l0])
    | succ k1 =>
      have H := HA.out; clear HA
      simp only [agateref02_high.l0] at H
      by_cases c3 : x6_1 < a1
      · rw [if_pos c3] at H
        have c3b0 := decide_eq_true c3; clear c3; obtain ⟨y101, hy101⟩ : ∃ y_ : List Int, y_ = (([(Int.tmod x0_1 256) % 256] : List Int)) := ⟨_, rfl⟩; replace H : (if x5_1.size + (strOfNums y101).size ≤ 9223372036854775807 then (agateref02_high.l0 k1 (IntKind.u64.wrap (Int.tdiv x0_1 256)) a1 (x5_1 ++ (strOfNums y101)) (wrap64 (x6_1 + 1))) else (none)) = some r := by first | (rw [hy101]; with_reducible exact H) | (have H2_ := (Option.bind_some _ _).symm.trans H; rw [hy101]; with_reducible exact H2_) | (have H2_ := (Option.bind_some _ _).symm.trans H; with_reducible exact H2_) | with_reducible exact H | (rw [hy101]; exact H) | exact H
        have Ny101 := mk0 hy101; clear hy101
        by_cases c4 : x5_1.size + (strOfNums y101).size ≤ 9223372036854775807
        · rw [if_pos c4] at H
          have c4b0 := eq_true c4; have c4b1 := decide_eq_true c4; try have c4b2 := eq_false (Nat.not_lt.2 c4)
          try have c4b3 := c4b2
          try simp only [ByteArray.size_append] at c4b3
          have H' := mk0 H; clear H
          go_wp2_with (first | ((with_reducible refine gate_dst (N := 16) rfl ?_); refine Kd.R_lit (Kd.int .u8) _ 5 ?hg (N := 16) ?hd (xs := ([(Int.tmod x0_1 256) % 256] : List Int)) (inner := [.int .u8 ((Int.tmod x0_1 256) % 256)]) (ok := fun _ => True) (okp := fun _ => True) ?hr ?hp (fun _ hk => hk) trivial (Below.refl _ _) (Nat.le_refl _) (by simp) ?_; (case hd => rfl); (case hg => rfl); (case hr => first | (go_simp; done) | (go_simp; rfl)); (case hp => exact (Reps.one (show Kd.M (Kd.int .u8) _ _ _ ((Int.tmod x0_1 256) % 256) [.int .u8 ((Int.tmod x0_1 256) % 256)] from rfl) (Reps.none _ _))); intro v102 w5 ho6 hb hg_ hnew_; clear hg_ hnew_; (first | rw [← Ny101.out] at ho6 | (simp only [Int.reduceToNat] at ho6; rw [← Ny101.out] at ho6)); have HO103 := mk0 (Kd.R_lower ho6 (below_size (hbA HB))); replace HB := mk0 (below_step (hbA HB) hb); clear hb ho6; have hcv7 := own_string (P := Tryz.prog) Tryz.underlying98 Tryz.underlying5 Tryz.underlying9 (Kd.own_of_R HO103.out)))
          go_roundg k1
          case measure => have := HK1.out; omega
          case rel => exact ⟨(IntKind.u64.wrap (Int.tdiv x0_1 256)), (x5_1 ++ (strOfNums y101)), (wrap64 (x6_1 + 1)), cl0, cl0, cl0, H', cl2 HK1, ⟨hbA HB⟩⟩
        · rw [if_neg c4] at H; exact ne0 H
      · rw [if_neg c3] at H
        have c3b0 := decide_eq_false c3; clear c3; obtain rfl := Option.some.inj H
        go_wp2
        go_ret
        exact ⟨cl3, hbA HB⟩
def agateref02_high_s.f (a0 a1 : Int) : Option ByteArray := if 0 ≤ a0 ∧ a0 < 18446744073709551616 ∧ 0 ≤ a1 ∧ a1 ≤ 8 then some (laidStr a0.toNat a1.toNat) else none
theorem agateref02_high_eval (v n : Nat) (hv : v < 18446744073709551616) (hn : n ≤ 8) (d : Nat) : ∀ (k i : Nat), n - i = d → i ≤ n → d < k →
    agateref02_high.l0 k ((v / 256 ^ i : Nat) : Int) (n : Int) (laidStr v i) (i : Int) = some (laidStr v n) := by
  induction d with
  | zero =>
    intro k i hd hi hk
    obtain ⟨k, rfl⟩ : ∃ m, k = m + 1 := ⟨k - 1, by omega⟩
    obtain rfl : i = n := by omega
    simp only [agateref02_high.l0]
    rw [if_neg (by omega)]
  | succ d ih =>
    intro k i hd hi hk
    obtain ⟨k, rfl⟩ : ∃ m, k = m + 1 := ⟨k - 1, by omega⟩
    simp only [agateref02_high.l0]
    have hle : v / 256 ^ i ≤ v := Nat.div_le_self _ _
    have e1 : ([Int.tmod ((v / 256 ^ i : Nat) : Int) 256 % 256] : List Int) = [v / 256 ^ i % 256].map Int.ofNat := by
      rw [Int.tmod_eq_emod_of_nonneg (Int.natCast_nonneg _)]; simp
    have e2 : IntKind.u64.wrap (Int.tdiv ((v / 256 ^ i : Nat) : Int) 256) = ((v / 256 ^ (i + 1) : Nat) : Int) := by
      rw [Nat.pow_succ, ← Nat.div_div_eq_div_mul]
      exact tdiv256 _ (by omega)
    rw [if_pos (by omega), e1, e2, Option.bind_some, if_pos (by rw [laidStr_size]; simp [strOfNums, ByteArray.size]; omega), wrap64_id (by omega) (by omega)]
    have := ih k (i + 1) (by omega) (by omega) (by omega)
    rw [show laidStr v (i + 1) = laidStr v i ++ strOfNums ([v / 256 ^ i % 256].map Int.ofNat) from by unfold laidStr; rw [laidS_succ, List.map_append, strOfNums_append]] at this
    exact this
theorem agateref02_high_s.ev (a0 a1 : Int) (r) (h : agateref02_high_s.f a0 a1 = some r) : ∃ k, agateref02_high.f k a0 a1 = some r := by
  unfold agateref02_high_s.f at h
  split at h
  · rename_i hr
    obtain ⟨v, rfl⟩ := Int.eq_ofNat_of_zero_le hr.1
    obtain ⟨n, rfl⟩ := Int.eq_ofNat_of_zero_le hr.2.2.1
    have := agateref02_high_eval v n (by omega) (by omega) n (n + 1) 0 (by omega) (by omega) (by omega)
    rw [Nat.pow_zero, Nat.div_one] at this
    exact ⟨n + 1, this.trans h⟩
  · cases h
set_option maxHeartbeats 1000000 in
theorem agateref02_high_s.calls (a0 : Int) (a1 : Int) (r : ByteArray) (w : World) (h : agateref02_high_s.f a0 a1 = some r) :
    Calls Tryz.prog 68 #[.int .u64 a0, .int .i64 a1] w fun e w' => e = .returned (.string r) ∧ Below w.heap.size w w' := by
  obtain ⟨k, hk⟩ := agateref02_high_s.ev a0 a1 _ h
  exact agateref02_high.calls k a0 a1 r w hk
def agateref02_Bytes.j0 : Nat → Bool → Int → Int → Int → ByteArray → Option (ByteArray)
 | 0, _, _, _, _, _ => none
 | k + 1, x31, x102000, x102001, x102002, x102003 => if x31 = true then (some (⟨#[]⟩ : ByteArray)) else ((agateref01_Put_s.f (IntKind.u64.wrap (wrap64 ((wrap64 (8 * x102000)) + x102001)))).bind fun t102 => (if x102001 = 0 then ((agateref01_Put_s.f x102002).bind fun t105 => (if (strOfNums t102).size + (strOfNums t105).size ≤ 9223372036854775807 then (some ((strOfNums t102) ++ (strOfNums t105))) else (none))) else (if x102001 = 1 then ((agateref02_high_s.f x102002 8).bind fun t108 => (if (strOfNums t102).size + t108.size ≤ 9223372036854775807 then (some ((strOfNums t102) ++ t108)) else (none))) else (if x102001 = 2 then ((agateref01_Put_s.f (IntKind.u64.wrap ((x102003.size : Int)))).bind fun t109 => (if (strOfNums t102).size + (strOfNums t109).size ≤ 9223372036854775807 then (if ((strOfNums t102) ++ (strOfNums t109)).size + x102003.size ≤ 9223372036854775807 then (some (((strOfNums t102) ++ (strOfNums t109)) ++ x102003)) else (none)) else (none))) else (if x102002 > 4294967295 then (some (⟨#[]⟩ : ByteArray)) else ((agateref02_high_s.f x102002 4).bind fun t112 => (if (strOfNums t102).size + t112.size ≤ 9223372036854775807 then (some ((strOfNums t102) ++ t112)) else (none))))))))
def agateref02_Bytes.f (k : Nat) (a0_0 : Int) (a0_1 : Int) (a0_2 : Int) (a0_3 : ByteArray) : Option (ByteArray) := if a0_0 < 1 then (agateref02_Bytes.j0 k true a0_0 a0_1 a0_2 a0_3) else (if a0_0 > 536870911 then (agateref02_Bytes.j0 k true a0_0 a0_1 a0_2 a0_3) else (if a0_1 < 0 then (agateref02_Bytes.j0 k true a0_0 a0_1 a0_2 a0_3) else (if a0_1 > 5 then (agateref02_Bytes.j0 k true a0_0 a0_1 a0_2 a0_3) else (if a0_1 = 3 then (agateref02_Bytes.j0 k true a0_0 a0_1 a0_2 a0_3) else (agateref02_Bytes.j0 k (a0_1 == 4) a0_0 a0_1 a0_2 a0_3)))))
def agateref02_Bytes.T10 : Bool × List (List Nat × List Nat) := (true, [([], []), ([], []), ([1], [1]), ([2], [2]), ([3], [3]), ([4], [4]), ([5], [5]), ([0, 6], [0, 6]), ([], []), ([8], [8]), ([7, 9], [7, 9]), ([10, 5, 0, 1, 2, 3, 4, 5, 6, 7, 8, 9, 10], [10])])
def agateref02_Bytes.B10 : List Nat := [0, 0, 2, 6, 14, 30, 62, 127, 0, 256, 1023, 2047]
theorem agateref02_Bytes.tab10 : rtab .any (opsOf Tryz.f46 10) = agateref02_Bytes.T10 := by kernel_rfl
theorem agateref02_Bytes.bits10 : waitsOk agateref02_Bytes.T10.2 agateref02_Bytes.B10 = true := by kernel_rfl
set_option maxHeartbeats 8000000 in
set_option maxRecDepth 100000 in
theorem agateref02_Bytes.calls (k : Nat) (a0_0 : Int) (a0_1 : Int) (a0_2 : Int) (a0_3 : ByteArray) (r : ByteArray) (w : World) (h : agateref02_Bytes.f k a0_0 a0_1 a0_2 a0_3 = some r) :
  Calls Tryz.prog 46 #[.agg #[.int .i64 a0_0, .int .i64 a0_1, .int .u64 a0_2, .string a0_3]] w fun e w' => e = .returned (.string r) ∧ Below w.heap.size w w' := by
 have hu97 := Tryz.underlying97; have HB := mk0 (Below.refl w.heap.size w); have H : (if a0_0 < 1 then (agateref02_Bytes.j0 k true a0_0 a0_1 a0_2 a0_3) else (if a0_0 > 536870911 then (agateref02_Bytes.j0 k true a0_0 a0_1 a0_2 a0_3) else (if a0_1 < 0 then (agateref02_Bytes.j0 k true a0_0 a0_1 a0_2 a0_3) else (if a0_1 > 5 then (agateref02_Bytes.j0 k true a0_0 a0_1 a0_2 a0_3) else (if a0_1 = 3 then (agateref02_Bytes.j0 k true a0_0 a0_1 a0_2 a0_3) else (agateref02_Bytes.j0 k (a0_1 == 4) a0_0 a0_1 a0_2 a0_3)))))) = some r := h; clear h; have HC2 := mk0 H; clear H
 go_enter Tryz.func46, Tryz.ntmps46
 go_upto_region 1 with (first | ((with_reducible refine gate_dst (N := 1) rfl ?_); refine boxE (N := 1) (cs := #[.int .i64 a0_0, .int .i64 a0_1, .int .u64 a0_2, .string a0_3]) (t := 97) ?_; intro gb101 hg w3 hbox hb; have BK101 := mk0 hbox; have GW101 := gwS HB hg; have GE101 := gwS HB hg; replace HB := hbS HB hb; clear hb hbox hg))
 (try simp only [Act.put, List.setIfInBounds_toArray, List.set_cons_zero, List.set_cons_succ])
 go_cut [31] (fun v31 wc => ∃ (kq : Nat) (x31_1 : Bool), v31 = .bool x31_1 ∧ Aside0 (agateref02_Bytes.j0 kq x31_1 a0_0 a0_1 a0_2 a0_3 = some r) ∧ Aside0 (kq ≤ k) ∧ Aside0 (wc.heap[gb101]? = some (.cells #[.int .i64 a0_0, .int .i64 a0_1, .int .u64 a0_2, .string a0_3] 97 (0, 0))) ∧ Aside0 (Below w.heap.size w wc))
 case first =>
  have H := HC2.out; clear HC2
  by_cases c4 : a0_0 < 1
  ·
   rw [if_pos c4] at H; have c4b0 := decide_eq_true c4; clear c4
   (first | rw [c4b0] | (simp only [i64_w, i32_w]; rw [c4b0]) | skip)
   have H' := mk0 H; clear H; obtain ⟨hcz5_0, hcz5_1, hcz5_2, hcz5_3⟩ := cz4 BK101
   go_wp2
   go_meet
   case rel => exact ⟨_, (true), cl0, H', cl1, ⟨bkA BK101⟩, ⟨hbA HB⟩⟩
  ·
   rw [if_neg c4] at H; have c4b0 := decide_eq_false c4; clear c4
   (first | rw [c4b0] | (simp only [i64_w, i32_w]; rw [c4b0]) | skip)
   by_cases c6 : a0_0 > 536870911
   ·
    rw [if_pos c6] at H; have c6b0 := decide_eq_true c6; clear c6; have H' := mk0 H; clear H; obtain ⟨hcz7_0, hcz7_1, hcz7_2, hcz7_3⟩ := cz4 BK101
    go_wp2
    go_meet
    case rel => exact ⟨_, (true), cl0, H', cl1, ⟨bkA BK101⟩, ⟨hbA HB⟩⟩
   ·
    rw [if_neg c6] at H; have c6b0 := decide_eq_false c6; clear c6
    by_cases c8 : a0_1 < 0
    ·
     rw [if_pos c8] at H; have c8b0 := decide_eq_true c8; clear c8; have H' := mk0 H; clear H; obtain ⟨hcz9_0, hcz9_1, hcz9_2, hcz9_3⟩ := cz4 BK101
     go_wp2
     go_meet
     case rel => exact ⟨_, (true), cl0, H', cl1, ⟨bkA BK101⟩, ⟨hbA HB⟩⟩
    ·
     rw [if_neg c8] at H; have c8b0 := decide_eq_false c8; clear c8
     by_cases c10 : a0_1 > 5
     ·
      rw [if_pos c10] at H; have c10b0 := decide_eq_true c10; clear c10; have H' := mk0 H; clear H; obtain ⟨hcz11_0, hcz11_1, hcz11_2, hcz11_3⟩ := cz4 BK101
      go_wp2
      go_meet
      case rel => exact ⟨_, (true), cl0, H', cl1, ⟨bkA BK101⟩, ⟨hbA HB⟩⟩
     ·
      rw [if_neg c10] at H; have c10b0 := decide_eq_false c10; clear c10
      by_cases c12 : a0_1 = 3
      ·
       rw [if_pos c12] at H; have c12b0 := beq_iff_eq.mpr c12; have c12b1 := bne_eq_false_iff_eq.mpr c12; clear c12; have H' := mk0 H; clear H; obtain ⟨hcz13_0, hcz13_1, hcz13_2, hcz13_3⟩ := cz4 BK101
       go_wp2
       go_meet
       case rel => exact ⟨_, (true), cl0, H', cl1, ⟨bkA BK101⟩, ⟨hbA HB⟩⟩
      ·
       rw [if_neg c12] at H; have c12b0 := beq_eq_false_iff_ne.mpr c12; have c12b1 := bne_iff_ne.mpr c12; have H' := mk0 H; clear H; obtain ⟨hcz14_0, hcz14_1, hcz14_2, hcz14_3⟩ := cz4 BK101
       go_wp2
       go_meet
       case rel => exact ⟨_, ((a0_1 == 4)), cl0, H', cl1, ⟨bkA BK101⟩, ⟨hbA HB⟩⟩
 case rest =>
  clear HC2; obtain ⟨kq, x31_1, rfl, HA, HJ1, BK101, HB⟩ := hcut
  cases kq with
  | zero => exact absurd HA.out (by simp [agateref02_Bytes.j0])
  | succ kj1 =>
   have H := HA.out; clear HA
   simp only [agateref02_Bytes.j0] at H
   by_cases c15 : x31_1 = true
   ·
    subst c15; have H1 : (some (⟨#[]⟩ : ByteArray)) = some r := by rw [if_pos rfl] at H; exact H
    clear H; have H := H1; clear H1; obtain rfl := Option.some.inj H
    go_wp2
    go_ret
    exact ⟨cl3, hbA HB⟩
   ·
    replace c15 := Bool.eq_false_iff.mpr c15; subst c15; have H1 : ((agateref01_Put_s.f (IntKind.u64.wrap (wrap64 ((wrap64 (8 * a0_0)) + a0_1)))).bind fun t102 => (if a0_1 = 0 then ((agateref01_Put_s.f a0_2).bind fun t105 => (if (strOfNums t102).size + (strOfNums t105).size ≤ 9223372036854775807 then (some ((strOfNums t102) ++ (strOfNums t105))) else (none))) else (if a0_1 = 1 then ((agateref02_high_s.f a0_2 8).bind fun t108 => (if (strOfNums t102).size + t108.size ≤ 9223372036854775807 then (some ((strOfNums t102) ++ t108)) else (none))) else (if a0_1 = 2 then ((agateref01_Put_s.f (IntKind.u64.wrap ((a0_3.size : Int)))).bind fun t109 => (if (strOfNums t102).size + (strOfNums t109).size ≤ 9223372036854775807 then (if ((strOfNums t102) ++ (strOfNums t109)).size + a0_3.size ≤ 9223372036854775807 then (some (((strOfNums t102) ++ (strOfNums t109)) ++ a0_3)) else (none)) else (none))) else (if a0_2 > 4294967295 then (some (⟨#[]⟩ : ByteArray)) else ((agateref02_high_s.f a0_2 4).bind fun t112 => (if (strOfNums t102).size + t112.size ≤ 9223372036854775807 then (some ((strOfNums t102) ++ t112)) else (none)))))))) = some r := by rw [if_neg (show ¬ (false = true) by decide)] at H; exact H
    clear H; have H := H1; clear H1; replace H := bnd H; obtain ⟨t102, A16, H⟩ := H
    by_cases c17 : a0_1 = 0
    ·
     rw [if_pos c17] at H; have c17b0 := beq_iff_eq.mpr c17; have c17b1 := bne_eq_false_iff_eq.mpr c17; clear c17; replace H := bnd H; obtain ⟨t105, A18, H⟩ := H; replace H := ifS H; obtain ⟨c19, H⟩ := H; have c19b0 := eq_true c19; have c19b1 := decide_eq_true c19; try have c19b2 := eq_false (Nat.not_lt.2 c19)
     try have c19b3 := c19b2
     try simp only [ByteArray.size_append] at c19b3
     obtain rfl := Option.some.inj H; obtain ⟨hcz20_0, hcz20_1, hcz20_2, hcz20_3⟩ := cz4 BK101
     go_wp2_with (first | ((with_reducible refine gate_callee (f := 47) rfl ?_); refine glE (some 39) rfl rfl Tryz.func47 (by kernel_rfl) rfl #[.int .u64 (IntKind.u64.wrap (wrap64 ((wrap64 (8 * a0_0)) + a0_1)))] rfl ?_; (with_reducible refine (agateref01_Put_s.calls (IntKind.u64.wrap (wrap64 ((wrap64 (8 * a0_0)) + a0_1))) t102 _ A16.out).mono ?_); rintro e w21 ⟨v103, rfl, ho0, hb⟩; refine ⟨_, rfl, ?_⟩; have HO104 := mk0 (Kd.R_lower ho0 (below_size (hbA HB))); replace BK101 := bkS BK101 hb; replace HB := hbS HB hb; (try clear hb); (try clear ho0); have hcv22 := own_string (P := Tryz.prog) Tryz.underlying98 Tryz.underlying5 Tryz.underlying9 (Kd.own_of_R HO104.out); obtain ⟨hcz23_0, hcz23_1, hcz23_2, hcz23_3⟩ := cz4 BK101) | ((with_reducible refine gate_callee (f := 47) rfl ?_); refine glE (some 48) rfl rfl Tryz.func47 (by kernel_rfl) rfl #[.int .u64 a0_2] rfl ?_; (with_reducible refine (agateref01_Put_s.calls a0_2 t105 _ A18.out).mono ?_); rintro e w24 ⟨v106, rfl, ho0, hb⟩; refine ⟨_, rfl, ?_⟩; have HO107 := mk0 (Kd.R_lower (Kd.R_new' ho0 (Kd.R_lt (krA HO104))) (below_size (hbA HB))); replace HO104 := mk0 (Kd.R_elder' (krA HO104) (Kd.R_base ho0) hb); replace BK101 := bkS BK101 hb; replace HB := hbS HB hb; (try clear hb); (try clear ho0); have hcv25 := own_string (P := Tryz.prog) Tryz.underlying98 Tryz.underlying5 Tryz.underlying9 (Kd.own_of_R HO107.out)))
     go_ret
     exact ⟨cl3, hbA HB⟩
    ·
     rw [if_neg c17] at H; have c17b0 := beq_eq_false_iff_ne.mpr c17; have c17b1 := bne_iff_ne.mpr c17
     by_cases c26 : a0_1 = 1
     ·
      rw [if_pos c26] at H; have c26b0 := beq_iff_eq.mpr c26; have c26b1 := bne_eq_false_iff_eq.mpr c26; clear c26; replace H := bnd H; obtain ⟨t108, A27, H⟩ := H; replace H := ifS H; obtain ⟨c28, H⟩ := H; have c28b0 := eq_true c28; have c28b1 := decide_eq_true c28; try have c28b2 := eq_false (Nat.not_lt.2 c28)
      try have c28b3 := c28b2
      try simp only [ByteArray.size_append] at c28b3
      obtain rfl := Option.some.inj H; obtain ⟨hcz29_0, hcz29_1, hcz29_2, hcz29_3⟩ := cz4 BK101
      go_wp2_with (first | ((with_reducible refine gate_callee (f := 47) rfl ?_); refine glE (some 39) rfl rfl Tryz.func47 (by kernel_rfl) rfl #[.int .u64 (IntKind.u64.wrap (wrap64 ((wrap64 (8 * a0_0)) + a0_1)))] rfl ?_; (with_reducible refine (agateref01_Put_s.calls (IntKind.u64.wrap (wrap64 ((wrap64 (8 * a0_0)) + a0_1))) t102 _ A16.out).mono ?_); rintro e w30 ⟨v103, rfl, ho0, hb⟩; refine ⟨_, rfl, ?_⟩; have HO104 := mk0 (Kd.R_lower ho0 (below_size (hbA HB))); replace BK101 := bkS BK101 hb; replace HB := hbS HB hb; (try clear hb); (try clear ho0); have hcv31 := own_string (P := Tryz.prog) Tryz.underlying98 Tryz.underlying5 Tryz.underlying9 (Kd.own_of_R HO104.out); obtain ⟨hcz32_0, hcz32_1, hcz32_2, hcz32_3⟩ := cz4 BK101) | ((with_reducible refine gate_callee (f := 68) rfl ?_); refine glE (some 56) rfl rfl Tryz.func68 (by kernel_rfl) rfl #[.int .u64 a0_2, .int .i64 8] rfl ?_; (with_reducible refine (agateref02_high_s.calls a0_2 8 t108 _ A27.out).mono ?_); rintro e w33 ⟨rfl, hb⟩; refine ⟨_, rfl, ?_⟩; replace HO104 := mk0 (Kd.R_below (krA HO104) hb); replace BK101 := bkS BK101 hb; replace HB := hbS HB hb; (try clear hb)))
      go_ret
      exact ⟨cl3, hbA HB⟩
     ·
      rw [if_neg c26] at H; have c26b0 := beq_eq_false_iff_ne.mpr c26; have c26b1 := bne_iff_ne.mpr c26
      by_cases c34 : a0_1 = 2
      ·
       rw [if_pos c34] at H; have c34b0 := beq_iff_eq.mpr c34; have c34b1 := bne_eq_false_iff_eq.mpr c34; clear c34; replace H := bnd H; obtain ⟨t109, A35, H⟩ := H; replace H := ifS H; obtain ⟨c36, H⟩ := H; have c36b0 := eq_true c36; have c36b1 := decide_eq_true c36; try have c36b2 := eq_false (Nat.not_lt.2 c36)
       try have c36b3 := c36b2
       try simp only [ByteArray.size_append] at c36b3
       replace H := ifS H; obtain ⟨c37, H⟩ := H; have c37b0 := eq_true c37; have c37b1 := decide_eq_true c37; try have c37b2 := eq_false (Nat.not_lt.2 c37)
       try have c37b3 := c37b2
       try simp only [ByteArray.size_append] at c37b3
       obtain rfl := Option.some.inj H; obtain ⟨hcz38_0, hcz38_1, hcz38_2, hcz38_3⟩ := cz4 BK101
       try go_wp2_with (first | ((with_reducible refine gate_callee (f := 47) rfl ?_); refine glE (some 39) rfl rfl Tryz.func47 (by kernel_rfl) rfl #[.int .u64 (IntKind.u64.wrap (wrap64 ((wrap64 (8 * a0_0)) + a0_1)))] rfl ?_; (with_reducible refine (agateref01_Put_s.calls (IntKind.u64.wrap (wrap64 ((wrap64 (8 * a0_0)) + a0_1))) t102 _ A16.out).mono ?_); rintro e w39 ⟨v103, rfl, ho0, hb⟩; refine ⟨_, rfl, ?_⟩; have HO104 := mk0 (Kd.R_lower ho0 (below_size (hbA HB))); replace BK101 := bkS BK101 hb; replace HB := hbS HB hb; (try clear hb); (try clear ho0); have hcv40 := own_string (P := Tryz.prog) Tryz.underlying98 Tryz.underlying5 Tryz.underlying9 (Kd.own_of_R HO104.out); obtain ⟨hcz41_0, hcz41_1, hcz41_2, hcz41_3⟩ := cz4 BK101; have hfz41_3 := blk_frozen BK101.out 3)); replace HO104 := mk0 (Kd.R_drew HO104.out); replace BK101 := mk0 (blk_drew BK101.out); replace HB := mk0 (below_drew1 HB.out)
       refine start_ (n := 12) (S := fun w' => w'.cell? ⟨gb101, 0, none⟩ = some (.int .i64 a0_0) ∧ w'.cell? ⟨gb101, 1, none⟩ = some (.int .i64 a0_1) ∧ w'.cell? ⟨gb101, 2, none⟩ = some (.int .u64 a0_2) ∧ w'.cell? ⟨gb101, 3, none⟩ = some (.string a0_3)) (ds := []) (bA 12 0) (by kernel_rfl) rfl rfl ⟨bcA BK101 0, bcA BK101 1, bcA BK101 2, bcA BK101 3⟩ (fun hHeld => ?_); refine with_tabW agateref02_Bytes.tab10 agateref02_Bytes.bits10 (fun HT_ HW_ => ?_)
       generalize w39.drew = w42 at HO104 BK101 HB hHeld ⊢
       refine puE (i := 0) (N := some 60) (bA 12 1) HT_ ?_
       refine puE (i := 1) (N := some 61) (bA 12 3) HT_ ?_
       refine puE (i := 8) (N := some 68) (bA 12 259) HT_ ?_
       refine taE (i := 2) (N := some 62) (bA 12 263) HT_ HW_ hHeld ?_
       refine puE (i := 3) (N := some 63) (bA 12 271) HT_ ?_
       refine puE (i := 4) (N := some 64) (bA 12 287) HT_ ?_
       refine taE (i := 9) (N := some 69) (bA 12 799) HT_ HW_ hHeld ?_
       refine one_ (i := 5) (N := some 65) (bA 12 831) rfl rfl (one_of HT_.out (by kernel_rfl)) (by decide) (fun K hK => ?_)
       refine goE Tryz.func47 (by kernel_rfl) rfl #[.int .u64 (IntKind.u64.wrap ((a0_3.size : Int)))] (by rfl) rfl rfl ?_
       with_reducible refine (agateref01_Put_s.calls (IntKind.u64.wrap ((a0_3.size : Int))) t109 _ A35.out).mono ?_
       rintro e w43 ⟨v110, rfl, ho0, hb⟩
       refine ⟨_, rfl, ?_⟩
       have HO111 := mk0 (Kd.R_lower (Kd.R_new' ho0 (Kd.R_lt (krA HO104))) (below_size (hbA HB))); replace HO104 := mk0 (Kd.R_elder' (krA HO104) (Kd.R_base ho0) hb); replace BK101 := bkS BK101 hb; replace HB := hbS HB hb; try clear hb; try clear ho0
       refine hK.out _ _ ⟨bcA BK101 0, bcA BK101 1, bcA BK101 2, bcA BK101 3⟩ (fun hHeld => ?_)
       clear hK K
       refine noE 65 ?_
       refine one_ (i := 6) (N := some 66) (bA 12 895) rfl rfl (one_of HT_.out (by kernel_rfl)) (by decide) (fun K hK => ?_)
       have hcv44 := own_string (P := Tryz.prog) Tryz.underlying98 Tryz.underlying5 Tryz.underlying9 (Kd.own_of_R HO111.out)
       refine value_ (w1 := ?_) (v := ?_) (by rfl) rfl ?_ ?_
       rotate_left 2
       ·
        go_simp
        constructor
        ·
         rfl
        ·
         rfl
       clear hcv44
       refine hK.out _ _ ⟨bcA BK101 0, bcA BK101 1, bcA BK101 2, bcA BK101 3⟩ (fun hHeld => ?_)
       clear hK K
       refine noE 66 ?_
       refine puE (i := 7) (N := some 67) (bA 12 1023) HT_ ?_
       refine puE (i := 10) (N := some 70) (bA 12 2047) HT_ ?_
       refine puE (i := 11) (N := some 2) (bA 12 4095) HT_ ?_
       refine done_ (done_of HT_.out (by kernel_rfl)) ?_
       try go_wp2
       go_ret
       exact ⟨cl3, hbA HB⟩
      ·
       rw [if_neg c34] at H; have c34b0 := beq_eq_false_iff_ne.mpr c34; have c34b1 := bne_iff_ne.mpr c34
       by_cases c45 : a0_2 > 4294967295
       ·
        rw [if_pos c45] at H; have c45b0 := decide_eq_true c45; clear c45; obtain rfl := Option.some.inj H; obtain ⟨hcz46_0, hcz46_1, hcz46_2, hcz46_3⟩ := cz4 BK101
        go_wp2_with (first | ((with_reducible refine gate_callee (f := 47) rfl ?_); refine glE (some 39) rfl rfl Tryz.func47 (by kernel_rfl) rfl #[.int .u64 (IntKind.u64.wrap (wrap64 ((wrap64 (8 * a0_0)) + a0_1)))] rfl ?_; (with_reducible refine (agateref01_Put_s.calls (IntKind.u64.wrap (wrap64 ((wrap64 (8 * a0_0)) + a0_1))) t102 _ A16.out).mono ?_); rintro e w47 ⟨v103, rfl, ho0, hb⟩; refine ⟨_, rfl, ?_⟩; have HO104 := mk0 (Kd.R_lower ho0 (below_size (hbA HB))); replace BK101 := bkS BK101 hb; replace HB := hbS HB hb; (try clear hb); (try clear ho0); have hcv48 := own_string (P := Tryz.prog) Tryz.underlying98 Tryz.underlying5 Tryz.underlying9 (Kd.own_of_R HO104.out); obtain ⟨hcz49_0, hcz49_1, hcz49_2, hcz49_3⟩ := cz4 BK101; have hfz49_3 := blk_frozen BK101.out 3))
        go_ret
        exact ⟨cl3, hbA HB⟩
       ·
        rw [if_neg c45] at H; have c45b0 := decide_eq_false c45; clear c45; replace H := bnd H; obtain ⟨t112, A50, H⟩ := H; replace H := ifS H; obtain ⟨c51, H⟩ := H; have c51b0 := eq_true c51; have c51b1 := decide_eq_true c51; try have c51b2 := eq_false (Nat.not_lt.2 c51)
        try have c51b3 := c51b2
        try simp only [ByteArray.size_append] at c51b3
        obtain rfl := Option.some.inj H; obtain ⟨hcz52_0, hcz52_1, hcz52_2, hcz52_3⟩ := cz4 BK101
        go_wp2_with (first | ((with_reducible refine gate_callee (f := 47) rfl ?_); refine glE (some 39) rfl rfl Tryz.func47 (by kernel_rfl) rfl #[.int .u64 (IntKind.u64.wrap (wrap64 ((wrap64 (8 * a0_0)) + a0_1)))] rfl ?_; (with_reducible refine (agateref01_Put_s.calls (IntKind.u64.wrap (wrap64 ((wrap64 (8 * a0_0)) + a0_1))) t102 _ A16.out).mono ?_); rintro e w53 ⟨v103, rfl, ho0, hb⟩; refine ⟨_, rfl, ?_⟩; have HO104 := mk0 (Kd.R_lower ho0 (below_size (hbA HB))); replace BK101 := bkS BK101 hb; replace HB := hbS HB hb; (try clear hb); (try clear ho0); have hcv54 := own_string (P := Tryz.prog) Tryz.underlying98 Tryz.underlying5 Tryz.underlying9 (Kd.own_of_R HO104.out); obtain ⟨hcz55_0, hcz55_1, hcz55_2, hcz55_3⟩ := cz4 BK101) | ((with_reducible refine gate_callee (f := 68) rfl ?_); refine glE (some 77) rfl rfl Tryz.func68 (by kernel_rfl) rfl #[.int .u64 a0_2, .int .i64 4] rfl ?_; (with_reducible refine (agateref02_high_s.calls a0_2 4 t112 _ A50.out).mono ?_); rintro e w56 ⟨rfl, hb⟩; refine ⟨_, rfl, ?_⟩; replace HO104 := mk0 (Kd.R_below (krA HO104) hb); replace BK101 := bkS BK101 hb; replace HB := hbS HB hb; (try clear hb)))
        go_ret
        exact ⟨cl3, hbA HB⟩
def agateref02_Bytes_s.f (a0 a1 a2 : Int) (a3 : ByteArray) : Option ByteArray :=
  if -9223372036854775808 ≤ a0 ∧ a0 < 9223372036854775808 ∧ -9223372036854775808 ≤ a1 ∧ a1 < 9223372036854775808 ∧ 0 ≤ a2 ∧ a2 < 18446744073709551616 ∧ a3.size ≤ 140737488351232 then some (bytesS a0 a1 a2 a3) else none
theorem agateref02_Bytes_s.ev (a0 a1 a2 : Int) (a3 : ByteArray) (r) (h : agateref02_Bytes_s.f a0 a1 a2 a3 = some r) : ∃ k, agateref02_Bytes.f k a0 a1 a2 a3 = some r := by
  unfold agateref02_Bytes_s.f at h
  split at h
  · rename_i hr
    obtain ⟨p0, p1, p2, p3, p4, p5, p6⟩ := hr
    rw [← h]
    refine ⟨1, ?_⟩
    unfold agateref02_Bytes.f bytesS
    by_cases hm : 1 ≤ a0 ∧ a0 ≤ 536870911 ∧ (a1 = 0 ∨ a1 = 1 ∨ a1 = 2 ∨ a1 = 5)
    · have hm1 := hm
      obtain ⟨m0, m1, m2⟩ := hm1
      rw [if_neg (by omega), if_neg (by omega), if_neg (by omega), if_neg (by omega), if_neg (by omega), if_pos hm]
      simp only [agateref02_Bytes.j0]
      have ep : ∀ x : Int, 0 ≤ x → x < 18446744073709551616 → agateref01_Put_s.f x = some ((vPut x.toNat).map Int.ofNat) := fun x g0 g1 => if_pos ⟨g0, g1⟩
      have hs : ∀ x : Int, 0 ≤ x → x < 18446744073709551616 → (vStr x.toNat).size ≤ 10 := fun x g0 g1 => by rw [vStr_size]; exact vSize_10 _ (by omega)
      have hs1 := hs (8 * a0 + a1) (by omega) (by omega)
      have es : ∀ n, strOfNums ((vPut n).map Int.ofNat) = vStr n := fun _ => rfl
      rw [if_neg (by simp; omega), wrap64_id (x := 8 * a0) (by omega) (by omega), wrap64_id (by omega) (by omega), u64_id (by omega) (by omega), ep _ (by omega) (by omega), Option.bind_some]
      simp only [es]
      rcases m2 with rfl | rfl | rfl | rfl
      · have hs2 := hs a2 p4 p5
        rw [if_pos rfl, if_pos rfl, ep _ p4 p5, Option.bind_some]
        simp only [es]
        rw [if_pos (by omega)]
      · rw [if_neg (by decide), if_pos rfl, if_neg (by decide), if_neg (by decide), if_pos rfl]
        have el : agateref02_high_s.f a2 8 = some (laidStr a2.toNat 8) := if_pos ⟨p4, p5, by decide, by decide⟩
        rw [el, Option.bind_some, if_pos (by rw [laidStr_size]; omega)]
      · have hs2 := hs (a3.size : Int) (by omega) (by omega)
        rw [Int.toNat_natCast] at hs2
        rw [if_neg (by decide), if_neg (by decide), if_pos rfl, if_neg (by decide), if_pos rfl, u64_id (by omega) (by omega), ep _ (by omega) (by omega), Option.bind_some, Int.toNat_natCast]
        simp only [es]
        rw [if_pos (by omega), if_pos (by rw [ByteArray.size_append]; omega)]
      · rw [if_neg (show ¬ (5 : Int) = 0 by decide), if_neg (show ¬ (5 : Int) = 1 by decide), if_neg (show ¬ (5 : Int) = 2 by decide), if_neg (show ¬ (5 : Int) = 0 by decide), if_neg (show ¬ (5 : Int) = 2 by decide), if_neg (show ¬ (5 : Int) = 1 by decide)]
        by_cases hg : a2 > 4294967295
        · rw [if_pos hg, if_pos hg]
        · rw [if_neg hg, if_neg hg]
          have el : agateref02_high_s.f a2 4 = some (laidStr a2.toNat 4) := if_pos ⟨p4, p5, by decide, by decide⟩
          rw [el, Option.bind_some, if_pos (by rw [laidStr_size]; omega)]
    · rw [if_neg hm]
      by_cases n0 : a0 < 1
      · rw [if_pos n0]; rfl
      · by_cases n1 : a0 > 536870911
        · rw [if_neg n0, if_pos n1]; rfl
        · by_cases n2 : a1 < 0
          · rw [if_neg n0, if_neg n1, if_pos n2]; rfl
          · by_cases n3 : a1 > 5
            · rw [if_neg n0, if_neg n1, if_neg n2, if_pos n3]; rfl
            · by_cases n4 : a1 = 3
              · rw [if_neg n0, if_neg n1, if_neg n2, if_neg n3, if_pos n4]; rfl
              · obtain rfl : a1 = 4 := by omega
                rw [if_neg n0, if_neg n1, if_neg n2, if_neg n3, if_neg n4]; rfl
  · cases h
set_option maxHeartbeats 1000000 in
theorem agateref02_Bytes_s.calls (a0_0 : Int) (a0_1 : Int) (a0_2 : Int) (a0_3 : ByteArray) (r : ByteArray) (w : World) (h : agateref02_Bytes_s.f a0_0 a0_1 a0_2 a0_3 = some r) :
    Calls Tryz.prog 46 #[.agg #[.int .i64 a0_0, .int .i64 a0_1, .int .u64 a0_2, .string a0_3]] w fun e w' => e = .returned (.string r) ∧ Below w.heap.size w w' := by
  obtain ⟨k, hk⟩ := agateref02_Bytes_s.ev a0_0 a0_1 a0_2 a0_3 _ h
  exact agateref02_Bytes.calls k a0_0 a0_1 a0_2 a0_3 r w hk
def agateref02_Number.f (a0 : Int) (a1 : Int) : Option (ByteArray) := (agateref02_Bytes_s.f a0 0 a1 (⟨#[]⟩ : ByteArray)).bind fun t101 => (some t101)
set_option maxHeartbeats 8000000 in
set_option maxRecDepth 100000 in
theorem agateref02_Number.calls (a0 : Int) (a1 : Int) (r : ByteArray) (w : World) (h : agateref02_Number.f a0 a1 = some r) :
    Calls Tryz.prog 26 #[.int .i64 a0, .int .u64 a1] w fun e w' => e = .returned (.string r) ∧ Below w.heap.size w w' := by
  have hu97 := Tryz.underlying97; have HB := mk0 (Below.refl w.heap.size w); have H : ((agateref02_Bytes_s.f a0 0 a1 (⟨#[]⟩ : ByteArray)).bind fun t101 => (some t101)) = some r := h; clear h; replace H := bnd H; obtain ⟨t101, A3, H⟩ := H; obtain rfl := Option.some.inj H
  go_enter Tryz.func26, Tryz.ntmps26
  go_wp2_with (first | ((with_reducible refine gate_callee (f := 46) rfl ?_); refine glE (some 8) rfl rfl Tryz.func46 (by kernel_rfl) rfl #[.agg #[.int .i64 a0, .int .i64 0, .int .u64 a1, .string (⟨#[]⟩ : ByteArray)]] rfl ?_; (with_reducible refine (agateref02_Bytes_s.calls a0 0 a1 (⟨#[]⟩ : ByteArray) t101 _ A3.out).mono ?_); rintro e w4 ⟨rfl, hb⟩; refine ⟨_, rfl, ?_⟩; replace HB := mk0 (below_step (hbA HB) hb); (try clear hb)))
  go_ret
  exact ⟨cl3, hbA HB⟩
def agateref02_Number_s.f (a0 a1 : Int) : Option ByteArray := agateref02_Bytes_s.f a0 0 a1 ⟨#[]⟩
theorem agateref02_Number_s.ev (a0 a1 : Int) (r) (h : agateref02_Number_s.f a0 a1 = some r) : ∃ k : Nat, agateref02_Number.f a0 a1 = some r := by
  unfold agateref02_Number_s.f at h
  exact ⟨0, by unfold agateref02_Number.f; rw [h]; rfl⟩
set_option maxHeartbeats 1000000 in
theorem agateref02_Number_s.calls (a0 : Int) (a1 : Int) (r : ByteArray) (w : World) (h : agateref02_Number_s.f a0 a1 = some r) :
    Calls Tryz.prog 26 #[.int .i64 a0, .int .u64 a1] w fun e w' => e = .returned (.string r) ∧ Below w.heap.size w w' := by
  obtain ⟨k, hk⟩ := agateref02_Number_s.ev a0 a1 _ h
  exact agateref02_Number.calls a0 a1 r w hk
def agateref02_Text.f (a0 : Int) (a1 : ByteArray) : Option (ByteArray) := (agateref02_Bytes_s.f a0 2 0 a1).bind fun t101 => (some t101)
set_option maxHeartbeats 8000000 in
set_option maxRecDepth 100000 in
theorem agateref02_Text.calls (a0 : Int) (a1 : ByteArray) (r : ByteArray) (w : World) (h : agateref02_Text.f a0 a1 = some r) :
    Calls Tryz.prog 24 #[.int .i64 a0, .string a1] w fun e w' => e = .returned (.string r) ∧ Below w.heap.size w w' := by
  have hu97 := Tryz.underlying97; have HB := mk0 (Below.refl w.heap.size w); have H : ((agateref02_Bytes_s.f a0 2 0 a1).bind fun t101 => (some t101)) = some r := h; clear h; replace H := bnd H; obtain ⟨t101, A3, H⟩ := H; obtain rfl := Option.some.inj H
  go_enter Tryz.func24, Tryz.ntmps24
  go_wp2_with (first | ((with_reducible refine gate_callee (f := 46) rfl ?_); refine glE (some 8) rfl rfl Tryz.func46 (by kernel_rfl) rfl #[.agg #[.int .i64 a0, .int .i64 2, .int .u64 0, .string a1]] rfl ?_; (with_reducible refine (agateref02_Bytes_s.calls a0 2 0 a1 t101 _ A3.out).mono ?_); rintro e w4 ⟨rfl, hb⟩; refine ⟨_, rfl, ?_⟩; replace HB := mk0 (below_step (hbA HB) hb); (try clear hb)))
  go_ret
  exact ⟨cl3, hbA HB⟩
def agateref02_Text_s.f (a0 : Int) (a1 : ByteArray) : Option ByteArray := agateref02_Bytes_s.f a0 2 0 a1
theorem agateref02_Text_s.ev (a0 : Int) (a1 : ByteArray) (r) (h : agateref02_Text_s.f a0 a1 = some r) : ∃ k : Nat, agateref02_Text.f a0 a1 = some r := by
  unfold agateref02_Text_s.f at h
  exact ⟨0, by unfold agateref02_Text.f; rw [h]; rfl⟩
set_option maxHeartbeats 1000000 in
theorem agateref02_Text_s.calls (a0 : Int) (a1 : ByteArray) (r : ByteArray) (w : World) (h : agateref02_Text_s.f a0 a1 = some r) :
    Calls Tryz.prog 24 #[.int .i64 a0, .string a1] w fun e w' => e = .returned (.string r) ∧ Below w.heap.size w w' := by
  obtain ⟨k, hk⟩ := agateref02_Text_s.ev a0 a1 _ h
  exact agateref02_Text.calls a0 a1 r w hk
end Go.Proofs.YthidedmnmdlfkaaGreat.X
