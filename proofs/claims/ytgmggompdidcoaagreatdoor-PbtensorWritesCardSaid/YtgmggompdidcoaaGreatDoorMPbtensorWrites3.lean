import Derived.Test.YtgmggompdidcoaaGreatDoorMPbtensorWrites2
import Derived.Laws.BitsAllLaws
namespace Go.Proofs.YtgmggompdidcoaaGreatDoor.X
open Go.RowKit Go.Proofs.YtgmggompdidcoaaGreatDoorW.PrintWords Go.Proofs.YtgmggompdidcoaaGreatDoorW.PrintLast Go.Proofs.YtgmggompdidcoaaGreatDoorW.PrintMore
attribute [local go_sem] max2_int min2_int max_two min_two max_three min_three max_four min_four
set_option linter.unusedVariables false
set_option linter.unusedSimpArgs false
def agatelaw07_Of.f (a0_0 : ByteArray) (a0_1 : Int) (l0_2 : List Int) (a0_3 : ByteArray) : Option (ByteArray × Int × List Int × ByteArray) := some (a0_0, a0_1, l0_2, a0_3)
set_option maxHeartbeats 8000000 in
set_option maxRecDepth 100000 in
theorem agatelaw07_Of.calls (a0_0 : ByteArray) (a0_1 : Int) (P0_2_ : Nat → Prop) (A0_2 : Option Addr) (c0_2 : Nat) (l0_2 : List Int) (a0_3 : ByteArray) (r1 : ByteArray) (r2 : Int) (r3 : List Int) (r4 : ByteArray) (w : World) (hs0_2 : Kd.V (Kd.int .i64) 2 w w.heap.size (fun k_ => P0_2_ k_) (.slice A0_2 l0_2.length c0_2) l0_2) (h : agatelaw07_Of.f a0_0 a0_1 l0_2 a0_3 = some (r1, r2, r3, r4)) :
  Calls Tryz.prog 10 #[.agg #[.string a0_0, .int .i64 a0_1, .slice A0_2 l0_2.length c0_2, .string a0_3]] w fun e w' => ∃ v2_ : Value, e = .returned (.agg #[.string r1, .int .i64 r2, v2_, .string r4]) ∧ Kd.V (Kd.int .i64) 2 w' w.heap.size (fun k_ => (P0_2_ k_ ∨ w.heap.size ≤ k_)) v2_ r3 ∧ Below w.heap.size w w' := by
 have hu33 := Tryz.underlying33; have hu38 := Tryz.underlying38; have HO0_2 := mk0 (show Kd.V (Kd.int .i64) 2 w w.heap.size (fun k_ => (P0_2_ k_ ∨ w.heap.size ≤ k_)) (.slice A0_2 l0_2.length c0_2) l0_2 from Kd.V_mono hs0_2 (fun k_ hk => .inl hk)); have HB := mk0 (Below.refl w.heap.size w); have H : (some (a0_0, a0_1, l0_2, a0_3)) = some (r1, r2, r3, r4) := h; clear h
 simp only [Option.some.injEq, Prod.mk.injEq] at H
 obtain ⟨rfl, rfl, rfl, rfl⟩ := H
 go_enter Tryz.func10, Tryz.ntmps10
 go_wp2_with (first | ((with_reducible refine gate_dst (N := 1) rfl ?_); refine boxE (N := 1) (cs := #[.string a0_0, .int .i64 a0_1, .slice A0_2 l0_2.length c0_2, .string a0_3]) (t := 33) ?_; intro gb101 hg w2 hbox hb; replace HO0_2 := mk0 (Kd.V_below (Kd.V_elderB (by (with_reducible repeat (first | apply Kd.V_alloc | apply Kd.V_drewN | apply Kd.V_drew)); exact HO0_2.out) gb101 (Nat.le_of_eq hg.symm)) hb); have BK101 := mk0 hbox; have GW101 := gwS HB hg; have GE101 := gwS HB hg; replace HB := hbS HB hb; clear hb hbox hg) | ((with_reducible refine gate_dst (N := 2) rfl ?_); refine boxE (N := 2) (cs := #[.string (⟨#[]⟩ : ByteArray), .int .i64 0, .slice none 0 0, .string (⟨#[]⟩ : ByteArray)]) (t := 38) ?_; intro gb102 hg w3 hbox hb; replace HO0_2 := mk0 (Kd.V_below (Kd.V_elderB (by (with_reducible repeat (first | apply Kd.V_alloc | apply Kd.V_drewN | apply Kd.V_drew)); exact HO0_2.out) gb102 (Nat.le_of_eq hg.symm)) hb); have BK102 := mk0 hbox; have GW102 := gwS HB hg; have GE102 := gwS HB hg; replace HB := hbS HB hb; have NB101_102 := neS BK101 hg; have NB102_101 := neT BK101 hg; replace BK101 := bkS BK101 hb; clear hb hbox hg; have hnb4 := NB101_102.out; have hnc4 := NB102_101.out; obtain ⟨hcz5_0, hcz5_1, hcz5_2, hcz5_3⟩ := cz4 BK101; have hfz5_0 := fz BK101 0; have hfz5_1 := fz BK101 1; have hfz5_2 := fz BK101 2; have hfz5_3 := fz BK101 3; obtain ⟨hcz6_0, hcz6_1, hcz6_2, hcz6_3⟩ := cz4 BK102; have hfz6_0 := fz BK102 0; have hfz6_1 := fz BK102 1; have hfz6_2 := fz BK102 2; have hfz6_3 := blk_frozen BK102.out 3))
 refine bodyPost_ret (results_cell_row rfl _ _ gb102 38 #[.string a0_0, .int .i64 a0_1, .slice A0_2 l0_2.length c0_2, .string a0_3] (0, 0) _ rfl (bkW BK102) Tryz.underlying38 rfl (by kernel_rfl)) rfl ?_
 exact ⟨_, cl3, by (with_reducible repeat (first | apply Kd.V_alloc | apply Kd.V_drewN | apply Kd.V_drew)); exact Kd.V_mono (Kd.V_far (p := ⟨gb102, 3, none⟩) (Kd.V_far (p := ⟨gb102, 2, none⟩) (Kd.V_far (p := ⟨gb102, 1, none⟩) (Kd.V_far (p := ⟨gb102, 0, none⟩) (Kd.V_mono HO0_2.out (fun k_ hk => (⟨hk, hk.2⟩ : _ ∧ k_ ≠ gb102))) (fun _ hk => hk.2) (.string a0_0)) (fun _ hk => hk.2) (.int .i64 a0_1)) (fun _ hk => hk.2) (.slice A0_2 l0_2.length c0_2)) (fun _ hk => hk.2) (.string a0_3)) (fun _ hk => hk.1.1.1), hbA HB⟩
def agateref01_Put.f : Nat → Int → Option (List Int)
 | 0, _ => none
 | k + 1, a0 => if a0 < 128 then (some (([(a0) % 256] : List Int))) else ((some (([(IntKind.u64.wrap ((Int.tmod a0 128) + 128)) % 256] : List Int) : List Int)).bind fun y104 => ((agateref01_Put.f k (IntKind.u64.wrap (Int.tdiv a0 128))).bind fun t107 => (if y104.length + t107.length < 140737488355328 then (some (y104 ++ t107)) else (none))))
set_option maxHeartbeats 8000000 in
set_option maxRecDepth 100000 in
theorem agateref01_Put.calls (k : Nat) : ∀ (a0 : Int) (r : List Int) (w : World) (h : agateref01_Put.f k a0 = some r),
  Calls Tryz.prog 75 #[.int .u64 a0] w fun e w' => ∃ v0_ : Value, e = .returned (v0_) ∧ Kd.R (Kd.int .u8) 5 w' w.heap.size (fun _ => True) v0_ r ∧ Below w.heap.size w w' := by
 induction k using Nat.strongRecOn with
 | _ k ih =>
 intro a0 r w h
 cases k with
 | zero => exact absurd h (by simp [agateref01_Put.f])
 | succ k =>
 simp only [agateref01_Put.f] at h
 have HB := mk0 (Below.refl w.heap.size w); have H : (if a0 < 128 then (some (([(a0) % 256] : List Int))) else ((some (([(IntKind.u64.wrap ((Int.tmod a0 128) + 128)) % 256] : List Int) : List Int)).bind fun y104 => ((agateref01_Put.f k (IntKind.u64.wrap (Int.tdiv a0 128))).bind fun t107 => (if y104.length + t107.length < 140737488355328 then (some (y104 ++ t107)) else (none))))) = some r := h; clear h
 by_cases c2 : a0 < 128
 ·
  rw [if_pos c2] at H; have c2b0 := decide_eq_true c2; clear c2; obtain ⟨y101, hy101⟩ : ∃ y_ : List Int, y_ = (([(a0) % 256] : List Int)) := ⟨_, rfl⟩; replace H : (some y101) = some r := by first | (rw [hy101]; with_reducible exact H) | (have H2_ := (Option.bind_some _ _).symm.trans H; rw [hy101]; with_reducible exact H2_) | (have H2_ := (Option.bind_some _ _).symm.trans H; with_reducible exact H2_) | with_reducible exact H | (rw [hy101]; exact H) | exact H
  have Ny101 := mk0 hy101; clear hy101; obtain rfl := Option.some.inj H
  go_enter Tryz.func75, Tryz.ntmps75
  go_wp2_with (first | ((with_reducible refine gate_dst (N := 7) rfl ?_); refine Kd.R_lit (Kd.int .u8) _ 5 ?hg (N := 7) ?hd (xs := ([(a0) % 256] : List Int)) (inner := [.int .u8 ((a0) % 256)]) (ok := fun _ => True) (okp := fun _ => True) ?hr ?hp (fun _ hk => hk) trivial (Below.refl _ _) (Nat.le_refl _) (by simp) ?_; (case hd => rfl); (case hg => rfl); (case hr => first | (go_simp; done) | (go_simp; rfl)); (case hp => exact (Reps.one (show Kd.M (Kd.int .u8) _ _ _ ((a0) % 256) [.int .u8 ((a0) % 256)] from rfl) (Reps.none _ _))); intro v102 w3 ho4 hb hg_ hnew_; clear hg_ hnew_; (first | rw [← Ny101.out] at ho4 | (simp only [Int.reduceToNat] at ho4; rw [← Ny101.out] at ho4)); have HO103 := mk0 (Kd.R_lower ho4 (below_size (hbA HB))); replace HB := hbS HB hb; clear hb ho4))
  go_ret
  exact ⟨_, cl3, krA HO103, hbA HB⟩
 ·
  rw [if_neg c2] at H; have c2b0 := decide_eq_false c2; clear c2; obtain ⟨y104, hy104⟩ : ∃ y_ : List Int, y_ = (([(IntKind.u64.wrap ((Int.tmod a0 128) + 128)) % 256] : List Int)) := ⟨_, rfl⟩; replace H : ((agateref01_Put.f k (IntKind.u64.wrap (Int.tdiv a0 128))).bind fun t107 => (if y104.length + t107.length < 140737488355328 then (some (y104 ++ t107)) else (none))) = some r := by first | (rw [hy104]; with_reducible exact H) | (have H2_ := (Option.bind_some _ _).symm.trans H; rw [hy104]; with_reducible exact H2_) | (have H2_ := (Option.bind_some _ _).symm.trans H; with_reducible exact H2_) | with_reducible exact H | (rw [hy104]; exact H) | exact H
  have Ny104 := mk0 hy104; clear hy104; replace H := bnd H; obtain ⟨t107, A5, H⟩ := H; replace H := ifS H; obtain ⟨c6, H⟩ := H; have LMc6 := mk0 c6; clear c6; obtain ⟨y110, hy110⟩ : ∃ y_ : List Int, y_ = (y104 ++ t107) := ⟨_, rfl⟩; replace H : (some y110) = some r := by first | (rw [hy110]; with_reducible exact H) | (have H2_ := (Option.bind_some _ _).symm.trans H; rw [hy110]; with_reducible exact H2_) | (have H2_ := (Option.bind_some _ _).symm.trans H; with_reducible exact H2_) | with_reducible exact H | (rw [hy110]; exact H) | exact H
  have Ny110 := mk0 hy110; clear hy110; obtain rfl := Option.some.inj H
  go_enter Tryz.func75, Tryz.ntmps75
  go_wp2_with (first | ((with_reducible refine gate_dst (N := 12) rfl ?_); refine Kd.R_lit (Kd.int .u8) _ 5 ?hg (N := 12) ?hd (xs := ([(IntKind.u64.wrap ((Int.tmod a0 128) + 128)) % 256] : List Int)) (inner := [.int .u8 ((IntKind.u64.wrap ((Int.tmod a0 128) + 128)) % 256)]) (ok := fun _ => True) (okp := fun _ => True) ?hr ?hp (fun _ hk => hk) trivial (Below.refl _ _) (Nat.le_refl _) (by simp) ?_; (case hd => rfl); (case hg => rfl); (case hr => first | (go_simp; done) | (go_simp; rfl)); (case hp => exact (Reps.one (show Kd.M (Kd.int .u8) _ _ _ ((IntKind.u64.wrap ((Int.tmod a0 128) + 128)) % 256) [.int .u8 ((IntKind.u64.wrap ((Int.tmod a0 128) + 128)) % 256)] from rfl) (Reps.none _ _))); intro v105 w7 ho8 hb hg_ hnew_; clear hg_ hnew_; (first | rw [← Ny104.out] at ho8 | (simp only [Int.reduceToNat] at ho8; rw [← Ny104.out] at ho8)); have HO106 := mk0 (Kd.R_lower ho8 (below_size (hbA HB))); replace HB := hbS HB hb; clear hb ho8) | ((with_reducible refine gate_callee (f := 75) rfl ?_); refine glE (some 15) rfl rfl Tryz.func75 (by kernel_rfl) rfl #[.int .u64 (IntKind.u64.wrap (Int.tdiv a0 128))] rfl ?_; (with_reducible refine (ih k (by omega) (IntKind.u64.wrap (Int.tdiv a0 128)) t107 _ A5.out).mono ?_); rintro e w9 ⟨v108, rfl, ho0, hb⟩; refine ⟨_, rfl, ?_⟩; have HO109 := mk0 (Kd.R_lower (Kd.R_new' ho0 (Kd.R_lt (krA HO106))) (below_size (hbA HB))); replace HO106 := mk0 (Kd.R_elder' (krA HO106) (Kd.R_base ho0) hb); replace HB := hbS HB hb; (try clear hb); (try clear ho0); obtain ⟨Ao11, co11, eo11⟩ := Kd.R_slice HO109.out; subst eo11) | ((with_reducible refine gate_builtin (b := .append) (xs := #[.tmp 12, .tmp 15]) rfl ?_); at_builtin; refine Kd.R_append_rows (Kd.int .u8) (w0 := w) w.heap.size rfl (.tmp 12) (.tmp 15) 80 5 (.int .u8 0) 1 rfl Tryz.underlying80 info5 rfl (by decide) (by omega) v105 y104 t107 _ _ _ (fun k_ => some k_ ≠ (.slice Ao11 t107.length co11 : Value).ownBlock) (fun _ => False) rfl rfl ?aO ?aR (fun _ _ h => h) (fun _ h => h.elim) ?aF ?aB ?aS ?aL ?_; (case aR => repeat (first | exact (Kd.R_reads' HO109.out).2.2 | (with_reducible refine Kd.C_alloc ?_ _) | (with_reducible refine Kd.C_drewN ?_ _) | (with_reducible refine Kd.C_drew ?_))); (case aB => exact (hbA HB)); (case aF => exact (fun k_ hk => Kd.fresh' (Kd.R_lt (krA HO109)) k_ hk)); (case aO => exact (by (with_reducible repeat (first | apply Kd.R_alloc | apply Kd.R_drewN | apply Kd.R_drew)); exact Kd.R_mono HO106.out (fun _ hk => hk.2))); (case aS => exact (below_size (hbA HB))); (case aL => have := LMc6.out; omega); intro v111 w10 ho hb hg hat; rw [← Ny110.out] at ho; replace HO109 := mk0 (Kd.R_after (ok := (fun _ => True)) (krA HO109) hg hat); replace HB := mk0 hb; have HO112 := mk0 ho; clear HO106; clear ho hb hg hat))
  go_ret
  exact ⟨_, cl3, by (with_reducible repeat (first | apply Kd.R_alloc | apply Kd.R_drewN | apply Kd.R_drew)); exact Kd.R_mono HO112.out (fun _ hk => trivial), hbA HB⟩
def vSize (v : Nat) : Nat := if v < 128 then 1 else vSize (v / 128) + 1
  decreasing_by omega
theorem vSize_lt {v : Nat} (h : v < 128) : vSize v = 1 := by rw [vSize, if_pos h]
theorem vSize_ge {v : Nat} (h : ¬ v < 128) : vSize v = vSize (v / 128) + 1 := by rw [vSize, if_neg h]
def ns (s : ByteArray) : List Nat := s.data.toList.map UInt8.toNat
theorem ns_length (s : ByteArray) : (ns s).length = s.size := by simp [ns]
theorem ns_lt (s : ByteArray) : ∀ c ∈ ns s, c < 256 := by
  intro c hc
  simp only [ns, List.mem_map] at hc
  obtain ⟨x, _, rfl⟩ := hc
  exact x.toNat_lt
theorem ns_get (s : ByteArray) (i : Nat) (h : i < s.size) : (ns s)[i]'(by rw [ns_length]; exact h) = (s[i]'h).toNat := by simp [ns]; rfl
theorem ns_drop (s : ByteArray) (i : Nat) (h : i < s.size) : (ns s).drop i = (s[i]'h).toNat :: (ns s).drop (i + 1) := by
  rw [List.drop_eq_getElem_cons (by rw [ns_length]; exact h), ns_get s i h]
theorem ns_drop_end (s : ByteArray) (i : Nat) (h : s.size ≤ i) : (ns s).drop i = [] := by
  rw [List.drop_eq_nil_iff, ns_length]; exact h
theorem bt_ns (s : ByteArray) (i : Nat) (h : i < s.size) : bt s i = ((s[i]'h).toNat : Int) := by simp [bt, h]
def readS : List Nat → Nat → Nat → Nat × Nat × Nat
  | [], _, _ => (0, 0, 1)
  | c :: l, n, v => if n = 9 ∧ 1 < c then (0, 0, 2) else if c < 128 then (v + c * 128 ^ n, n + 1, 0) else readS l (n + 1) (v + (c % 128) * 128 ^ n)
def vRead (s : ByteArray) : Nat × Nat × Nat := readS (ns s) 0 0
def vPut (v : Nat) : List Nat := if v < 128 then [v] else (v % 128 + 128) :: vPut (v / 128)
  decreasing_by omega
theorem vPut_lt {v : Nat} (h : v < 128) : vPut v = [v] := by rw [vPut, if_pos h]
theorem vPut_ge {v : Nat} (h : ¬ v < 128) : vPut v = (v % 128 + 128) :: vPut (v / 128) := by rw [vPut, if_neg h]
theorem pow128 (n : Nat) : 128 ^ n = 2 ^ (7 * n) := by
  rw [Nat.pow_mul]
theorem u64_wrap (x : Int) : IntKind.u64.wrap x = x % 18446744073709551616 := by simp [IntKind.wrap, IntKind.bits, IntKind.signed]
theorem or_step (v c n : Nat) (hv : v < 128 ^ n) (hn : n ≤ 9) (h9 : n = 9 → c ≤ 1) :
    Go.bits .or .u64 (v : Int) (IntKind.u64.wrap ((c : Int) % 128 * 2 ^ (7 * n))) = ((v + c % 128 * 128 ^ n : Nat) : Int) := by
  have e : (c : Int) % 128 * 2 ^ (7 * n) = ((c % 128 * 2 ^ (7 * n) : Nat) : Int) := by simp
  have hp : c % 128 * 2 ^ (7 * n) < 18446744073709551616 := by
    rcases Nat.lt_or_ge n 9 with h | h
    · have h1 : 2 ^ (7 * n) ≤ 2 ^ 56 := Nat.pow_le_pow_right (by decide) (by omega)
      have h2 : c % 128 * 2 ^ (7 * n) ≤ 127 * 2 ^ 56 := Nat.mul_le_mul (by omega) h1
      omega
    · obtain rfl : n = 9 := by omega
      have := h9 rfl
      have h2 : c % 128 * 2 ^ (7 * 9) ≤ 1 * 2 ^ 63 := Nat.mul_le_mul (by omega) (by decide)
      omega
  have hw : IntKind.u64.wrap ((c : Int) % 128 * 2 ^ (7 * n)) = ((c % 128 * 2 ^ (7 * n) : Nat) : Int) := by
    rw [e, u64_wrap]; omega
  have hv2 : v < 2 ^ (7 * n) := by rw [← pow128]; exact hv
  have hv3 : v < 18446744073709551616 := by
    have : 2 ^ (7 * n) ≤ 2 ^ 63 := Nat.pow_le_pow_right (by decide) (by omega)
    omega
  rw [hw, u64_or_nat _ _ hv3 hp, Nat.or_comm, Nat.mul_comm, ← Nat.two_pow_add_eq_or_of_lt hv2, pow128, Nat.mul_comm, Nat.add_comm]
theorem readS_cons {c n v : Nat} {l : List Nat} (h9 : n = 9 → c ≤ 1) : readS (c :: l) n v = if c < 128 then (v + c * 128 ^ n, n + 1, 0) else readS l (n + 1) (v + (c % 128) * 128 ^ n) := by
  rw [readS, if_neg (by omega)]
def vStr (v : Nat) : ByteArray := strOfNums ((vPut v).map Int.ofNat)
theorem vPut_length (v : Nat) : (vPut v).length = vSize v := by
  induction v using Nat.strongRecOn with
  | _ v ih =>
    by_cases h : v < 128
    · rw [vPut_lt h, vSize_lt h]; rfl
    · rw [vPut_ge h, vSize_ge h, List.length_cons, ih (v / 128) (by omega)]
theorem vSize_le (m : Nat) (k : Nat) (h : m < 128 ^ (k + 1)) : vSize m ≤ k + 1 := by
  induction k generalizing m with
  | zero => rw [vSize_lt (by simpa using h)]; omega
  | succ k ih =>
    by_cases h1 : m < 128
    · rw [vSize_lt h1]; omega
    · rw [vSize_ge h1]
      have := ih (m / 128) (by rw [Nat.div_lt_iff_lt_mul (by decide)]; rw [Nat.pow_succ] at h; omega)
      omega
theorem vSize_pos (m : Nat) : 1 ≤ vSize m := by rw [vSize]; split <;> omega
theorem vSize_10 (m : Nat) (h : m < 18446744073709551616) : vSize m ≤ 10 := vSize_le m 9 (show m < 1180591620717411303424 by omega)
def agateref01_Put_s.f (a0 : Int) : Option (List Int) := if 0 ≤ a0 ∧ a0 < 18446744073709551616 then some ((vPut a0.toNat).map Int.ofNat) else none
theorem agateref01_Put_eval : ∀ (k n : Nat), n < 18446744073709551616 → vSize n ≤ k → agateref01_Put.f k (n : Int) = some ((vPut n).map Int.ofNat)
  | 0, n, _, h => by have := vSize_pos n; omega
  | k + 1, n, hn, h => by
    simp only [agateref01_Put.f]
    by_cases h1 : n < 128
    · rw [if_pos (by omega), vPut_lt h1]
      simp; omega
    · rw [if_neg (by omega), Option.bind_some]
      have e1 : IntKind.u64.wrap (Int.tdiv (n : Int) 128) = ((n / 128 : Nat) : Int) := by
        rw [Int.tdiv_eq_ediv_of_nonneg (by omega), u64_wrap]; omega
      have e2 : IntKind.u64.wrap (Int.tmod (n : Int) 128 + 128) % 256 = ((n % 128 + 128 : Nat) : Int) := by
        rw [Int.tmod_eq_emod_of_nonneg (by omega), u64_wrap]; omega
      have h2 := vSize_ge h1
      rw [e1, agateref01_Put_eval k (n / 128) (by omega) (by omega), Option.bind_some, e2, vPut_ge h1, if_pos]
      · simp
      · have := vSize_10 (n / 128) (by omega)
        simp [vPut_length]; omega
theorem agateref01_Put_s.ev (a0 : Int) (r) (h : agateref01_Put_s.f a0 = some r) : ∃ k, agateref01_Put.f k a0 = some r := by
  unfold agateref01_Put_s.f at h
  split at h
  · rename_i hr
    obtain ⟨n, rfl⟩ := Int.eq_ofNat_of_zero_le hr.1
    exact ⟨_, (agateref01_Put_eval _ n (by omega) (Nat.le_refl _)).trans h⟩
  · cases h
set_option maxHeartbeats 1000000 in
theorem agateref01_Put_s.calls (a0 : Int) (r : List Int) (w : World) (h : agateref01_Put_s.f a0 = some r) :
    Calls Tryz.prog 75 #[.int .u64 a0] w fun e w' => ∃ v0_ : Value, e = .returned (v0_) ∧ Kd.R (Kd.int .u8) 5 w' w.heap.size (fun _ => True) v0_ r ∧ Below w.heap.size w w' := by
  obtain ⟨k, hk⟩ := agateref01_Put_s.ev a0 _ h
  exact agateref01_Put.calls k a0 r w hk
def agateref02_high.l0 : Nat → Int → Int → ByteArray → Int → Option (ByteArray)
  | 0, _, _, _, _ => none
  | k + 1, x0, x1, x5, x6 => if x6 < x1 then ((some (([(Int.tmod x0 256) % 256] : List Int) : List Int)).bind fun y101 => (if x5.size + (strOfNums y101).size ≤ 9223372036854775807 then (agateref02_high.l0 k (IntKind.u64.wrap (Int.tdiv x0 256)) x1 (x5 ++ (strOfNums y101)) (wrap64 (x6 + 1))) else (none))) else (some x5)
def agateref02_high.f (k : Nat) (a0 : Int) (a1 : Int) : Option (ByteArray) := agateref02_high.l0 k a0 a1 (⟨#[]⟩ : ByteArray) 0
set_option maxHeartbeats 8000000 in
set_option maxRecDepth 100000 in
theorem agateref02_high.calls (k : Nat) (a0 : Int) (a1 : Int) (r : ByteArray) (w : World) (h : agateref02_high.f k a0 a1 = some r) :
    Calls Tryz.prog 95 #[.int .u64 a0, .int .i64 a1] w fun e w' => e = .returned (.string r) ∧ Below w.heap.size w w' := by
  have HB := mk0 (Below.refl w.heap.size w); have H : (agateref02_high.l0 k a0 a1 (⟨#[]⟩ : ByteArray) 0) = some r := h; clear h; have H' := mk0 H; clear H
  go_enter Tryz.func95, Tryz.ntmps95
  go_wp2
  go_loopg [0, 5, 6] k (fun kq v0 v5 v6 w' => ∃ (x0_1 : Int) (x5_1 : ByteArray) (x6_1 : Int), v0 = .int .u64 x0_1 ∧ v5 = .string x5_1 ∧ v6 = .int .i64 x6_1 ∧ Aside0 (agateref02_high.l0 kq x0_1 a1 x5_1 x6_1 = some r) ∧ Aside0 (kq ≤ k) ∧ Aside0 (Below w.heap.size w w'))
  case atStart => exact ⟨(a0), ((⟨#[]⟩ : ByteArray)), (0), cl0, cl0, cl0, H', ⟨Nat.le_refl _⟩, ⟨hbA HB⟩⟩
  case round =>
    clear H'; obtain ⟨x0_1, x5_1, x6_1, rfl, rfl, rfl, HA, HK1, HB⟩ := hrel
    cases gk with
    | zero => exact absurd HA.out (by simp [agateref02_high.l0])
    | succ k1 =>
      have H := HA.out; clear HA
      simp only [agateref02_high.l0] at H
      by_cases c3 : x6_1 < a1
      · rw [if_pos c3] at H
        have c3b0 := decide_eq_true c3; clear c3; obtain ⟨y101, hy101⟩ : ∃ y_ : List Int, y_ = (([(Int.tmod x0_1 256) % 256] : List Int)) := ⟨_, rfl⟩; replace H : (if x5_1.size + (strOfNums y101).size ≤ 9223372036854775807 then (agateref02_high.l0 k1 (IntKind.u64.wrap (Int.tdiv x0_1 256)) a1 (x5_1 ++ (strOfNums y101)) (wrap64 (x6_1 + 1))) else (none)) = some r := by first | (rw [hy101]; with_reducible exact H) | (have H2_ := (Option.bind_some _ _).symm.trans H; rw [hy101]; with_reducible exact H2_) | (have H2_ := (Option.bind_some _ _).symm.trans H; with_reducible exact H2_) | with_reducible exact H | (rw [hy101]; exact H) | exact H
        have Ny101 := mk0 hy101; clear hy101
        by_cases c4 : x5_1.size + (strOfNums y101).size ≤ 9223372036854775807
        · rw [if_pos c4] at H
          have c4b0 := eq_true c4; have c4b1 := decide_eq_true c4; try have c4b2 := eq_false (Nat.not_lt.2 c4)
          try have c4b3 := c4b2
          try simp only [ByteArray.size_append] at c4b3
          have H' := mk0 H; clear H
          go_wp2_with (first | ((with_reducible refine gate_dst (N := 16) rfl ?_); refine Kd.R_lit (Kd.int .u8) _ 5 ?hg (N := 16) ?hd (xs := ([(Int.tmod x0_1 256) % 256] : List Int)) (inner := [.int .u8 ((Int.tmod x0_1 256) % 256)]) (ok := fun _ => True) (okp := fun _ => True) ?hr ?hp (fun _ hk => hk) trivial (Below.refl _ _) (Nat.le_refl _) (by simp) ?_; (case hd => rfl); (case hg => rfl); (case hr => first | (go_simp; done) | (go_simp; rfl)); (case hp => exact (Reps.one (show Kd.M (Kd.int .u8) _ _ _ ((Int.tmod x0_1 256) % 256) [.int .u8 ((Int.tmod x0_1 256) % 256)] from rfl) (Reps.none _ _))); intro v102 w5 ho6 hb hg_ hnew_; clear hg_ hnew_; (first | rw [← Ny101.out] at ho6 | (simp only [Int.reduceToNat] at ho6; rw [← Ny101.out] at ho6)); have HO103 := mk0 (Kd.R_lower ho6 (below_size (hbA HB))); replace HB := mk0 (below_step (hbA HB) hb); clear hb ho6; have hcv7 := own_string (P := Tryz.prog) Tryz.underlying80 Tryz.underlying5 Tryz.underlying9 (Kd.own_of_R HO103.out)))
          go_roundg k1
          case measure => have := HK1.out; omega
          case rel => exact ⟨(IntKind.u64.wrap (Int.tdiv x0_1 256)), (x5_1 ++ (strOfNums y101)), (wrap64 (x6_1 + 1)), cl0, cl0, cl0, H', cl2 HK1, ⟨hbA HB⟩⟩
        · rw [if_neg c4] at H; exact ne0 H
      · rw [if_neg c3] at H
        have c3b0 := decide_eq_false c3; clear c3; obtain rfl := Option.some.inj H
        go_wp2
        go_ret
        exact ⟨cl3, hbA HB⟩
theorem vPut_bound (v : Nat) : ∀ c ∈ vPut v, c < 256 := by
  induction v using Nat.strongRecOn with
  | _ v ih =>
    by_cases h : v < 128
    · rw [vPut_lt h]; intro c hc; simp at hc; omega
    · rw [vPut_ge h]; intro c hc
      rcases List.mem_cons.1 hc with rfl | hc
      · omega
      · exact ih _ (by omega) c hc
theorem ns_strOfNums (l : List Nat) (h : ∀ c ∈ l, c < 256) : ns (strOfNums (l.map Int.ofNat)) = l := by
  unfold ns strOfNums
  simp only [List.map_map]
  refine (List.map_congr_left (g := id) ?_).trans (List.map_id _)
  intro c hc
  have := h c hc
  simp [UInt8.toNat_ofNat']
  omega
theorem ns_vStr (v : Nat) : ns (vStr v) = vPut v := ns_strOfNums _ (vPut_bound v)
theorem ns_append (a b : ByteArray) : ns (a ++ b) = ns a ++ ns b := by
  simp [ns, ByteArray.data_append]
theorem ns_inj {a b : ByteArray} (h : ns a = ns b) : a = b := by
  have : a.data.toList = b.data.toList := by
    unfold ns at h
    exact (List.map_inj_right (fun x y e => UInt8.toNat_inj.1 e)).1 h
  cases a; cases b; simp_all
theorem ns_extract (s : ByteArray) (i j : Nat) : ns (s.extract i j) = ((ns s).drop i).take (j - i) := by
  simp [ns, ByteArray.data_extract, List.map_drop, List.map_take, Array.toList_extract, List.extract_eq_take_drop]
theorem vStr_size (v : Nat) : (vStr v).size = vSize v := by rw [← ns_length, ns_vStr, vPut_length]
theorem readS_put (v : Nat) : ∀ (l : List Nat) (n u : Nat), n ≤ 9 → v * 128 ^ n < 18446744073709551616 → readS (vPut v ++ l) n u = (u + v * 128 ^ n, n + vSize v, 0) := by
  induction v using Nat.strongRecOn with
  | _ v ih =>
    intro l n u hn hv
    by_cases h : v < 128
    · rw [vPut_lt h, vSize_lt h, List.singleton_append, readS_cons, if_pos h]
      intro h9; subst h9; omega
    · have hn9 : n < 9 := by
        rcases Nat.lt_or_ge n 9 with h9 | h9
        · exact h9
        · obtain rfl : n = 9 := by omega
          omega
      rw [vPut_ge h, vSize_ge h, List.cons_append, readS_cons (by omega), if_neg (by omega), show (v % 128 + 128) % 128 = v % 128 by omega]
      have hp : 128 ^ (n + 1) = 128 * 128 ^ n := by rw [Nat.pow_succ, Nat.mul_comm]
      have hm : v / 128 * 128 ^ (n + 1) + v % 128 * 128 ^ n = v * 128 ^ n := by
        rw [hp, ← Nat.mul_assoc, ← Nat.add_mul]; congr 1; omega
      rw [ih (v / 128) (by omega) l (n + 1) _ (by omega) (by omega)]
      rw [show u + v % 128 * 128 ^ n + v / 128 * 128 ^ (n + 1) = u + v * 128 ^ n by omega, show n + 1 + vSize (v / 128) = n + (vSize (v / 128) + 1) by omega]
theorem vRead_put (v : Nat) (hv : v < 18446744073709551616) (b : ByteArray) : vRead (vStr v ++ b) = (v, vSize v, 0) := by
  unfold vRead
  rw [ns_append, ns_vStr, readS_put v _ 0 0 (by omega) (by simpa using hv)]
  simp
theorem readS_aux8 (c m : Nat) (h : m * 9223372036854775808 < 18446744073709551616) : c % 128 * 72057594037927936 + m * 9223372036854775808 < 18446744073709551616 := by
  have hc : c % 128 * 72057594037927936 ≤ 127 * 72057594037927936 := Nat.mul_le_mul_right _ (by omega)
  have hm : m ≤ 1 := by
    rcases Nat.lt_or_ge m 2 with h2 | h2
    · omega
    · exact absurd (Nat.mul_le_mul_right 9223372036854775808 h2) (Nat.not_le.2 h)
  have hm2 : m * 9223372036854775808 ≤ 1 * 9223372036854775808 := Nat.mul_le_mul_right _ hm
  exact Nat.lt_of_le_of_lt (Nat.add_le_add hc hm2) (by decide)
theorem readS_aux9 {c : Nat} (h9 : ¬ (9 = 9 ∧ 1 < c)) (hc : ¬ c < 128) : False := by omega
theorem readS_ok : ∀ (l : List Nat) (n u y k : Nat), n ≤ 9 → (∀ c ∈ l, c < 256) → readS l n u = (y, k, 0) →
    ∃ m, y = u + m * 128 ^ n ∧ n + vSize m ≤ k ∧ k ≤ n + l.length ∧ k ≤ 10 ∧ m * 128 ^ n < 18446744073709551616 ∧ (n + vSize m = k → l.take (k - n) = vPut m) := by
  intro l
  induction l with
  | nil => intro n u y k _ _ h; simp [readS] at h
  | cons c l ih =>
    intro n u y k hn hb h
    by_cases h9 : n = 9 ∧ 1 < c
    · rw [readS, if_pos h9] at h; simp at h
    · rw [readS_cons (by omega)] at h
      have hp : 128 ^ (n + 1) = 128 * 128 ^ n := by rw [Nat.pow_succ, Nat.mul_comm]
      by_cases hc : c < 128
      · rw [if_pos hc] at h
        simp only [Prod.mk.injEq] at h
        obtain ⟨rfl, rfl, -⟩ := h
        refine ⟨c, rfl, by rw [vSize_lt hc]; omega, by simp, by omega, ?_, ?_⟩
        · rcases Nat.lt_or_ge n 9 with h | h
          · have h1 : 128 ^ n ≤ 128 ^ 8 := Nat.pow_le_pow_right (by decide) (by omega)
            have h2 : c * 128 ^ n ≤ 127 * 128 ^ 8 := Nat.mul_le_mul (by omega) h1
            omega
          · obtain rfl : n = 9 := by omega
            have h2 : c * 128 ^ 9 ≤ 1 * 128 ^ 9 := Nat.mul_le_mul_right _ (by omega)
            omega
        · intro _
          rw [vPut_lt hc, show n + 1 - n = 1 by omega]; rfl
      · rw [if_neg hc] at h
        have hb' := hb c (List.mem_cons_self ..)
        obtain ⟨m, h1, h2, h3, h4, h5, h6⟩ := ih (n + 1) _ y k (by omega) (fun x hx => hb x (List.mem_cons_of_mem _ hx)) h
        have hpos := vSize_pos m
        have hm : (c % 128 + 128 * m) * 128 ^ n = c % 128 * 128 ^ n + m * 128 ^ (n + 1) := by
          rw [hp, Nat.add_mul, Nat.mul_comm 128 m, Nat.mul_assoc]
        refine ⟨c % 128 + 128 * m, by rw [hm]; omega, ?_, by simp; omega, h4, ?_, ?_⟩
        · by_cases hs : c % 128 + 128 * m < 128
          · rw [vSize_lt hs]; omega
          · rw [vSize_ge hs, show (c % 128 + 128 * m) / 128 = m by omega]; omega
        · rw [hm]
          rcases Nat.lt_or_ge n 8 with h8 | h8
          · have : n + 1 ≤ 8 := h8
            have hx : m * 128 ^ (n + 1) < 18446744073709551616 := h5
            have ha : c % 128 * 128 ^ n ≤ 127 * 128 ^ n := Nat.mul_le_mul_right _ (by omega)
            rw [hp] at hx ⊢
            have hq : 18446744073709551616 = 128 * 128 ^ n * (18446744073709551616 / (128 * 128 ^ n)) := by
              obtain rfl | rfl | rfl | rfl | rfl | rfl | rfl | rfl : n = 0 ∨ n = 1 ∨ n = 2 ∨ n = 3 ∨ n = 4 ∨ n = 5 ∨ n = 6 ∨ n = 7 := by omega
              all_goals decide
            generalize 18446744073709551616 / (128 * 128 ^ n) = z at hq
            generalize 128 ^ n = p at *
            have : m < z := by
              rcases Nat.lt_or_ge m z with h | h
              · exact h
              · have : 128 * p * z ≤ 128 * p * m := Nat.mul_le_mul_left _ h
                rw [Nat.mul_comm m] at hx
                omega
            have hz : (m + 1) * (128 * p) ≤ z * (128 * p) := Nat.mul_le_mul_right _ this
            rw [Nat.add_mul, Nat.one_mul] at hz
            rw [Nat.mul_comm z] at hz
            omega
          · clear h6 h ih
            have h8' : n = 8 ∨ n = 9 := by omega
            rcases h8' with rfl | rfl
            · exact readS_aux8 c m h5
            · exact (readS_aux9 h9 hc).elim
        · intro hk
          have hs : ¬ c % 128 + 128 * m < 128 := by
            intro hs
            rw [vSize_lt hs] at hk
            omega
          rw [vSize_ge hs, show (c % 128 + 128 * m) / 128 = m by omega] at hk
          rw [vPut_ge hs, show (c % 128 + 128 * m) / 128 = m by omega, show k - n = (k - (n + 1)) + 1 by omega, List.take_succ_cons, h6 (by omega)]
          congr 1; omega
theorem vRead_ok (b : ByteArray) (y k : Nat) (h : vRead b = (y, k, 0)) : y < 18446744073709551616 ∧ vSize y ≤ k ∧ k ≤ b.size ∧ k ≤ 10 ∧ (vSize y = k → b.extract 0 k = vStr y) := by
  obtain ⟨m, h1, h2, h3, h4, h5, h6⟩ := readS_ok (ns b) 0 0 y k (by omega) (ns_lt b) h
  simp only [Nat.pow_zero, Nat.mul_one, Nat.zero_add] at *
  subst h1
  refine ⟨h5, h2, by rw [← ns_length]; exact h3, h4, fun e => ns_inj ?_⟩
  rw [ns_extract, ns_vStr]
  simpa using h6 e
theorem wf_i64 {a : Int} (h : (Lit.int .i64 a).wf = true) : -9223372036854775808 ≤ a ∧ a < 9223372036854775808 := by
  have e1 : IntKind.i64.min = -9223372036854775808 := by decide
  have e2 : IntKind.i64.max = 9223372036854775807 := by decide
  simp only [Lit.wf, Bool.and_eq_true, decide_eq_true_eq, e1, e2] at h; omega
theorem wrap64_id {x : Int} (h0 : -9223372036854775808 ≤ x) (h1 : x < 9223372036854775808) : wrap64 x = x := by unfold wrap64; omega
theorem u64_id {x : Int} (h0 : 0 ≤ x) (h1 : x < 18446744073709551616) : IntKind.u64.wrap x = x := by rw [u64_wrap]; omega
def lowS : List Nat → Nat
  | [] => 0
  | c :: l => c + 256 * lowS l
theorem lowS_lt (l : List Nat) (h : ∀ c ∈ l, c < 256) : lowS l < 256 ^ l.length := by
  induction l with
  | nil => simp [lowS]
  | cons c l ih =>
    have h1 := ih (fun x hx => h x (List.mem_cons_of_mem _ hx))
    have h2 := h c (List.mem_cons_self ..)
    simp only [lowS, List.length_cons, Nat.pow_succ]
    omega
theorem lowS_snoc (l : List Nat) (c : Nat) : lowS (l ++ [c]) = lowS l + c * 256 ^ l.length := by
  induction l with
  | nil => simp [lowS]
  | cons d l ih =>
    simp only [List.cons_append, lowS, ih, List.length_cons, Nat.pow_succ]
    rw [Nat.mul_add, Nat.add_assoc, Nat.mul_comm (256 ^ l.length) 256, ← Nat.mul_assoc c, Nat.mul_comm c 256, Nat.mul_assoc]
def laidS (v n : Nat) : List Nat := (List.range n).map fun i => v / 256 ^ i % 256
theorem laidS_succ (v n : Nat) : laidS v (n + 1) = laidS v n ++ [v / 256 ^ n % 256] := by simp [laidS, List.range_succ]
theorem laidS_bound (v n : Nat) : ∀ c ∈ laidS v n, c < 256 := by
  intro c hc
  simp only [laidS, List.mem_map] at hc
  obtain ⟨i, _, rfl⟩ := hc
  exact Nat.mod_lt _ (by decide)
theorem laidS_length (v n : Nat) : (laidS v n).length = n := by simp [laidS]
theorem lowS_laidS (v n : Nat) : lowS (laidS v n) = v % 256 ^ n := by
  induction n with
  | zero => simp [laidS, lowS, Nat.mod_one]
  | succ n ih =>
    rw [laidS_succ, lowS_snoc, ih, laidS_length, Nat.pow_succ, Nat.mod_mul, Nat.mul_comm]
def laidStr (v n : Nat) : ByteArray := strOfNums ((laidS v n).map Int.ofNat)
theorem ns_laidStr (v n : Nat) : ns (laidStr v n) = laidS v n := ns_strOfNums _ (laidS_bound v n)
theorem laidStr_size (v n : Nat) : (laidStr v n).size = n := by rw [← ns_length, ns_laidStr, laidS_length]
theorem strOfNums_append (a b : List Int) : strOfNums (a ++ b) = strOfNums a ++ strOfNums b := by
  simp [strOfNums, ByteArray.append_eq, ByteArray.append, ByteArray.ext_iff, ByteArray.data_append]
theorem toList_nil {b : ByteArray} : b.toList = [] ↔ b.size = 0 := by
  rw [ByteArray.toList_eq]
  constructor
  · intro h; have := congrArg List.length h; simpa using this
  · intro h; exact List.eq_nil_of_length_eq_zero (by simpa using h)
theorem toList_inj {a b : ByteArray} : a.toList = b.toList ↔ a = b := by
  rw [ByteArray.toList_eq, ByteArray.toList_eq]
  constructor
  · intro h; cases a; cases b; simp_all
  · intro h; rw [h]
theorem wire_fixed_step (v c i : Nat) (hv : v < 256 ^ i) (hi : i ≤ 7) (hc : c < 256) :
    Go.bits .or .u64 (v : Int) (shl .u64 (IntKind.u64.wrap (c : Int)) (wrap64 (8 * (i : Int)))) = ((v + c * 256 ^ i : Nat) : Int) := by
  have e0 : wrap64 (8 * (i : Int)) = ((8 * i : Nat) : Int) := by rw [wrap64_id (by omega) (by omega)]; omega
  have hp : (256 : Nat) ^ i = 2 ^ (8 * i) := by rw [Nat.pow_mul]
  have h1 : 256 ^ i ≤ 256 ^ 7 := Nat.pow_le_pow_right (by decide) hi
  have h2 : c * 256 ^ i ≤ 255 * 256 ^ i := Nat.mul_le_mul_right _ (by omega)
  have e1 : shl .u64 (IntKind.u64.wrap (c : Int)) (wrap64 (8 * (i : Int))) = ((c * 2 ^ (8 * i) : Nat) : Int) := by
    rw [e0, u64_id (by omega) (by omega)]
    show IntKind.u64.wrap ((c : Int) * 2 ^ min ((8 * i : Nat) : Int).toNat 64) = _
    rw [Int.toNat_natCast, Nat.min_eq_left (by omega), u64_id]
    · simp
    · exact Int.mul_nonneg (by omega) (Int.pow_nonneg (by decide))
    · have : ((c : Int) * 2 ^ (8 * i)) = ((c * 2 ^ (8 * i) : Nat) : Int) := by simp
      rw [this, ← hp]; omega
  rw [e1, u64_or_nat _ _ (by omega) (by rw [← hp]; omega), Nat.or_comm, Nat.mul_comm, ← Nat.two_pow_add_eq_or_of_lt (by rw [← hp]; exact hv), ← hp, Nat.mul_comm, Nat.add_comm]
theorem tdiv256 (x : Nat) (h : x < 18446744073709551616) : IntKind.u64.wrap (Int.tdiv (x : Int) 256) = ((x / 256 : Nat) : Int) := by
  rw [Int.tdiv_eq_ediv_of_nonneg (by omega), u64_id (by omega) (by omega)]; omega
def agateref02_high_s.f (a0 a1 : Int) : Option ByteArray := if 0 ≤ a0 ∧ a0 < 18446744073709551616 ∧ 0 ≤ a1 ∧ a1 ≤ 8 then some (laidStr a0.toNat a1.toNat) else none
theorem agateref02_high_eval (v n : Nat) (hv : v < 18446744073709551616) (hn : n ≤ 8) (d : Nat) : ∀ (k i : Nat), n - i = d → i ≤ n → d < k →
    agateref02_high.l0 k ((v / 256 ^ i : Nat) : Int) (n : Int) (laidStr v i) (i : Int) = some (laidStr v n) := by
  induction d with
  | zero =>
    intro k i hd hi hk
    obtain ⟨k, rfl⟩ : ∃ m, k = m + 1 := ⟨k - 1, by omega⟩
    obtain rfl : i = n := by omega
    simp only [agateref02_high.l0]
    rw [if_neg (by omega)]
  | succ d ih =>
    intro k i hd hi hk
    obtain ⟨k, rfl⟩ : ∃ m, k = m + 1 := ⟨k - 1, by omega⟩
    simp only [agateref02_high.l0]
    have hle : v / 256 ^ i ≤ v := Nat.div_le_self _ _
    have e1 : ([Int.tmod ((v / 256 ^ i : Nat) : Int) 256 % 256] : List Int) = [v / 256 ^ i % 256].map Int.ofNat := by
      rw [Int.tmod_eq_emod_of_nonneg (Int.natCast_nonneg _)]; simp
    have e2 : IntKind.u64.wrap (Int.tdiv ((v / 256 ^ i : Nat) : Int) 256) = ((v / 256 ^ (i + 1) : Nat) : Int) := by
      rw [Nat.pow_succ, ← Nat.div_div_eq_div_mul]
      exact tdiv256 _ (by omega)
    rw [if_pos (by omega), e1, e2, Option.bind_some, if_pos (by rw [laidStr_size]; simp [strOfNums, ByteArray.size]; omega), wrap64_id (by omega) (by omega)]
    have := ih k (i + 1) (by omega) (by omega) (by omega)
    rw [show laidStr v (i + 1) = laidStr v i ++ strOfNums ([v / 256 ^ i % 256].map Int.ofNat) from by unfold laidStr; rw [laidS_succ, List.map_append, strOfNums_append]] at this
    exact this
theorem agateref02_high_s.ev (a0 a1 : Int) (r) (h : agateref02_high_s.f a0 a1 = some r) : ∃ k, agateref02_high.f k a0 a1 = some r := by
  unfold agateref02_high_s.f at h
  split at h
  · rename_i hr
    obtain ⟨v, rfl⟩ := Int.eq_ofNat_of_zero_le hr.1
    obtain ⟨n, rfl⟩ := Int.eq_ofNat_of_zero_le hr.2.2.1
    have := agateref02_high_eval v n (by omega) (by omega) n (n + 1) 0 (by omega) (by omega) (by omega)
    rw [Nat.pow_zero, Nat.div_one] at this
    exact ⟨n + 1, this.trans h⟩
  · cases h
set_option maxHeartbeats 1000000 in
theorem agateref02_high_s.calls (a0 : Int) (a1 : Int) (r : ByteArray) (w : World) (h : agateref02_high_s.f a0 a1 = some r) :
    Calls Tryz.prog 95 #[.int .u64 a0, .int .i64 a1] w fun e w' => e = .returned (.string r) ∧ Below w.heap.size w w' := by
  obtain ⟨k, hk⟩ := agateref02_high_s.ev a0 a1 _ h
  exact agateref02_high.calls k a0 a1 r w hk
def agateref02_Bytes.j0 : Nat → Bool → Int → Int → Int → ByteArray → Option (ByteArray)
 | 0, _, _, _, _, _ => none
 | k + 1, x31, x102000, x102001, x102002, x102003 => if x31 = true then (some (⟨#[]⟩ : ByteArray)) else ((agateref01_Put_s.f (IntKind.u64.wrap (wrap64 ((wrap64 (8 * x102000)) + x102001)))).bind fun t102 => (if x102001 = 0 then ((agateref01_Put_s.f x102002).bind fun t105 => (if (strOfNums t102).size + (strOfNums t105).size ≤ 9223372036854775807 then (some ((strOfNums t102) ++ (strOfNums t105))) else (none))) else (if x102001 = 1 then ((agateref02_high_s.f x102002 8).bind fun t108 => (if (strOfNums t102).size + t108.size ≤ 9223372036854775807 then (some ((strOfNums t102) ++ t108)) else (none))) else (if x102001 = 2 then ((agateref01_Put_s.f (IntKind.u64.wrap ((x102003.size : Int)))).bind fun t109 => (if (strOfNums t102).size + (strOfNums t109).size ≤ 9223372036854775807 then (if ((strOfNums t102) ++ (strOfNums t109)).size + x102003.size ≤ 9223372036854775807 then (some (((strOfNums t102) ++ (strOfNums t109)) ++ x102003)) else (none)) else (none))) else (if x102002 > 4294967295 then (some (⟨#[]⟩ : ByteArray)) else ((agateref02_high_s.f x102002 4).bind fun t112 => (if (strOfNums t102).size + t112.size ≤ 9223372036854775807 then (some ((strOfNums t102) ++ t112)) else (none))))))))
def agateref02_Bytes.f (k : Nat) (a0_0 : Int) (a0_1 : Int) (a0_2 : Int) (a0_3 : ByteArray) : Option (ByteArray) := if a0_0 < 1 then (agateref02_Bytes.j0 k true a0_0 a0_1 a0_2 a0_3) else (if a0_0 > 536870911 then (agateref02_Bytes.j0 k true a0_0 a0_1 a0_2 a0_3) else (if a0_1 < 0 then (agateref02_Bytes.j0 k true a0_0 a0_1 a0_2 a0_3) else (if a0_1 > 5 then (agateref02_Bytes.j0 k true a0_0 a0_1 a0_2 a0_3) else (if a0_1 = 3 then (agateref02_Bytes.j0 k true a0_0 a0_1 a0_2 a0_3) else (agateref02_Bytes.j0 k (a0_1 == 4) a0_0 a0_1 a0_2 a0_3)))))
def agateref02_Bytes.T10 : Bool × List (List Nat × List Nat) := (true, [([], []), ([], []), ([1], [1]), ([2], [2]), ([3], [3]), ([4], [4]), ([5], [5]), ([0, 6], [0, 6]), ([], []), ([8], [8]), ([7, 9], [7, 9]), ([10, 5, 0, 1, 2, 3, 4, 5, 6, 7, 8, 9, 10], [10])])
def agateref02_Bytes.B10 : List Nat := [0, 0, 2, 6, 14, 30, 62, 127, 0, 256, 1023, 2047]
theorem agateref02_Bytes.tab10 : rtab .any (opsOf Tryz.f76 10) = agateref02_Bytes.T10 := by kernel_rfl
theorem agateref02_Bytes.bits10 : waitsOk agateref02_Bytes.T10.2 agateref02_Bytes.B10 = true := by kernel_rfl
set_option maxHeartbeats 8000000 in
set_option maxRecDepth 100000 in
theorem agateref02_Bytes.calls (k : Nat) (a0_0 : Int) (a0_1 : Int) (a0_2 : Int) (a0_3 : ByteArray) (r : ByteArray) (w : World) (h : agateref02_Bytes.f k a0_0 a0_1 a0_2 a0_3 = some r) :
  Calls Tryz.prog 76 #[.agg #[.int .i64 a0_0, .int .i64 a0_1, .int .u64 a0_2, .string a0_3]] w fun e w' => e = .returned (.string r) ∧ Below w.heap.size w w' := by
 have hu68 := Tryz.underlying68; have HB := mk0 (Below.refl w.heap.size w); have H : (if a0_0 < 1 then (agateref02_Bytes.j0 k true a0_0 a0_1 a0_2 a0_3) else (if a0_0 > 536870911 then (agateref02_Bytes.j0 k true a0_0 a0_1 a0_2 a0_3) else (if a0_1 < 0 then (agateref02_Bytes.j0 k true a0_0 a0_1 a0_2 a0_3) else (if a0_1 > 5 then (agateref02_Bytes.j0 k true a0_0 a0_1 a0_2 a0_3) else (if a0_1 = 3 then (agateref02_Bytes.j0 k true a0_0 a0_1 a0_2 a0_3) else (agateref02_Bytes.j0 k (a0_1 == 4) a0_0 a0_1 a0_2 a0_3)))))) = some r := h; clear h; have HC2 := mk0 H; clear H
 go_enter Tryz.func76, Tryz.ntmps76
 go_upto_region 1 with (first | ((with_reducible refine gate_dst (N := 1) rfl ?_); refine boxE (N := 1) (cs := #[.int .i64 a0_0, .int .i64 a0_1, .int .u64 a0_2, .string a0_3]) (t := 68) ?_; intro gb101 hg w3 hbox hb; have BK101 := mk0 hbox; have GW101 := gwS HB hg; have GE101 := gwS HB hg; replace HB := hbS HB hb; clear hb hbox hg))
 (try simp only [Act.put, List.setIfInBounds_toArray, List.set_cons_zero, List.set_cons_succ])
 go_cut [31] (fun v31 wc => ∃ (kq : Nat) (x31_1 : Bool), v31 = .bool x31_1 ∧ Aside0 (agateref02_Bytes.j0 kq x31_1 a0_0 a0_1 a0_2 a0_3 = some r) ∧ Aside0 (kq ≤ k) ∧ Aside0 (wc.heap[gb101]? = some (.cells #[.int .i64 a0_0, .int .i64 a0_1, .int .u64 a0_2, .string a0_3] 68 (0, 0))) ∧ Aside0 (Below w.heap.size w wc))
 case first =>
  have H := HC2.out; clear HC2
  by_cases c4 : a0_0 < 1
  ·
   rw [if_pos c4] at H; have c4b0 := decide_eq_true c4; clear c4
   (first | rw [c4b0] | (simp only [i64_w, i32_w]; rw [c4b0]) | skip)
   have H' := mk0 H; clear H; obtain ⟨hcz5_0, hcz5_1, hcz5_2, hcz5_3⟩ := cz4 BK101
   go_wp2
   go_meet
   case rel => exact ⟨_, (true), cl0, H', cl1, ⟨bkA BK101⟩, ⟨hbA HB⟩⟩
  ·
   rw [if_neg c4] at H; have c4b0 := decide_eq_false c4; clear c4
   (first | rw [c4b0] | (simp only [i64_w, i32_w]; rw [c4b0]) | skip)
   by_cases c6 : a0_0 > 536870911
   ·
    rw [if_pos c6] at H; have c6b0 := decide_eq_true c6; clear c6; have H' := mk0 H; clear H; obtain ⟨hcz7_0, hcz7_1, hcz7_2, hcz7_3⟩ := cz4 BK101
    go_wp2
    go_meet
    case rel => exact ⟨_, (true), cl0, H', cl1, ⟨bkA BK101⟩, ⟨hbA HB⟩⟩
   ·
    rw [if_neg c6] at H; have c6b0 := decide_eq_false c6; clear c6
    by_cases c8 : a0_1 < 0
    ·
     rw [if_pos c8] at H; have c8b0 := decide_eq_true c8; clear c8; have H' := mk0 H; clear H; obtain ⟨hcz9_0, hcz9_1, hcz9_2, hcz9_3⟩ := cz4 BK101
     go_wp2
     go_meet
     case rel => exact ⟨_, (true), cl0, H', cl1, ⟨bkA BK101⟩, ⟨hbA HB⟩⟩
    ·
     rw [if_neg c8] at H; have c8b0 := decide_eq_false c8; clear c8
     by_cases c10 : a0_1 > 5
     ·
      rw [if_pos c10] at H; have c10b0 := decide_eq_true c10; clear c10; have H' := mk0 H; clear H; obtain ⟨hcz11_0, hcz11_1, hcz11_2, hcz11_3⟩ := cz4 BK101
      go_wp2
      go_meet
      case rel => exact ⟨_, (true), cl0, H', cl1, ⟨bkA BK101⟩, ⟨hbA HB⟩⟩
     ·
      rw [if_neg c10] at H; have c10b0 := decide_eq_false c10; clear c10
      by_cases c12 : a0_1 = 3
      ·
       rw [if_pos c12] at H; have c12b0 := beq_iff_eq.mpr c12; have c12b1 := bne_eq_false_iff_eq.mpr c12; clear c12; have H' := mk0 H; clear H; obtain ⟨hcz13_0, hcz13_1, hcz13_2, hcz13_3⟩ := cz4 BK101
       go_wp2
       go_meet
       case rel => exact ⟨_, (true), cl0, H', cl1, ⟨bkA BK101⟩, ⟨hbA HB⟩⟩
      ·
       rw [if_neg c12] at H; have c12b0 := beq_eq_false_iff_ne.mpr c12; have c12b1 := bne_iff_ne.mpr c12; have H' := mk0 H; clear H; obtain ⟨hcz14_0, hcz14_1, hcz14_2, hcz14_3⟩ := cz4 BK101
       go_wp2
       go_meet
       case rel => exact ⟨_, ((a0_1 == 4)), cl0, H', cl1, ⟨bkA BK101⟩, ⟨hbA HB⟩⟩
 case rest =>
  clear HC2; obtain ⟨kq, x31_1, rfl, HA, HJ1, BK101, HB⟩ := hcut
  cases kq with
  | zero => exact absurd HA.out (by simp [agateref02_Bytes.j0])
  | succ kj1 =>
   have H := HA.out; clear HA
   simp only [agateref02_Bytes.j0] at H
   by_cases c15 : x31_1 = true
   ·
    subst c15; have H1 : (some (⟨#[]⟩ : ByteArray)) = some r := by rw [if_pos rfl] at H; exact H
    clear H; have H := H1; clear H1; obtain rfl := Option.some.inj H
    go_wp2
    go_ret
    exact ⟨cl3, hbA HB⟩
   ·
    replace c15 := Bool.eq_false_iff.mpr c15; subst c15; have H1 : ((agateref01_Put_s.f (IntKind.u64.wrap (wrap64 ((wrap64 (8 * a0_0)) + a0_1)))).bind fun t102 => (if a0_1 = 0 then ((agateref01_Put_s.f a0_2).bind fun t105 => (if (strOfNums t102).size + (strOfNums t105).size ≤ 9223372036854775807 then (some ((strOfNums t102) ++ (strOfNums t105))) else (none))) else (if a0_1 = 1 then ((agateref02_high_s.f a0_2 8).bind fun t108 => (if (strOfNums t102).size + t108.size ≤ 9223372036854775807 then (some ((strOfNums t102) ++ t108)) else (none))) else (if a0_1 = 2 then ((agateref01_Put_s.f (IntKind.u64.wrap ((a0_3.size : Int)))).bind fun t109 => (if (strOfNums t102).size + (strOfNums t109).size ≤ 9223372036854775807 then (if ((strOfNums t102) ++ (strOfNums t109)).size + a0_3.size ≤ 9223372036854775807 then (some (((strOfNums t102) ++ (strOfNums t109)) ++ a0_3)) else (none)) else (none))) else (if a0_2 > 4294967295 then (some (⟨#[]⟩ : ByteArray)) else ((agateref02_high_s.f a0_2 4).bind fun t112 => (if (strOfNums t102).size + t112.size ≤ 9223372036854775807 then (some ((strOfNums t102) ++ t112)) else (none)))))))) = some r := by rw [if_neg (show ¬ (false = true) by decide)] at H; exact H
    clear H; have H := H1; clear H1; replace H := bnd H; obtain ⟨t102, A16, H⟩ := H
    by_cases c17 : a0_1 = 0
    ·
     rw [if_pos c17] at H; have c17b0 := beq_iff_eq.mpr c17; have c17b1 := bne_eq_false_iff_eq.mpr c17; clear c17; replace H := bnd H; obtain ⟨t105, A18, H⟩ := H; replace H := ifS H; obtain ⟨c19, H⟩ := H; have c19b0 := eq_true c19; have c19b1 := decide_eq_true c19; try have c19b2 := eq_false (Nat.not_lt.2 c19)
     try have c19b3 := c19b2
     try simp only [ByteArray.size_append] at c19b3
     obtain rfl := Option.some.inj H; obtain ⟨hcz20_0, hcz20_1, hcz20_2, hcz20_3⟩ := cz4 BK101
     go_wp2_with (first | ((with_reducible refine gate_callee (f := 75) rfl ?_); refine glE (some 39) rfl rfl Tryz.func75 (by kernel_rfl) rfl #[.int .u64 (IntKind.u64.wrap (wrap64 ((wrap64 (8 * a0_0)) + a0_1)))] rfl ?_; (with_reducible refine (agateref01_Put_s.calls (IntKind.u64.wrap (wrap64 ((wrap64 (8 * a0_0)) + a0_1))) t102 _ A16.out).mono ?_); rintro e w21 ⟨v103, rfl, ho0, hb⟩; refine ⟨_, rfl, ?_⟩; have HO104 := mk0 (Kd.R_lower ho0 (below_size (hbA HB))); replace BK101 := bkS BK101 hb; replace HB := hbS HB hb; (try clear hb); (try clear ho0); have hcv22 := own_string (P := Tryz.prog) Tryz.underlying80 Tryz.underlying5 Tryz.underlying9 (Kd.own_of_R HO104.out); obtain ⟨hcz23_0, hcz23_1, hcz23_2, hcz23_3⟩ := cz4 BK101) | ((with_reducible refine gate_callee (f := 75) rfl ?_); refine glE (some 48) rfl rfl Tryz.func75 (by kernel_rfl) rfl #[.int .u64 a0_2] rfl ?_; (with_reducible refine (agateref01_Put_s.calls a0_2 t105 _ A18.out).mono ?_); rintro e w24 ⟨v106, rfl, ho0, hb⟩; refine ⟨_, rfl, ?_⟩; have HO107 := mk0 (Kd.R_lower (Kd.R_new' ho0 (Kd.R_lt (krA HO104))) (below_size (hbA HB))); replace HO104 := mk0 (Kd.R_elder' (krA HO104) (Kd.R_base ho0) hb); replace BK101 := bkS BK101 hb; replace HB := hbS HB hb; (try clear hb); (try clear ho0); have hcv25 := own_string (P := Tryz.prog) Tryz.underlying80 Tryz.underlying5 Tryz.underlying9 (Kd.own_of_R HO107.out)))
     go_ret
     exact ⟨cl3, hbA HB⟩
    ·
     rw [if_neg c17] at H; have c17b0 := beq_eq_false_iff_ne.mpr c17; have c17b1 := bne_iff_ne.mpr c17
     by_cases c26 : a0_1 = 1
     ·
      rw [if_pos c26] at H; have c26b0 := beq_iff_eq.mpr c26; have c26b1 := bne_eq_false_iff_eq.mpr c26; clear c26; replace H := bnd H; obtain ⟨t108, A27, H⟩ := H; replace H := ifS H; obtain ⟨c28, H⟩ := H; have c28b0 := eq_true c28; have c28b1 := decide_eq_true c28; try have c28b2 := eq_false (Nat.not_lt.2 c28)
      try have c28b3 := c28b2
      try simp only [ByteArray.size_append] at c28b3
      obtain rfl := Option.some.inj H; obtain ⟨hcz29_0, hcz29_1, hcz29_2, hcz29_3⟩ := cz4 BK101
      go_wp2_with (first | ((with_reducible refine gate_callee (f := 75) rfl ?_); refine glE (some 39) rfl rfl Tryz.func75 (by kernel_rfl) rfl #[.int .u64 (IntKind.u64.wrap (wrap64 ((wrap64 (8 * a0_0)) + a0_1)))] rfl ?_; (with_reducible refine (agateref01_Put_s.calls (IntKind.u64.wrap (wrap64 ((wrap64 (8 * a0_0)) + a0_1))) t102 _ A16.out).mono ?_); rintro e w30 ⟨v103, rfl, ho0, hb⟩; refine ⟨_, rfl, ?_⟩; have HO104 := mk0 (Kd.R_lower ho0 (below_size (hbA HB))); replace BK101 := bkS BK101 hb; replace HB := hbS HB hb; (try clear hb); (try clear ho0); have hcv31 := own_string (P := Tryz.prog) Tryz.underlying80 Tryz.underlying5 Tryz.underlying9 (Kd.own_of_R HO104.out); obtain ⟨hcz32_0, hcz32_1, hcz32_2, hcz32_3⟩ := cz4 BK101) | ((with_reducible refine gate_callee (f := 95) rfl ?_); refine glE (some 56) rfl rfl Tryz.func95 (by kernel_rfl) rfl #[.int .u64 a0_2, .int .i64 8] rfl ?_; (with_reducible refine (agateref02_high_s.calls a0_2 8 t108 _ A27.out).mono ?_); rintro e w33 ⟨rfl, hb⟩; refine ⟨_, rfl, ?_⟩; replace HO104 := mk0 (Kd.R_below (krA HO104) hb); replace BK101 := bkS BK101 hb; replace HB := hbS HB hb; (try clear hb)))
      go_ret
      exact ⟨cl3, hbA HB⟩
     ·
      rw [if_neg c26] at H; have c26b0 := beq_eq_false_iff_ne.mpr c26; have c26b1 := bne_iff_ne.mpr c26
      by_cases c34 : a0_1 = 2
      ·
       rw [if_pos c34] at H; have c34b0 := beq_iff_eq.mpr c34; have c34b1 := bne_eq_false_iff_eq.mpr c34; clear c34; replace H := bnd H; obtain ⟨t109, A35, H⟩ := H; replace H := ifS H; obtain ⟨c36, H⟩ := H; have c36b0 := eq_true c36; have c36b1 := decide_eq_true c36; try have c36b2 := eq_false (Nat.not_lt.2 c36)
       try have c36b3 := c36b2
       try simp only [ByteArray.size_append] at c36b3
       replace H := ifS H; obtain ⟨c37, H⟩ := H; have c37b0 := eq_true c37; have c37b1 := decide_eq_true c37; try have c37b2 := eq_false (Nat.not_lt.2 c37)
       try have c37b3 := c37b2
       try simp only [ByteArray.size_append] at c37b3
       obtain rfl := Option.some.inj H; obtain ⟨hcz38_0, hcz38_1, hcz38_2, hcz38_3⟩ := cz4 BK101
       try go_wp2_with (first | ((with_reducible refine gate_callee (f := 75) rfl ?_); refine glE (some 39) rfl rfl Tryz.func75 (by kernel_rfl) rfl #[.int .u64 (IntKind.u64.wrap (wrap64 ((wrap64 (8 * a0_0)) + a0_1)))] rfl ?_; (with_reducible refine (agateref01_Put_s.calls (IntKind.u64.wrap (wrap64 ((wrap64 (8 * a0_0)) + a0_1))) t102 _ A16.out).mono ?_); rintro e w39 ⟨v103, rfl, ho0, hb⟩; refine ⟨_, rfl, ?_⟩; have HO104 := mk0 (Kd.R_lower ho0 (below_size (hbA HB))); replace BK101 := bkS BK101 hb; replace HB := hbS HB hb; (try clear hb); (try clear ho0); have hcv40 := own_string (P := Tryz.prog) Tryz.underlying80 Tryz.underlying5 Tryz.underlying9 (Kd.own_of_R HO104.out); obtain ⟨hcz41_0, hcz41_1, hcz41_2, hcz41_3⟩ := cz4 BK101; have hfz41_3 := blk_frozen BK101.out 3)); replace HO104 := mk0 (Kd.R_drew HO104.out); replace BK101 := mk0 (blk_drew BK101.out); replace HB := mk0 (below_drew1 HB.out)
       refine start_ (n := 12) (S := fun w' => w'.cell? ⟨gb101, 0, none⟩ = some (.int .i64 a0_0) ∧ w'.cell? ⟨gb101, 1, none⟩ = some (.int .i64 a0_1) ∧ w'.cell? ⟨gb101, 2, none⟩ = some (.int .u64 a0_2) ∧ w'.cell? ⟨gb101, 3, none⟩ = some (.string a0_3)) (ds := []) (bA 12 0) (by kernel_rfl) rfl rfl ⟨bcA BK101 0, bcA BK101 1, bcA BK101 2, bcA BK101 3⟩ (fun hHeld => ?_); refine with_tabW agateref02_Bytes.tab10 agateref02_Bytes.bits10 (fun HT_ HW_ => ?_)
       generalize w39.drew = w42 at HO104 BK101 HB hHeld ⊢
       refine puE (i := 0) (N := some 60) (bA 12 1) HT_ ?_
       refine puE (i := 1) (N := some 61) (bA 12 3) HT_ ?_
       refine puE (i := 8) (N := some 68) (bA 12 259) HT_ ?_
       refine taE (i := 2) (N := some 62) (bA 12 263) HT_ HW_ hHeld ?_
       refine puE (i := 3) (N := some 63) (bA 12 271) HT_ ?_
       refine puE (i := 4) (N := some 64) (bA 12 287) HT_ ?_
       refine taE (i := 9) (N := some 69) (bA 12 799) HT_ HW_ hHeld ?_
       refine one_ (i := 5) (N := some 65) (bA 12 831) rfl rfl (one_of HT_.out (by kernel_rfl)) (by decide) (fun K hK => ?_)
       refine goE Tryz.func75 (by kernel_rfl) rfl #[.int .u64 (IntKind.u64.wrap ((a0_3.size : Int)))] (by rfl) rfl rfl ?_
       with_reducible refine (agateref01_Put_s.calls (IntKind.u64.wrap ((a0_3.size : Int))) t109 _ A35.out).mono ?_
       rintro e w43 ⟨v110, rfl, ho0, hb⟩
       refine ⟨_, rfl, ?_⟩
       have HO111 := mk0 (Kd.R_lower (Kd.R_new' ho0 (Kd.R_lt (krA HO104))) (below_size (hbA HB))); replace HO104 := mk0 (Kd.R_elder' (krA HO104) (Kd.R_base ho0) hb); replace BK101 := bkS BK101 hb; replace HB := hbS HB hb; try clear hb; try clear ho0
       refine hK.out _ _ ⟨bcA BK101 0, bcA BK101 1, bcA BK101 2, bcA BK101 3⟩ (fun hHeld => ?_)
       clear hK K
       refine noE 65 ?_
       refine one_ (i := 6) (N := some 66) (bA 12 895) rfl rfl (one_of HT_.out (by kernel_rfl)) (by decide) (fun K hK => ?_)
       have hcv44 := own_string (P := Tryz.prog) Tryz.underlying80 Tryz.underlying5 Tryz.underlying9 (Kd.own_of_R HO111.out)
       refine value_ (w1 := ?_) (v := ?_) (by rfl) rfl ?_ ?_
       rotate_left 2
       ·
        go_simp
        constructor
        ·
         rfl
        ·
         rfl
       clear hcv44
       refine hK.out _ _ ⟨bcA BK101 0, bcA BK101 1, bcA BK101 2, bcA BK101 3⟩ (fun hHeld => ?_)
       clear hK K
       refine noE 66 ?_
       refine puE (i := 7) (N := some 67) (bA 12 1023) HT_ ?_
       refine puE (i := 10) (N := some 70) (bA 12 2047) HT_ ?_
       refine puE (i := 11) (N := some 2) (bA 12 4095) HT_ ?_
       refine done_ (done_of HT_.out (by kernel_rfl)) ?_
       try go_wp2
       go_ret
       exact ⟨cl3, hbA HB⟩
      ·
       rw [if_neg c34] at H; have c34b0 := beq_eq_false_iff_ne.mpr c34; have c34b1 := bne_iff_ne.mpr c34
       by_cases c45 : a0_2 > 4294967295
       ·
        rw [if_pos c45] at H; have c45b0 := decide_eq_true c45; clear c45; obtain rfl := Option.some.inj H; obtain ⟨hcz46_0, hcz46_1, hcz46_2, hcz46_3⟩ := cz4 BK101
        go_wp2_with (first | ((with_reducible refine gate_callee (f := 75) rfl ?_); refine glE (some 39) rfl rfl Tryz.func75 (by kernel_rfl) rfl #[.int .u64 (IntKind.u64.wrap (wrap64 ((wrap64 (8 * a0_0)) + a0_1)))] rfl ?_; (with_reducible refine (agateref01_Put_s.calls (IntKind.u64.wrap (wrap64 ((wrap64 (8 * a0_0)) + a0_1))) t102 _ A16.out).mono ?_); rintro e w47 ⟨v103, rfl, ho0, hb⟩; refine ⟨_, rfl, ?_⟩; have HO104 := mk0 (Kd.R_lower ho0 (below_size (hbA HB))); replace BK101 := bkS BK101 hb; replace HB := hbS HB hb; (try clear hb); (try clear ho0); have hcv48 := own_string (P := Tryz.prog) Tryz.underlying80 Tryz.underlying5 Tryz.underlying9 (Kd.own_of_R HO104.out); obtain ⟨hcz49_0, hcz49_1, hcz49_2, hcz49_3⟩ := cz4 BK101; have hfz49_3 := blk_frozen BK101.out 3))
        go_ret
        exact ⟨cl3, hbA HB⟩
       ·
        rw [if_neg c45] at H; have c45b0 := decide_eq_false c45; clear c45; replace H := bnd H; obtain ⟨t112, A50, H⟩ := H; replace H := ifS H; obtain ⟨c51, H⟩ := H; have c51b0 := eq_true c51; have c51b1 := decide_eq_true c51; try have c51b2 := eq_false (Nat.not_lt.2 c51)
        try have c51b3 := c51b2
        try simp only [ByteArray.size_append] at c51b3
        obtain rfl := Option.some.inj H; obtain ⟨hcz52_0, hcz52_1, hcz52_2, hcz52_3⟩ := cz4 BK101
        go_wp2_with (first | ((with_reducible refine gate_callee (f := 75) rfl ?_); refine glE (some 39) rfl rfl Tryz.func75 (by kernel_rfl) rfl #[.int .u64 (IntKind.u64.wrap (wrap64 ((wrap64 (8 * a0_0)) + a0_1)))] rfl ?_; (with_reducible refine (agateref01_Put_s.calls (IntKind.u64.wrap (wrap64 ((wrap64 (8 * a0_0)) + a0_1))) t102 _ A16.out).mono ?_); rintro e w53 ⟨v103, rfl, ho0, hb⟩; refine ⟨_, rfl, ?_⟩; have HO104 := mk0 (Kd.R_lower ho0 (below_size (hbA HB))); replace BK101 := bkS BK101 hb; replace HB := hbS HB hb; (try clear hb); (try clear ho0); have hcv54 := own_string (P := Tryz.prog) Tryz.underlying80 Tryz.underlying5 Tryz.underlying9 (Kd.own_of_R HO104.out); obtain ⟨hcz55_0, hcz55_1, hcz55_2, hcz55_3⟩ := cz4 BK101) | ((with_reducible refine gate_callee (f := 95) rfl ?_); refine glE (some 77) rfl rfl Tryz.func95 (by kernel_rfl) rfl #[.int .u64 a0_2, .int .i64 4] rfl ?_; (with_reducible refine (agateref02_high_s.calls a0_2 4 t112 _ A50.out).mono ?_); rintro e w56 ⟨rfl, hb⟩; refine ⟨_, rfl, ?_⟩; replace HO104 := mk0 (Kd.R_below (krA HO104) hb); replace BK101 := bkS BK101 hb; replace HB := hbS HB hb; (try clear hb)))
        go_ret
        exact ⟨cl3, hbA HB⟩
end Go.Proofs.YtgmggompdidcoaaGreatDoor.X
