import Derived.Test.YtgmggompdidcoaaGreatDoorMPbtensorWrites2
import Derived.Test.YtgmggompdidcoaaGreatDoorMPbtensorWrites3
import Derived.ScopeJumps
import Derived.WalkMore
namespace Go.Proofs.YtgmggompdidcoaaGreatDoor.X
open Go.RowKit Go.Proofs.YtgmggompdidcoaaGreatDoorW.PrintWords Go.Proofs.YtgmggompdidcoaaGreatDoorW.PrintLast Go.Proofs.YtgmggompdidcoaaGreatDoorW.PrintMore
attribute [local go_sem] max2_int min2_int max_two min_two max_three min_three max_four min_four
set_option linter.unusedVariables false
set_option linter.unusedSimpArgs false
abbrev Fl := Int × Int × Int × ByteArray
def flP (x : S95) : Fl := (x.f0, x.f1, x.f2, x.f3)
def toP (x : Fl) : S95 := ⟨x.1, x.2.1, x.2.2.1, x.2.2.2⟩
def bytesS (num ty n : Int) (d : ByteArray) : ByteArray :=
  if 1 ≤ num ∧ num ≤ 536870911 ∧ (ty = 0 ∨ ty = 1 ∨ ty = 2 ∨ ty = 5) then
    if ty = 0 then vStr (8 * num + ty).toNat ++ vStr n.toNat
    else if ty = 2 then vStr (8 * num + ty).toNat ++ vStr d.size ++ d
    else if ty = 1 then vStr (8 * num + ty).toNat ++ laidStr n.toNat 8
    else if n > 4294967295 then ⟨#[]⟩ else vStr (8 * num + ty).toNat ++ laidStr n.toNat 4
  else ⟨#[]⟩
def oneS (b : ByteArray) : Fl × Nat × Nat :=
  if (vRead b).2.2 ≠ 0 then ((0, 0, 0, ⟨#[]⟩), 0, (vRead b).2.2)
  else if ¬ (1 ≤ (vRead b).1 / 8 ∧ (vRead b).1 / 8 ≤ 536870911 ∧ ((vRead b).1 % 8 = 0 ∨ (vRead b).1 % 8 = 1 ∨ (vRead b).1 % 8 = 2 ∨ (vRead b).1 % 8 = 5)) then ((0, 0, 0, ⟨#[]⟩), 0, 3)
  else if (vRead b).1 % 8 = 0 ∨ (vRead b).1 % 8 = 2 then
    let q := vRead (b.extract (vRead b).2.1 b.size)
    if q.2.2 ≠ 0 then ((0, 0, 0, ⟨#[]⟩), 0, q.2.2)
    else if (vRead b).1 % 8 = 0 then (((vRead b).1 / 8, 0, q.1, ⟨#[]⟩), (vRead b).2.1 + q.2.1, 0)
    else if b.size - ((vRead b).2.1 + q.2.1) < q.1 then ((0, 0, 0, ⟨#[]⟩), 0, 1)
    else (((vRead b).1 / 8, 2, 0, b.extract ((vRead b).2.1 + q.2.1) ((vRead b).2.1 + q.2.1 + q.1)), (vRead b).2.1 + q.2.1 + q.1, 0)
  else
    let size := if (vRead b).1 % 8 = 5 then 4 else 8
    if b.size - (vRead b).2.1 < size then ((0, 0, 0, ⟨#[]⟩), 0, 1)
    else (((vRead b).1 / 8, ((vRead b).1 % 8 : Nat), (lowS (ns (b.extract (vRead b).2.1 ((vRead b).2.1 + size))) : Nat), ⟨#[]⟩), (vRead b).2.1 + size, 0)
def fieldsF : Nat → ByteArray → List Fl × Nat
  | 0, _ => ([], 0)
  | k + 1, b => if b.size = 0 then ([], 0) else if (oneS b).2.2 ≠ 0 then ([], (oneS b).2.2)
    else if (fieldsF k (b.extract (oneS b).2.1 b.size)).2 ≠ 0 then ([], (fieldsF k (b.extract (oneS b).2.1 b.size)).2)
    else ((oneS b).1 :: (fieldsF k (b.extract (oneS b).2.1 b.size)).1, 0)
def fieldsS (b : ByteArray) : List Fl × Nat := if b.size > 1048576 then ([], 2) else fieldsF b.size b
theorem vRead_pos (b : ByteArray) (h : (vRead b).2.2 = 0) : 1 ≤ (vRead b).2.1 ∧ (vRead b).2.1 ≤ b.size ∧ (vRead b).2.1 ≤ 10 ∧ (vRead b).1 < 18446744073709551616 := by
  obtain ⟨⟨y, n, e⟩, hr⟩ : ∃ x, vRead b = x := ⟨_, rfl⟩
  rw [hr] at h ⊢
  simp only at h ⊢
  subst h
  obtain ⟨h1, h2, h3, h4, _⟩ := vRead_ok b y n hr
  have := vSize_pos y
  omega
theorem extract_size' (b : ByteArray) (i : Nat) (h : i ≤ b.size) : (b.extract i b.size).size = b.size - i := by
  rw [ByteArray.size_extract]; omega
theorem oneS_pos (b : ByteArray) (h : (oneS b).2.2 = 0) : 1 ≤ (oneS b).2.1 ∧ (oneS b).2.1 ≤ b.size := by
  unfold oneS at h ⊢
  split at h
  · rename_i h1; exact absurd h h1
  · rename_i h1
    have g := vRead_pos b (by simpa using h1)
    rw [if_neg h1]
    split at h
    · simp at h
    · rename_i h2
      rw [if_neg h2]
      split at h
      · rename_i h3
        rw [if_pos h3]
        simp only at h ⊢
        split at h
        · rename_i h4; exact absurd h h4
        · rename_i h4
          have g2 := vRead_pos (b.extract (vRead b).2.1 b.size) (by simpa using h4)
          rw [extract_size' _ _ (by omega)] at g2
          rw [if_neg h4]
          split
          · simp only; omega
          · rename_i h5
            rw [if_neg h5] at h
            split at h
            · simp at h
            · rename_i h6; rw [if_neg h6]; simp only; omega
      · rename_i h3
        rw [if_neg h3]
        obtain ⟨size, hsz⟩ : ∃ s, (if (vRead b).1 % 8 = 5 then 4 else 8) = s := ⟨_, rfl⟩
        have hs4 : 4 ≤ size := by rw [← hsz]; split <;> omega
        simp only [hsz] at h ⊢
        split at h
        · simp at h
        · rename_i h4; rw [if_neg h4]; simp only; omega
theorem fieldsF_length (k : Nat) : ∀ b, (fieldsF k b).1.length ≤ k := by
  induction k with
  | zero => intro b; simp [fieldsF]
  | succ k ih =>
    intro b
    have := ih (b.extract (oneS b).2.1 b.size)
    rw [fieldsF]
    repeat' split
    all_goals simp_all
theorem fieldsF_nil (k : Nat) (b : ByteArray) (h : (fieldsF k b).2 ≠ 0) : (fieldsF k b).1 = [] := by
  cases k with
  | zero => rfl
  | succ k =>
    rw [fieldsF] at h ⊢
    by_cases h0 : b.size = 0
    · rw [if_pos h0]
    · rw [if_neg h0] at h ⊢
      by_cases h1 : (oneS b).2.2 ≠ 0
      · rw [if_pos h1]
      · rw [if_neg h1] at h ⊢
        by_cases h2 : (fieldsF k (b.extract (oneS b).2.1 b.size)).2 ≠ 0
        · rw [if_pos h2]
        · rw [if_neg h2] at h; exact absurd rfl h
def agateref02_Bytes_s.f (a0 a1 a2 : Int) (a3 : ByteArray) : Option ByteArray :=
  if -9223372036854775808 ≤ a0 ∧ a0 < 9223372036854775808 ∧ -9223372036854775808 ≤ a1 ∧ a1 < 9223372036854775808 ∧ 0 ≤ a2 ∧ a2 < 18446744073709551616 ∧ a3.size ≤ 140737488351232 then some (bytesS a0 a1 a2 a3) else none
theorem agateref02_Bytes_s.ev (a0 a1 a2 : Int) (a3 : ByteArray) (r) (h : agateref02_Bytes_s.f a0 a1 a2 a3 = some r) : ∃ k, agateref02_Bytes.f k a0 a1 a2 a3 = some r := by
  unfold agateref02_Bytes_s.f at h
  split at h
  · rename_i hr
    obtain ⟨p0, p1, p2, p3, p4, p5, p6⟩ := hr
    rw [← h]
    refine ⟨1, ?_⟩
    unfold agateref02_Bytes.f bytesS
    by_cases hm : 1 ≤ a0 ∧ a0 ≤ 536870911 ∧ (a1 = 0 ∨ a1 = 1 ∨ a1 = 2 ∨ a1 = 5)
    · have hm1 := hm
      obtain ⟨m0, m1, m2⟩ := hm1
      rw [if_neg (by omega), if_neg (by omega), if_neg (by omega), if_neg (by omega), if_neg (by omega), if_pos hm]
      simp only [agateref02_Bytes.j0]
      have ep : ∀ x : Int, 0 ≤ x → x < 18446744073709551616 → agateref01_Put_s.f x = some ((vPut x.toNat).map Int.ofNat) := fun x g0 g1 => if_pos ⟨g0, g1⟩
      have hs : ∀ x : Int, 0 ≤ x → x < 18446744073709551616 → (vStr x.toNat).size ≤ 10 := fun x g0 g1 => by rw [vStr_size]; exact vSize_10 _ (by omega)
      have hs1 := hs (8 * a0 + a1) (by omega) (by omega)
      have es : ∀ n, strOfNums ((vPut n).map Int.ofNat) = vStr n := fun _ => rfl
      rw [if_neg (by simp; omega), wrap64_id (x := 8 * a0) (by omega) (by omega), wrap64_id (by omega) (by omega), u64_id (by omega) (by omega), ep _ (by omega) (by omega), Option.bind_some]
      simp only [es]
      rcases m2 with rfl | rfl | rfl | rfl
      · have hs2 := hs a2 p4 p5
        rw [if_pos rfl, if_pos rfl, ep _ p4 p5, Option.bind_some]
        simp only [es]
        rw [if_pos (by omega)]
      · rw [if_neg (by decide), if_pos rfl, if_neg (by decide), if_neg (by decide), if_pos rfl]
        have el : agateref02_high_s.f a2 8 = some (laidStr a2.toNat 8) := if_pos ⟨p4, p5, by decide, by decide⟩
        rw [el, Option.bind_some, if_pos (by rw [laidStr_size]; omega)]
      · have hs2 := hs (a3.size : Int) (by omega) (by omega)
        rw [Int.toNat_natCast] at hs2
        rw [if_neg (by decide), if_neg (by decide), if_pos rfl, if_neg (by decide), if_pos rfl, u64_id (by omega) (by omega), ep _ (by omega) (by omega), Option.bind_some, Int.toNat_natCast]
        simp only [es]
        rw [if_pos (by omega), if_pos (by rw [ByteArray.size_append]; omega)]
      · rw [if_neg (show ¬ (5 : Int) = 0 by decide), if_neg (show ¬ (5 : Int) = 1 by decide), if_neg (show ¬ (5 : Int) = 2 by decide), if_neg (show ¬ (5 : Int) = 0 by decide), if_neg (show ¬ (5 : Int) = 2 by decide), if_neg (show ¬ (5 : Int) = 1 by decide)]
        by_cases hg : a2 > 4294967295
        · rw [if_pos hg, if_pos hg]
        · rw [if_neg hg, if_neg hg]
          have el : agateref02_high_s.f a2 4 = some (laidStr a2.toNat 4) := if_pos ⟨p4, p5, by decide, by decide⟩
          rw [el, Option.bind_some, if_pos (by rw [laidStr_size]; omega)]
    · rw [if_neg hm]
      by_cases n0 : a0 < 1
      · rw [if_pos n0]; rfl
      · by_cases n1 : a0 > 536870911
        · rw [if_neg n0, if_pos n1]; rfl
        · by_cases n2 : a1 < 0
          · rw [if_neg n0, if_neg n1, if_pos n2]; rfl
          · by_cases n3 : a1 > 5
            · rw [if_neg n0, if_neg n1, if_neg n2, if_pos n3]; rfl
            · by_cases n4 : a1 = 3
              · rw [if_neg n0, if_neg n1, if_neg n2, if_neg n3, if_pos n4]; rfl
              · obtain rfl : a1 = 4 := by omega
                rw [if_neg n0, if_neg n1, if_neg n2, if_neg n3, if_neg n4]; rfl
  · cases h
set_option maxHeartbeats 1000000 in
theorem agateref02_Bytes_s.calls (a0_0 : Int) (a0_1 : Int) (a0_2 : Int) (a0_3 : ByteArray) (r : ByteArray) (w : World) (h : agateref02_Bytes_s.f a0_0 a0_1 a0_2 a0_3 = some r) :
    Calls Tryz.prog 76 #[.agg #[.int .i64 a0_0, .int .i64 a0_1, .int .u64 a0_2, .string a0_3]] w fun e w' => e = .returned (.string r) ∧ Below w.heap.size w w' := by
  obtain ⟨k, hk⟩ := agateref02_Bytes_s.ev a0_0 a0_1 a0_2 a0_3 _ h
  exact agateref02_Bytes.calls k a0_0 a0_1 a0_2 a0_3 r w hk
def agateref02_Number.f (a0 : Int) (a1 : Int) : Option (ByteArray) := (agateref02_Bytes_s.f a0 0 a1 (⟨#[]⟩ : ByteArray)).bind fun t101 => (some t101)
set_option maxHeartbeats 8000000 in
set_option maxRecDepth 100000 in
theorem agateref02_Number.calls (a0 : Int) (a1 : Int) (r : ByteArray) (w : World) (h : agateref02_Number.f a0 a1 = some r) :
    Calls Tryz.prog 39 #[.int .i64 a0, .int .u64 a1] w fun e w' => e = .returned (.string r) ∧ Below w.heap.size w w' := by
  have hu68 := Tryz.underlying68; have HB := mk0 (Below.refl w.heap.size w); have H : ((agateref02_Bytes_s.f a0 0 a1 (⟨#[]⟩ : ByteArray)).bind fun t101 => (some t101)) = some r := h; clear h; replace H := bnd H; obtain ⟨t101, A3, H⟩ := H; obtain rfl := Option.some.inj H
  go_enter Tryz.func39, Tryz.ntmps39
  go_wp2_with (first | ((with_reducible refine gate_callee (f := 76) rfl ?_); refine glE (some 8) rfl rfl Tryz.func76 (by kernel_rfl) rfl #[.agg #[.int .i64 a0, .int .i64 0, .int .u64 a1, .string (⟨#[]⟩ : ByteArray)]] rfl ?_; (with_reducible refine (agateref02_Bytes_s.calls a0 0 a1 (⟨#[]⟩ : ByteArray) t101 _ A3.out).mono ?_); rintro e w4 ⟨rfl, hb⟩; refine ⟨_, rfl, ?_⟩; replace HB := mk0 (below_step (hbA HB) hb); (try clear hb)))
  go_ret
  exact ⟨cl3, hbA HB⟩
def agateref02_Number_s.f (a0 a1 : Int) : Option ByteArray := agateref02_Bytes_s.f a0 0 a1 ⟨#[]⟩
theorem agateref02_Number_s.ev (a0 a1 : Int) (r) (h : agateref02_Number_s.f a0 a1 = some r) : ∃ k : Nat, agateref02_Number.f a0 a1 = some r := by
  unfold agateref02_Number_s.f at h
  exact ⟨0, by unfold agateref02_Number.f; rw [h]; rfl⟩
set_option maxHeartbeats 1000000 in
theorem agateref02_Number_s.calls (a0 : Int) (a1 : Int) (r : ByteArray) (w : World) (h : agateref02_Number_s.f a0 a1 = some r) :
    Calls Tryz.prog 39 #[.int .i64 a0, .int .u64 a1] w fun e w' => e = .returned (.string r) ∧ Below w.heap.size w w' := by
  obtain ⟨k, hk⟩ := agateref02_Number_s.ev a0 a1 _ h
  exact agateref02_Number.calls a0 a1 r w hk
def agateref02_Text.f (a0 : Int) (a1 : ByteArray) : Option (ByteArray) := (agateref02_Bytes_s.f a0 2 0 a1).bind fun t101 => (some t101)
set_option maxHeartbeats 8000000 in
set_option maxRecDepth 100000 in
theorem agateref02_Text.calls (a0 : Int) (a1 : ByteArray) (r : ByteArray) (w : World) (h : agateref02_Text.f a0 a1 = some r) :
    Calls Tryz.prog 40 #[.int .i64 a0, .string a1] w fun e w' => e = .returned (.string r) ∧ Below w.heap.size w w' := by
  have hu68 := Tryz.underlying68; have HB := mk0 (Below.refl w.heap.size w); have H : ((agateref02_Bytes_s.f a0 2 0 a1).bind fun t101 => (some t101)) = some r := h; clear h; replace H := bnd H; obtain ⟨t101, A3, H⟩ := H; obtain rfl := Option.some.inj H
  go_enter Tryz.func40, Tryz.ntmps40
  go_wp2_with (first | ((with_reducible refine gate_callee (f := 76) rfl ?_); refine glE (some 8) rfl rfl Tryz.func76 (by kernel_rfl) rfl #[.agg #[.int .i64 a0, .int .i64 2, .int .u64 0, .string a1]] rfl ?_; (with_reducible refine (agateref02_Bytes_s.calls a0 2 0 a1 t101 _ A3.out).mono ?_); rintro e w4 ⟨rfl, hb⟩; refine ⟨_, rfl, ?_⟩; replace HB := mk0 (below_step (hbA HB) hb); (try clear hb)))
  go_ret
  exact ⟨cl3, hbA HB⟩
def agateref02_Text_s.f (a0 : Int) (a1 : ByteArray) : Option ByteArray := agateref02_Bytes_s.f a0 2 0 a1
theorem agateref02_Text_s.ev (a0 : Int) (a1 : ByteArray) (r) (h : agateref02_Text_s.f a0 a1 = some r) : ∃ k : Nat, agateref02_Text.f a0 a1 = some r := by
  unfold agateref02_Text_s.f at h
  exact ⟨0, by unfold agateref02_Text.f; rw [h]; rfl⟩
set_option maxHeartbeats 1000000 in
theorem agateref02_Text_s.calls (a0 : Int) (a1 : ByteArray) (r : ByteArray) (w : World) (h : agateref02_Text_s.f a0 a1 = some r) :
    Calls Tryz.prog 40 #[.int .i64 a0, .string a1] w fun e w' => e = .returned (.string r) ∧ Below w.heap.size w w' := by
  obtain ⟨k, hk⟩ := agateref02_Text_s.ev a0 a1 _ h
  exact agateref02_Text.calls a0 a1 r w hk
def agateref03_Put.l0 : Nat → Int → List Int → ByteArray → Int → Option (ByteArray)
 | 0, _, _, _, _ => none
 | k + 1, x0, x1, x5, x6 => if x6 < (x1.length : Int) then (if 0 ≤ x6 then ((agateref01_Put_s.f (IntKind.u64.wrap (rd x1 x6))).bind fun t102 => (if x5.size + (strOfNums t102).size ≤ 9223372036854775807 then (agateref03_Put.l0 k x0 x1 (x5 ++ (strOfNums t102)) (wrap64 (x6 + 1))) else (none))) else (none)) else ((agateref02_Text_s.f x0 x5).bind fun t105 => (some t105))
def agateref03_Put.f (k : Nat) (a0 : Int) (l1 : List Int) : Option (ByteArray) := if (l1.length : Int) = 0 then (some (⟨#[]⟩ : ByteArray)) else (agateref03_Put.l0 k a0 l1 (⟨#[]⟩ : ByteArray) 0)
set_option maxHeartbeats 8000000 in
set_option maxRecDepth 100000 in
theorem agateref03_Put.calls (k : Nat) (a0 : Int) (A1 : Option Addr) (c1 : Nat) (l1 : List Int) (r : ByteArray) (w : World) (hr1 : Kd.C (Kd.int .i64) w A1 l1.length l1) (hc1 : l1.length ≤ c1) (h : agateref03_Put.f k a0 l1 = some r) :
  Calls Tryz.prog 38 #[.int .i64 a0, .slice A1 l1.length c1] w fun e w' => e = .returned (.string r) ∧ Below w.heap.size w w' := by
 have HR1 := mk0 hr1; have HC1 := mk0 hc1; clear hr1 hc1; have HB := mk0 (Below.refl w.heap.size w); have H : (if (l1.length : Int) = 0 then (some (⟨#[]⟩ : ByteArray)) else (agateref03_Put.l0 k a0 l1 (⟨#[]⟩ : ByteArray) 0)) = some r := h; clear h
 by_cases c3 : (l1.length : Int) = 0
 ·
  rw [if_pos c3] at H; have c3b0 := beq_iff_eq.mpr c3; have c3b1 := bne_eq_false_iff_eq.mpr c3; clear c3; obtain rfl := Option.some.inj H
  go_enter Tryz.func38, Tryz.ntmps38
  go_wp2
  go_ret
  exact ⟨cl3, hbA HB⟩
 ·
  rw [if_neg c3] at H; have c3b0 := beq_eq_false_iff_ne.mpr c3; have c3b1 := bne_iff_ne.mpr c3; have c3b2 : ¬ (l1 = []) := fun h_ => c3 (by rw [h_]; rfl); have H' := mk0 H; clear H
  go_enter Tryz.func38, Tryz.ntmps38
  go_wp2
  go_loopg [5, 6] k (fun kq v5 v6 w' => ∃ (x5_1 : ByteArray) (x6_1 : Int), v5 = .string x5_1 ∧ v6 = .int .i64 x6_1 ∧ Aside0 (agateref03_Put.l0 kq a0 l1 x5_1 x6_1 = some r) ∧ Aside0 (kq ≤ k) ∧ Aside0 (Below w.heap.size w w'))
  case atStart => exact ⟨((⟨#[]⟩ : ByteArray)), (0), cl0, cl0, H', ⟨Nat.le_refl _⟩, ⟨hbA HB⟩⟩
  case round =>
   clear H'; try clear c1; try clear c3; try clear c3b0; try clear c3b1; try clear c3b2
   obtain ⟨x5_1, x6_1, rfl, rfl, HA, HK1, HB⟩ := hrel
   cases gk with
   | zero => exact absurd HA.out (by simp [agateref03_Put.l0])
   | succ k1 =>
    have H := HA.out; clear HA
    simp only [agateref03_Put.l0] at H
    by_cases c4 : x6_1 < (l1.length : Int)
    ·
     rw [if_pos c4] at H; have c4b0 := decide_eq_true c4; clear c4; replace H := ifS H; obtain ⟨c5, H⟩ := H; have c5b0 := decide_eq_true c5; clear c5; replace H := bnd H; obtain ⟨t102, A6, H⟩ := H; replace H := ifS H; obtain ⟨c7, H⟩ := H; have c7b0 := eq_true c7; have c7b1 := decide_eq_true c7; try have c7b2 := eq_false (Nat.not_lt.2 c7)
     try have c7b3 := c7b2
     try simp only [ByteArray.size_append] at c7b3
     have H' := mk0 H; clear H; have p101 : 0 ≤ (x6_1 : Int) := ofd; have q101 : x6_1 < (l1.length : Int) := ofd; obtain ⟨ad101, e101, hx101_0⟩ := Kd.at_int HR1.out x6_1 p101 q101; cases e101; replace hx101_0 := hbc HB hx101_0; replace p101 := eq_true p101; replace q101 := eq_true q101
     go_wp2_with (first | ((with_reducible refine gate_callee (f := 75) rfl ?_); refine glE (some 22) rfl rfl Tryz.func75 (by kernel_rfl) rfl #[.int .u64 (IntKind.u64.wrap (rd l1 x6_1))] rfl ?_; (with_reducible refine (agateref01_Put_s.calls (IntKind.u64.wrap (rd l1 x6_1)) t102 _ A6.out).mono ?_); rintro e w8 ⟨v103, rfl, ho0, hb⟩; refine ⟨_, rfl, ?_⟩; have HO104 := mk0 (Kd.R_lower ho0 (below_size (hbA HB))); replace HB := hbS HB hb; (try clear hb); (try clear ho0); have hcv9 := own_string (P := Tryz.prog) Tryz.underlying80 Tryz.underlying5 Tryz.underlying9 (Kd.own_of_R HO104.out)))
     go_roundg k1
     case measure => have := HK1.out; omega
     case rel => exact ⟨(x5_1 ++ (strOfNums t102)), (wrap64 (x6_1 + 1)), cl0, cl0, H', cl2 HK1, ⟨hbA HB⟩⟩
    ·
     rw [if_neg c4] at H; have c4b0 := decide_eq_false c4; clear c4; replace H := bnd H; obtain ⟨t105, A10, H⟩ := H; obtain rfl := Option.some.inj H
     go_wp2_with (first | ((with_reducible refine gate_callee (f := 40) rfl ?_); refine glE (some 27) rfl rfl Tryz.func40 (by kernel_rfl) rfl #[.int .i64 a0, .string x5_1] rfl ?_; (with_reducible refine (agateref02_Text_s.calls a0 x5_1 t105 _ A10.out).mono ?_); rintro e w11 ⟨rfl, hb⟩; refine ⟨_, rfl, ?_⟩; replace HB := hbS HB hb; (try clear hb)))
     go_ret
     exact ⟨cl3, hbA HB⟩
def packedF : Nat → List Int → ByteArray → List Int × Nat
  | 0, out, _ => (out, 0)
  | k + 1, out, b => if b.size = 0 then (out, 0) else if (vRead b).2.2 ≠ 0 then ([], (vRead b).2.2) else if 65536 ≤ out.length then ([], 7)
    else packedF k (out ++ [wrap64 (vRead b).1]) (b.extract (vRead b).2.1 b.size)
def intsL : List Fl → List Int → List Int × Nat
  | [], out => (out, 0)
  | f :: l, out => if f.2.1 = 0 then (if 65536 ≤ out.length then ([], 7) else intsL l (out ++ [wrap64 f.2.2.1]))
    else if f.2.1 = 2 then (if (packedF f.2.2.2.size out f.2.2.2).2 ≠ 0 then ([], (packedF f.2.2.2.size out f.2.2.2).2) else intsL l (packedF f.2.2.2.size out f.2.2.2).1)
    else ([], 3)
def textsL : List Fl → List ByteArray → List ByteArray × Nat
  | [], out => (out, 0)
  | f :: l, out => if f.2.1 = 2 then textsL l (out ++ [f.2.2.2]) else ([], 3)
def catS : List Int → ByteArray
  | [] => ⟨#[]⟩
  | n :: l => vStr (IntKind.u64.wrap n).toNat ++ catS l
def putS (num : Int) (l : List Int) : ByteArray := if l = [] then ⟨#[]⟩ else bytesS num 2 0 (catS l)
theorem packedF_len (k : Nat) : ∀ (out : List Int) (b : ByteArray), out.length ≤ 65536 → (packedF k out b).1.length ≤ 65536 := by
  induction k with
  | zero => intro out b h; exact h
  | succ k ih =>
    intro out b h
    rw [packedF]
    split
    · exact h
    · split
      · simp
      · split
        · simp
        · exact ih _ _ (by simp; omega)
theorem u64_range (n : Int) : 0 ≤ IntKind.u64.wrap n ∧ IntKind.u64.wrap n < 18446744073709551616 := by rw [u64_wrap]; omega
theorem catS_size (l : List Int) : (catS l).size ≤ 10 * l.length := by
  induction l with
  | nil => exact Nat.le_refl _
  | cons n l ih =>
    have h := u64_range n
    have := vSize_10 (IntKind.u64.wrap n).toNat (by omega)
    rw [catS, ByteArray.size_append, vStr_size, List.length_cons]
    omega
theorem catS_append (a b : List Int) : catS (a ++ b) = catS a ++ catS b := by
  induction a with
  | nil => apply ns_inj; simp [catS, ns_append, ns]
  | cons n a ih => rw [List.cons_append, catS, ih, catS, ByteArray.append_assoc]
def agateref03_Put_s.f (a0 : Int) (l1 : List Int) : Option ByteArray := if -9223372036854775808 ≤ a0 ∧ a0 < 9223372036854775808 ∧ l1.length ≤ 1000000000 then some (putS a0 l1) else none
theorem refPut_eval (num : Int) (hn : -9223372036854775808 ≤ num ∧ num < 9223372036854775808) (l : List Int) (hl : l.length ≤ 1000000000) (d : Nat) : ∀ (k i : Nat), l.length - i = d → i ≤ l.length → d < k →
    agateref03_Put.l0 k num l (catS (l.take i)) i = some (bytesS num 2 0 (catS l)) := by
  induction d with
  | zero =>
    intro k i hd hi hk
    obtain ⟨k, rfl⟩ : ∃ m, k = m + 1 := ⟨k - 1, by omega⟩
    rw [agateref03_Put.l0, if_neg (by omega), List.take_of_length_le (by omega)]
    have hs := catS_size l
    have e : agateref02_Text_s.f num (catS l) = some (bytesS num 2 0 (catS l)) := if_pos ⟨hn.1, hn.2, by decide, by decide, by decide, by decide, by omega⟩
    rw [e]; rfl
  | succ d ih =>
    intro k i hd hi hk
    obtain ⟨k, rfl⟩ : ∃ m, k = m + 1 := ⟨k - 1, by omega⟩
    have h0 : i < l.length := by omega
    have e0 : rd l (i : Int) = l[i] := by simp [rd, List.getD_eq_getElem?_getD, h0]
    have hu := u64_range l[i]
    have e1 : agateref01_Put_s.f (IntKind.u64.wrap l[i]) = some ((vPut (IntKind.u64.wrap l[i]).toNat).map Int.ofNat) := if_pos hu
    have ew : wrap64 ((i : Int) + 1) = ((i + 1 : Nat) : Int) := by rw [wrap64_id (by omega) (by omega)]; omega
    have hs := catS_size (l.take i)
    rw [List.length_take] at hs
    have hv := vSize_10 (IntKind.u64.wrap l[i]).toNat (by omega)
    have ht : catS (l.take (i + 1)) = catS (l.take i) ++ vStr (IntKind.u64.wrap l[i]).toNat := by
      rw [List.take_succ_eq_append_getElem h0, catS_append]
      congr 1
      apply ns_inj
      simp [catS, ns_append, ns]
    rw [agateref03_Put.l0, if_pos (by omega), if_pos (by omega), e0, e1, Option.bind_some, ew]
    show (if (catS (l.take i)).size + (vStr (IntKind.u64.wrap l[i]).toNat).size ≤ 9223372036854775807 then agateref03_Put.l0 k num l (catS (l.take i) ++ vStr (IntKind.u64.wrap l[i]).toNat) ((i + 1 : Nat) : Int) else none) = _
    rw [if_pos (by rw [vStr_size]; clear ew e0 e1; omega), ← ht]
    exact ih k (i + 1) (by omega) (by omega) (by omega)
theorem agateref03_Put_s.ev (a0 : Int) (l1 : List Int) (r) (h : agateref03_Put_s.f a0 l1 = some r) : ∃ k, agateref03_Put.f k a0 l1 = some r := by
  unfold agateref03_Put_s.f at h
  split at h
  · rename_i hs
    rw [← h]
    refine ⟨l1.length + 1, ?_⟩
    unfold agateref03_Put.f putS
    by_cases h0 : l1 = []
    · rw [if_pos (by rw [h0]; rfl), if_pos h0]
    · have hne : l1.length ≠ 0 := fun h => h0 (List.eq_nil_of_length_eq_zero h)
      rw [if_neg (by omega), if_neg h0]
      exact refPut_eval a0 ⟨hs.1, hs.2.1⟩ l1 hs.2.2 l1.length _ 0 (by omega) (by omega) (by omega)
  · cases h
set_option maxHeartbeats 1000000 in
theorem agateref03_Put_s.calls (a0 : Int) (A1 : Option Addr) (c1 : Nat) (l1 : List Int) (r : ByteArray) (w : World) (hr1 : Kd.C (Kd.int .i64) w A1 l1.length l1) (hc1 : l1.length ≤ c1) (h : agateref03_Put_s.f a0 l1 = some r) :
    Calls Tryz.prog 38 #[.int .i64 a0, .slice A1 l1.length c1] w fun e w' => e = .returned (.string r) ∧ Below w.heap.size w w' := by
  obtain ⟨k, hk⟩ := agateref03_Put_s.ev a0 l1 _ h
  exact agateref03_Put.calls k a0 A1 c1 l1 r w hr1 hc1 hk
def agateref09_Put.f (a0_0 : ByteArray) (a0_1 : Int) (l0_2 : List Int) (a0_3 : ByteArray) : Option (ByteArray) := (agateref03_Put_s.f 1 l0_2).bind fun t102 => ((agateref02_Number_s.f 2 (IntKind.u64.wrap (a0_1))).bind fun t103 => (if t102.size + t103.size ≤ 9223372036854775807 then ((agateref02_Text_s.f 8 a0_0).bind fun t104 => (if (t102 ++ t103).size + t104.size ≤ 9223372036854775807 then ((agateref02_Text_s.f 9 a0_3).bind fun t105 => (if ((t102 ++ t103) ++ t104).size + t105.size ≤ 9223372036854775807 then (some (((t102 ++ t103) ++ t104) ++ t105)) else (none))) else (none))) else (none)))
def agateref09_Put.T1 : Bool × List (List Nat × List Nat) := (true, [([], []), ([0], [0]), ([1], [1]), ([], []), ([3], [3]), ([4], [4]), ([5, 2], [5]), ([2, 6], [2, 6]), ([], []), ([8], [8]), ([9, 6], [9]), ([7, 10], [7, 10]), ([], []), ([12], [12]), ([13, 10], [13]), ([11, 14], [11, 14]), ([15, 14, 0, 1, 2, 3, 4, 5, 6, 7, 8, 9, 10, 11, 12, 13, 14, 15], [15])])
def agateref09_Put.B1 : List Nat := [0, 1, 3, 0, 8, 24, 63, 127, 0, 256, 895, 2047, 0, 4096, 14207, 32767, 65535]
theorem agateref09_Put.tab1 : rtab .any (opsOf Tryz.f13 1) = agateref09_Put.T1 := by kernel_rfl
theorem agateref09_Put.bits1 : waitsOk agateref09_Put.T1.2 agateref09_Put.B1 = true := by kernel_rfl
set_option maxHeartbeats 8000000 in
set_option maxRecDepth 100000 in
theorem agateref09_Put.calls (a0_0 : ByteArray) (a0_1 : Int) (A0_2 : Option Addr) (c0_2 : Nat) (l0_2 : List Int) (a0_3 : ByteArray) (r : ByteArray) (w : World) (hr0_2 : Kd.C (Kd.int .i64) w A0_2 l0_2.length l0_2) (hc0_2 : l0_2.length ≤ c0_2) (h : agateref09_Put.f a0_0 a0_1 l0_2 a0_3 = some r) :
  Calls Tryz.prog 13 #[.agg #[.string a0_0, .int .i64 a0_1, .slice A0_2 l0_2.length c0_2, .string a0_3]] w fun e w' => e = .returned (.string r) ∧ Below w.heap.size w w' := by
 have hu38 := Tryz.underlying38; have HR0_2 := mk0 hr0_2; have HC0_2 := mk0 hc0_2; clear hr0_2 hc0_2; have HB := mk0 (Below.refl w.heap.size w); have H : ((agateref03_Put_s.f 1 l0_2).bind fun t102 => ((agateref02_Number_s.f 2 (IntKind.u64.wrap (a0_1))).bind fun t103 => (if t102.size + t103.size ≤ 9223372036854775807 then ((agateref02_Text_s.f 8 a0_0).bind fun t104 => (if (t102 ++ t103).size + t104.size ≤ 9223372036854775807 then ((agateref02_Text_s.f 9 a0_3).bind fun t105 => (if ((t102 ++ t103) ++ t104).size + t105.size ≤ 9223372036854775807 then (some (((t102 ++ t103) ++ t104) ++ t105)) else (none))) else (none))) else (none)))) = some r := h; clear h; replace H := bnd H; obtain ⟨t102, A2, H⟩ := H; replace H := bnd H; obtain ⟨t103, A3, H⟩ := H; replace H := ifS H; obtain ⟨c4, H⟩ := H; have c4b0 := eq_true c4; have c4b1 := decide_eq_true c4; try have c4b2 := eq_false (Nat.not_lt.2 c4)
 try have c4b3 := c4b2
 try simp only [ByteArray.size_append] at c4b3
 replace H := bnd H; obtain ⟨t104, A5, H⟩ := H; replace H := ifS H; obtain ⟨c6, H⟩ := H; have c6b0 := eq_true c6; have c6b1 := decide_eq_true c6; try have c6b2 := eq_false (Nat.not_lt.2 c6)
 try have c6b3 := c6b2
 try simp only [ByteArray.size_append] at c6b3
 replace H := bnd H; obtain ⟨t105, A7, H⟩ := H; replace H := ifS H; obtain ⟨c8, H⟩ := H; have c8b0 := eq_true c8; have c8b1 := decide_eq_true c8; try have c8b2 := eq_false (Nat.not_lt.2 c8)
 try have c8b3 := c8b2
 try simp only [ByteArray.size_append] at c8b3
 obtain rfl := Option.some.inj H
 go_enter Tryz.func13, Tryz.ntmps13
 try go_wp2_with (first | ((with_reducible refine gate_dst (N := 1) rfl ?_); refine boxE (N := 1) (cs := #[.string a0_0, .int .i64 a0_1, .slice A0_2 l0_2.length c0_2, .string a0_3]) (t := 38) ?_; intro gb101 hg w9 hbox hb; have BK101 := mk0 hbox; have GW101 := gwS HB hg; have GE101 := gwS HB hg; replace HB := hbS HB hb; clear hb hbox hg)); replace BK101 := mk0 (blk_drew BK101.out); replace HB := mk0 (below_drew1 HB.out)
 refine start_ (n := 17) (S := fun w' => w'.cell? ⟨gb101, 0, none⟩ = some (.string a0_0) ∧ w'.cell? ⟨gb101, 1, none⟩ = some (.int .i64 a0_1) ∧ w'.cell? ⟨gb101, 2, none⟩ = some (.slice A0_2 l0_2.length c0_2) ∧ w'.cell? ⟨gb101, 3, none⟩ = some (.string a0_3)) (ds := []) (bA 17 0) (by kernel_rfl) rfl rfl ⟨bcA BK101 0, bcA BK101 1, bcA BK101 2, bcA BK101 3⟩ (fun hHeld => ?_); refine with_tabW agateref09_Put.tab1 agateref09_Put.bits1 (fun HT_ HW_ => ?_)
 generalize w9.drew = w10 at BK101 HB hHeld ⊢
 refine puE (i := 0) (N := some 3) (bA 17 1) HT_ ?_
 refine puE (i := 3) (N := some 6) (bA 17 9) HT_ ?_
 refine puE (i := 8) (N := some 11) (bA 17 265) HT_ ?_
 refine puE (i := 12) (N := some 15) (bA 17 4361) HT_ ?_
 refine taE (i := 1) (N := some 4) (bA 17 4363) HT_ HW_ hHeld ?_
 refine taE (i := 4) (N := some 7) (bA 17 4379) HT_ HW_ hHeld ?_
 refine puE (i := 5) (N := some 8) (bA 17 4411) HT_ ?_
 refine taE (i := 9) (N := some 12) (bA 17 4923) HT_ HW_ hHeld ?_
 refine taE (i := 13) (N := some 16) (bA 17 13115) HT_ HW_ hHeld ?_
 refine one_ (i := 2) (N := some 5) (bA 17 13119) rfl rfl (one_of HT_.out (by kernel_rfl)) (by decide) (fun K hK => ?_)
 refine goE Tryz.func38 (by kernel_rfl) rfl #[.int .i64 1, .slice A0_2 l0_2.length c0_2] (by rfl) rfl rfl ?_
 with_reducible refine (agateref03_Put_s.calls 1 _ _ l0_2 t102 _ ?side1 ?side2 A2.out).mono ?_
 (case side1 => repeat (first | exact (Kd.C_below HR0_2.out HB.out) | (with_reducible refine Kd.C_alloc ?_ _) | (with_reducible refine Kd.C_drewN ?_ _) | (with_reducible refine Kd.C_drew ?_)))
 (case side2 => exact HC0_2.out)
 rintro e w11 ⟨rfl, hb⟩
 refine ⟨_, rfl, ?_⟩
 replace BK101 := bkS BK101 hb; replace HB := hbS HB hb; try clear hb
 refine hK.out _ _ ⟨bcA BK101 0, bcA BK101 1, bcA BK101 2, bcA BK101 3⟩ (fun hHeld => ?_)
 clear hK K
 refine noE 5 ?_
 refine one_ (i := 6) (N := some 9) (bA 17 13183) rfl rfl (one_of HT_.out (by kernel_rfl)) (by decide) (fun K hK => ?_)
 refine goE Tryz.func39 (by kernel_rfl) rfl #[.int .i64 2, .int .u64 (IntKind.u64.wrap (a0_1))] (by rfl) rfl rfl ?_
 with_reducible refine (agateref02_Number_s.calls 2 (IntKind.u64.wrap (a0_1)) t103 _ A3.out).mono ?_
 rintro e w12 ⟨rfl, hb⟩
 refine ⟨_, rfl, ?_⟩
 replace BK101 := bkS BK101 hb; replace HB := hbS HB hb; try clear hb
 refine hK.out _ _ ⟨bcA BK101 0, bcA BK101 1, bcA BK101 2, bcA BK101 3⟩ (fun hHeld => ?_)
 clear hK K
 refine noE 9 ?_
 refine puE (i := 7) (N := some 10) (bA 17 13311) HT_ ?_
 refine one_ (i := 10) (N := some 13) (bA 17 14335) rfl rfl (one_of HT_.out (by kernel_rfl)) (by decide) (fun K hK => ?_)
 refine goE Tryz.func40 (by kernel_rfl) rfl #[.int .i64 8, .string a0_0] (by rfl) rfl rfl ?_
 with_reducible refine (agateref02_Text_s.calls 8 a0_0 t104 _ A5.out).mono ?_
 rintro e w13 ⟨rfl, hb⟩
 refine ⟨_, rfl, ?_⟩
 replace BK101 := bkS BK101 hb; replace HB := hbS HB hb; try clear hb
 refine hK.out _ _ ⟨bcA BK101 0, bcA BK101 1, bcA BK101 2, bcA BK101 3⟩ (fun hHeld => ?_)
 clear hK K
 refine noE 13 ?_
 refine puE (i := 11) (N := some 14) (bA 17 16383) HT_ ?_
 refine one_ (i := 14) (N := some 17) (bA 17 32767) rfl rfl (one_of HT_.out (by kernel_rfl)) (by decide) (fun K hK => ?_)
 refine goE Tryz.func40 (by kernel_rfl) rfl #[.int .i64 9, .string a0_3] (by rfl) rfl rfl ?_
 with_reducible refine (agateref02_Text_s.calls 9 a0_3 t105 _ A7.out).mono ?_
 rintro e w14 ⟨rfl, hb⟩
 refine ⟨_, rfl, ?_⟩
 replace BK101 := bkS BK101 hb; replace HB := hbS HB hb; try clear hb
 refine hK.out _ _ ⟨bcA BK101 0, bcA BK101 1, bcA BK101 2, bcA BK101 3⟩ (fun hHeld => ?_)
 clear hK K
 refine noE 17 ?_
 refine puE (i := 15) (N := some 18) (bA 17 65535) HT_ ?_
 refine puE (i := 16) (N := some 2) (bA 17 131071) HT_ ?_
 refine done_ (done_of HT_.out (by kernel_rfl)) ?_
 try go_wp2
 go_ret
 exact ⟨cl3, hbA HB⟩
theorem wp_scope_pre {P : Program} {pre rest : Code} (l : Nat) {Q : Exit → Act → World → Prop} {a : Act} {w : World} (J : Act → World → Prop) (μ : Act → World → Nat)
    (hf : findLabel pre l = none)
    (start : ∀ K : Act → World → Prop, (∀ a w, J a w → K a w) → pre.wp P (Exit.then K (fun _ _ _ => False)) a w)
    (pass : ∀ a w, J a w → rest.wp P (Exit.jump l (fun a' w' => J a' w' ∧ μ a' w' < μ a w) Q) a w) : (Code.scope (pre.seq ((Code.label l).seq rest))).wp P Q a w := by
  refine wp_scope_jumps (rest := Code.skip.seq rest) l J μ (by simp [findLabel, hf]) ?_ (fun a w hJ => wp_seq (wp_skip (pass a w hJ)))
  refine wp_seq ?_
  refine Code.wp_mono ?_ (start (((Code.label l).seq rest).wp P (Exit.jump l J Q)) ?_)
  · intro e a w h
    cases e with
    | normal => exact h
    | _ => exact h.elim
  · intro a w hJ
    refine wp_seq (wp_label ?_)
    refine Code.wp_mono ?_ (pass a w hJ)
    intro e a1 w1 he
    cases e with
    | goto l => exact ⟨he.1, he.2.1⟩
    | _ => exact he
def varint_Put.f (a0 : Int) : Option ByteArray := if 0 ≤ a0 ∧ a0 < 18446744073709551616 then some (vStr a0.toNat) else none
def varint_Put.Rel (N : Nat) (w : World) (a' : Act) (w' : World) : Prop := ∃ (m : Nat) (xs : List Int) (u3 u4 u5 u6 u7 u8 u9 u10 u11 u12 u13 u14 u15 u16 u17 u18 u19 u20 : Value),
    a' = { tmps := #[.int .u64 m, undef, .string ⟨#[]⟩, u3, u4, u5, u6, u7, u8, u9, u10, u11, u12, u13, u14, u15, u16, u17, u18, u19, u20], defers := [] } ∧ Aside0 (m < 18446744073709551616) ∧
    Aside0 (Kd.R (Kd.int .u8) 5 w' w.heap.size (fun _ => True) u3 xs) ∧ Aside0 (Below w.heap.size w w') ∧ Aside0 (xs ++ (vPut m).map Int.ofNat = (vPut N).map Int.ofNat)
set_option maxHeartbeats 8000000 in
set_option maxRecDepth 100000 in
theorem varint_Put.calls (a0 : Int) (r : ByteArray) (w : World) (h : varint_Put.f a0 = some r) :
    Calls Tryz.prog 72 #[.int .u64 a0] w fun e w' => e = .returned (.string r) ∧ Below w.heap.size w w' := by
  unfold varint_Put.f at h
  by_cases h0 : 0 ≤ a0 ∧ a0 < 18446744073709551616
  · rw [if_pos h0] at h
    obtain ⟨h0, h1⟩ := h0
    obtain ⟨n, rfl⟩ := Int.eq_ofNat_of_zero_le h0
    have HJ : Aside0 (strOfNums ((vPut n).map Int.ofNat) = r) := ⟨Option.some.inj h⟩
    have H1 := Aside0.mk h1
    clear h h1
    go_enter Tryz.func72, Tryz.ntmps72
    go_wp2
    refine wp_scope_pre 0 (varint_Put.Rel n w) (fun a' _ => match a'.tmps.getD 0 undef with | .int _ q => q.toNat | _ => 0) rfl ?_ ?_
    · intro K hK
      have HK := Aside0.mk hK
      clear hK
      go_wp2
      refine HK.out _ _ ⟨n, [], _, _, _, _, _, _, _, _, _, _, _, _, _, _, _, _, _, _, rfl, ⟨by have := H1.out; omega⟩, ⟨Kd.R_nil _ _ _ _ _⟩, ⟨Below.refl _ _⟩, ⟨rfl⟩⟩
    rintro a' w' ⟨m, xs, u3, u4, u5, u6, u7, u8, u9, u10, u11, u12, u13, u14, u15, u16, u17, u18, u19, u20, rfl, HM, HO, HB, HE⟩
    have HL : Aside0 (xs.length ≤ 10) := ⟨by
      have := congrArg List.length HE.out
      simp only [List.length_append, List.length_map, vPut_length] at this
      have := vSize_10 n (by have := H1.out; omega)
      omega⟩
    by_cases hge : 128 ≤ (m : Int)
    · have HX : Aside0 ((xs ++ [((m : Int) % 128 + 128)]) ++ (vPut (m / 128)).map Int.ofNat = (vPut n).map Int.ofNat) := ⟨by
        rw [← HE.out, vPut_ge (v := m) (by omega)]; simp⟩
      go_wp2_with (first | ((with_reducible refine gate_builtin (b := .append) (xs := #[.tmp 6, .tmp 11]) rfl ?_); at_builtin; refine Kd.R_append (Kd.int .u8) (w0 := w) w.heap.size rfl (.tmp 6) (.tmp 11) 80 5 (.int .u8 0) 1 rfl Tryz.underlying80 info5 rfl (by decide) (by omega) u3 xs ((m : Int) % 128 + 128) [.int .u8 ((m : Int) % 128 + 128)] (fun _ => True) (fun _ => False) rfl rfl ?aP (fun _ hk => hk.elim) ?aF ?aO ?aB ?aS ?aL ?_; (case aP => exact rfl); (case aB => exact (by repeat (first | (with_reducible first | exact HB.out | apply below_alloc | apply pw_below_drewN | apply below_drew1) | exact HB.out))); (case aF => exact (fun _ _ => trivial)); (case aO => exact (by (with_reducible repeat (first | apply Kd.R_alloc | apply Kd.R_drewN | apply Kd.R_drew)); exact HO.out)); (case aS => exact (below_size (by repeat (first | (with_reducible first | exact HB.out | apply below_alloc | apply pw_below_drewN | apply below_drew1) | exact HB.out)))); (case aL => have := HL.out; omega); intro v105 w8 ho hb hg hat; have n0_ := Aside0.mk hb; have n1_ := Aside0.mk ho; clear HB; clear HO; have HB := n0_; have HO := n1_; clear n0_ n1_; clear ho hb hg hat))
      go_step3
      refine ⟨rfl, ⟨m / 128, _, _, _, _, _, _, _, _, _, _, _, _, _, _, _, _, _, _, _, by rfl, ⟨by have := HM.out; omega⟩, HO, HB, HX⟩, ?_⟩
      simp
      omega
    · have HX : Aside0 (xs ++ [(m : Int)] = (vPut n).map Int.ofNat) := ⟨by
        rw [← HE.out, vPut_lt (v := m) (by omega)]; rfl⟩
      go_wp2_with (first | ((with_reducible refine gate_builtin (b := .append) (xs := #[.tmp 15, .tmp 18]) rfl ?_); at_builtin; refine Kd.R_append (Kd.int .u8) (w0 := w) w.heap.size rfl (.tmp 15) (.tmp 18) 80 5 (.int .u8 0) 1 rfl Tryz.underlying80 info5 rfl (by decide) (by omega) u3 xs ((m : Int)) [.int .u8 ((m : Int))] (fun _ => True) (fun _ => False) rfl rfl ?aP (fun _ hk => hk.elim) ?aF ?aO ?aB ?aS ?aL ?_; (case aP => exact rfl); (case aB => exact (by repeat (first | (with_reducible first | exact HB.out | apply below_alloc | apply pw_below_drewN | apply below_drew1) | exact HB.out))); (case aF => exact (fun _ _ => trivial)); (case aO => exact (by (with_reducible repeat (first | apply Kd.R_alloc | apply Kd.R_drewN | apply Kd.R_drew)); exact HO.out)); (case aS => exact (below_size (by repeat (first | (with_reducible first | exact HB.out | apply below_alloc | apply pw_below_drewN | apply below_drew1) | exact HB.out)))); (case aL => have := HL.out; omega); intro v105 w8 ho hb hg hat; have n0_ := Aside0.mk hb; have n1_ := Aside0.mk ho; clear HB; clear HO; have HB := n0_; have HO := n1_; clear n0_ n1_; have hcv := own_string (P := Tryz.prog) Tryz.underlying80 Tryz.underlying5 Tryz.underlying9 (Kd.own_of_R HO.out); clear ho hb hg hat))
      simp only [Exit.jump]
      go_ret
      exact ⟨by rw [← HJ.out, ← HX.out]; rfl, HB.out⟩
  · rw [if_neg h0] at h; cases h
def wire_may.f (a0 : Int) (a1 : Int) : Option (Bool) := if a0 ≥ 1 then (if a0 ≤ 536870911 then (if a1 = 0 then (some true) else (if a1 = 1 then (some true) else (if a1 = 2 then (some true) else (some (a1 == 5))))) else (some false)) else (some false)
set_option maxHeartbeats 8000000 in
set_option maxRecDepth 100000 in
theorem wire_may.calls (a0 : Int) (a1 : Int) (r : Bool) (w : World) (h : wire_may.f a0 a1 = some r) :
    Calls Tryz.prog 93 #[.int .u64 a0, .int .u64 a1] w fun e w' => e = .returned (.bool r) ∧ Drawn0 w w' := by
  have H : (if a0 ≥ 1 then (if a0 ≤ 536870911 then (if a1 = 0 then (some true) else (if a1 = 1 then (some true) else (if a1 = 2 then (some true) else (some (a1 == 5))))) else (some false)) else (some false)) = some r := h; clear h
  by_cases c3 : a0 ≥ 1
  · rw [if_pos c3] at H
    have c3b0 := decide_eq_true c3; clear c3
    by_cases c4 : a0 ≤ 536870911
    · rw [if_pos c4] at H
      have c4b0 := decide_eq_true c4; clear c4
      by_cases c5 : a1 = 0
      · rw [if_pos c5] at H
        have c5b0 := beq_iff_eq.mpr c5; have c5b1 := bne_eq_false_iff_eq.mpr c5; clear c5; obtain rfl := Option.some.inj H
        go_enter Tryz.func93, Tryz.ntmps93
        go_wp2
        go_ret
        exact ⟨by first | rfl | (simp; done) | (simp [*]; done), by repeat (first | exact Drawn0.refl _ | apply Drawn0.step)⟩
      · rw [if_neg c5] at H
        have c5b0 := beq_eq_false_iff_ne.mpr c5; have c5b1 := bne_iff_ne.mpr c5
        by_cases c6 : a1 = 1
        · rw [if_pos c6] at H
          have c6b0 := beq_iff_eq.mpr c6; have c6b1 := bne_eq_false_iff_eq.mpr c6; clear c6; obtain rfl := Option.some.inj H
          go_enter Tryz.func93, Tryz.ntmps93
          go_wp2
          go_ret
          exact ⟨by first | rfl | (simp; done) | (simp [*]; done), by repeat (first | exact Drawn0.refl _ | apply Drawn0.step)⟩
        · rw [if_neg c6] at H
          have c6b0 := beq_eq_false_iff_ne.mpr c6; have c6b1 := bne_iff_ne.mpr c6
          by_cases c7 : a1 = 2
          · rw [if_pos c7] at H
            have c7b0 := beq_iff_eq.mpr c7; have c7b1 := bne_eq_false_iff_eq.mpr c7; clear c7; obtain rfl := Option.some.inj H
            go_enter Tryz.func93, Tryz.ntmps93
            go_wp2
            go_ret
            exact ⟨by first | rfl | (simp; done) | (simp [*]; done), by repeat (first | exact Drawn0.refl _ | apply Drawn0.step)⟩
          · rw [if_neg c7] at H
            have c7b0 := beq_eq_false_iff_ne.mpr c7; have c7b1 := bne_iff_ne.mpr c7; obtain rfl := Option.some.inj H
            go_enter Tryz.func93, Tryz.ntmps93
            go_wp2
            go_ret
            exact ⟨by first | rfl | (simp; done) | (simp [*]; done), by repeat (first | exact Drawn0.refl _ | apply Drawn0.step)⟩
    · rw [if_neg c4] at H
      have c4b0 := decide_eq_false c4; clear c4; obtain rfl := Option.some.inj H
      go_enter Tryz.func93, Tryz.ntmps93
      go_wp2
      go_ret
      exact ⟨by first | rfl | (simp; done) | (simp [*]; done), by repeat (first | exact Drawn0.refl _ | apply Drawn0.step)⟩
  · rw [if_neg c3] at H
    have c3b0 := decide_eq_false c3; clear c3; obtain rfl := Option.some.inj H
    go_enter Tryz.func93, Tryz.ntmps93
    go_wp2
    go_ret
    exact ⟨by first | rfl | (simp; done) | (simp [*]; done), by repeat (first | exact Drawn0.refl _ | apply Drawn0.step)⟩
def wire_laid.l0 : Nat → Int → List Int → Int → Int → Option (ByteArray)
  | 0, _, _, _, _ => none
  | k + 1, x0, x5, x7, x8 => if x8 < x7 then (if 0 ≤ (wrap64 (8 * x8)) then (if x5.length < 140737488355328 then (wire_laid.l0 k x0 (x5 ++ [(shr .u64 x0 (wrap64 (8 * x8))) % 256]) x7 (wrap64 (x8 + 1))) else (none)) else (none)) else (some (strOfNums x5))
def wire_laid.f (k : Nat) (a0 : Int) (a1 : Int) : Option (ByteArray) := wire_laid.l0 k a0 ([] : List Int) a1 0
set_option maxHeartbeats 8000000 in
set_option maxRecDepth 100000 in
theorem wire_laid.calls (k : Nat) (a0 : Int) (a1 : Int) (r : ByteArray) (w : World) (h : wire_laid.f k a0 a1 = some r) :
    Calls Tryz.prog 94 #[.int .u64 a0, .int .i64 a1] w fun e w' => e = .returned (.string r) ∧ Below w.heap.size w w' := by
  have HB := mk0 (Below.refl w.heap.size w); have H : (wire_laid.l0 k a0 ([] : List Int) a1 0) = some r := h; clear h; have H' := mk0 H; clear H
  go_enter Tryz.func94, Tryz.ntmps94
  go_wp2
  go_loopg [5, 8] k (fun kq v5 v8 w' => ∃ (x5_1 : List Int) (x8_1 : Int), v8 = .int .i64 x8_1 ∧ Aside0 (wire_laid.l0 kq a0 x5_1 a1 x8_1 = some r) ∧ Aside0 (kq ≤ k) ∧ Aside0 (Kd.R (Kd.int .u8) 5 w' w.heap.size (fun _ => True) v5 x5_1) ∧ Aside0 (Below w.heap.size w w'))
  case atStart => exact ⟨(([] : List Int)), (0), cl0, H', ⟨Nat.le_refl _⟩, ⟨by first | exact Kd.R_nil _ _ _ _ _ | exact Kd.N_nil _ _ _ _ _ | exact Kd.V_nil _ _ _ _ _ | exact Kd.Q_nil _ _ _ _ _ | exact Kd.S_nil _ _ _ _ _⟩, ⟨hbA HB⟩⟩
  case round =>
    clear H'; obtain ⟨x5_1, x8_1, rfl, HA, HK1, HO_5, HB⟩ := hrel
    cases gk with
    | zero => exact absurd HA.out (by simp [wire_laid.l0])
    | succ k1 =>
      have H := HA.out; clear HA
      simp only [wire_laid.l0] at H
      by_cases c3 : x8_1 < a1
      · rw [if_pos c3] at H
        have c3b0 := decide_eq_true c3; clear c3; obtain ⟨ji4, hji4⟩ : ∃ j_ : Int, (wrap64 (8 * x8_1)) = j_ := ⟨_, rfl⟩; replace H : (if 0 ≤ (ji4) then (if x5_1.length < 140737488355328 then (wire_laid.l0 k1 a0 (x5_1 ++ [(shr .u64 a0 (ji4)) % 256]) a1 (wrap64 (x8_1 + 1))) else (none)) else (none)) = some r := by first | (rw [hji4] at H; exact H) | (simp only [hji4] at H ⊢; exact H)
        have hji4w : (IntKind.i64.wrap (8 * x8_1)) = ji4 := (i64_w _).trans hji4
        by_cases c5 : 0 ≤ (ji4)
        · rw [if_pos c5] at H
          have c5b0 := eq_true c5; have c5b1 := decide_eq_true c5; clear c5; obtain ⟨ji6, hji6⟩ : ∃ j_ : Int, (shr .u64 a0 (ji4)) = j_ := ⟨_, rfl⟩; replace H : (if x5_1.length < 140737488355328 then (wire_laid.l0 k1 a0 (x5_1 ++ [(ji6) % 256]) a1 (wrap64 (x8_1 + 1))) else (none)) = some r := by first | (rw [hji6] at H; exact H) | (simp only [hji6] at H ⊢; exact H)
          have hji6_ : (a0 / 2 ^ min (ji4).toNat 64) = ji6 := hji6; have hji6z : (ji4) ≤ 64 → (a0 / 2 ^ (ji4).toNat) = ji6 := shr_small hji6
          by_cases c7 : x5_1.length < 140737488355328
          · rw [if_pos c7] at H
            have LMc7 := mk0 c7; clear c7; obtain ⟨y101, hy101⟩ : ∃ y_ : List Int, y_ = (x5_1 ++ [(ji6) % 256]) := ⟨_, rfl⟩; replace H : (wire_laid.l0 k1 a0 y101 a1 (wrap64 (x8_1 + 1))) = some r := by first | (rw [hy101]; with_reducible exact H) | (have H2_ := (Option.bind_some _ _).symm.trans H; rw [hy101]; with_reducible exact H2_) | (have H2_ := (Option.bind_some _ _).symm.trans H; with_reducible exact H2_) | with_reducible exact H | (rw [hy101]; exact H) | exact H
            have Ny101 := mk0 hy101; clear hy101; have H' := mk0 H; clear H
            go_wp2_with (first | ((with_reducible refine gate_builtin (b := .append) (xs := #[.tmp 11, .tmp 17]) rfl ?_); at_builtin; refine Kd.R_append (Kd.int .u8) (w0 := w) w.heap.size rfl (.tmp 11) (.tmp 17) 80 5 (.int .u8 0) 1 rfl Tryz.underlying80 info5 rfl (by decide) (by omega) u5 x5_1 ((ji6) % 256) [.int .u8 ((ji6) % 256)] (fun _ => True) (fun _ => False) rfl rfl ?aP (fun _ hk => hk.elim) ?aF ?aO ?aB ?aS ?aL ?_; (case aP => exact rfl); (case aB => exact (hbA HB)); (case aF => exact (fun _ _ => trivial)); (case aO => exact (by (with_reducible repeat (first | apply Kd.R_alloc | apply Kd.R_drewN | apply Kd.R_drew)); exact HO_5.out)); (case aS => exact (below_size (hbA HB))); (case aL => have := LMc7.out; omega); intro v102 w8 ho hb hg hat; rw [← Ny101.out] at ho; replace HB := mk0 hb; have HO103 := mk0 ho; clear HO_5; clear ho hb hg hat))
            go_roundg k1
            case measure => have := HK1.out; omega
            case rel => exact ⟨(y101), (wrap64 (x8_1 + 1)), cl0, H', cl2 HK1, ⟨by (with_reducible repeat (first | apply Kd.R_alloc | apply Kd.R_drewN | apply Kd.R_drew)); exact HO103.out⟩, ⟨hbA HB⟩⟩
          · rw [if_neg c7] at H; exact ne0 H
        · rw [if_neg c5] at H; exact ne0 H
      · rw [if_neg c3] at H
        have c3b0 := decide_eq_false c3; clear c3; obtain rfl := Option.some.inj H; have hcv9 := own_string (P := Tryz.prog) Tryz.underlying80 Tryz.underlying5 Tryz.underlying9 (Kd.own_of_R HO_5.out)
        go_wp2
        go_ret
        exact ⟨cl3, hbA HB⟩
end Go.Proofs.YtgmggompdidcoaaGreatDoor.X
