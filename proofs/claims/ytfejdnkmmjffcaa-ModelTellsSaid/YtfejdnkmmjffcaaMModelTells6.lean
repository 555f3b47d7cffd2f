import Derived.Test.YtfejdnkmmjffcaaMModelTells3
import Derived.Test.YtfejdnkmmjffcaaMModelTells4
import Derived.Test.YtfejdnkmmjffcaaMModelTells5
import Derived.Laws.FloatBits
import Derived.WalkLawsBesides
import Derived.Laws.Externs
namespace Go.Proofs.Ytfejdnkmmjffcaa.X
open Go.RowKit Go.Proofs.YtfejdnkmmjffcaaW.PrintWords Go.Proofs.YtfejdnkmmjffcaaW.PrintLast Go.Proofs.YtfejdnkmmjffcaaW.PrintMore
attribute [local go_sem] max2_int min2_int max_two min_two max_three min_three max_four min_four
set_option linter.unusedVariables false
set_option linter.unusedSimpArgs false
def agatelaw05_Awake.f : Option Bool := some true
theorem C_lit1 (w : World) (a : Int) (T : Nat) : Kd.C (Kd.int .i64) (w.alloc (Obj.cells #[.int .i64 a] T)) (some ⟨w.heap.size, 0, none⟩) 1 [a] :=
  Kd.C_of_reads (d := (0 : Int)) (h1 := fun _ => rfl) ⟨rfl, by decide, fun _ => ⟨_, rfl, fun j hj => by
    have hj0 : j = 0 := by omega
    subst hj0
    exact (blk_cell (blk_new w _) 0).trans rfl⟩⟩
theorem C_lit2 (w : World) (a b : Int) (T : Nat) : Kd.C (Kd.int .i64) (w.alloc (Obj.cells #[.int .i64 a, .int .i64 b] T)) (some ⟨w.heap.size, 0, none⟩) 2 [a, b] :=
  Kd.C_of_reads (d := (0 : Int)) (h1 := fun _ => rfl) ⟨rfl, by decide, fun _ => ⟨_, rfl, fun j hj => by
    rcases (show j = 0 ∨ j = 1 by omega) with rfl | rfl
    · exact (blk_cell (blk_new w _) 0).trans rfl
    · exact (blk_cell (blk_new w _) 1).trans rfl⟩⟩
theorem law05_below {w w' : World} (h : Drawn0 w w') : Below w.heap.size w w' := by
  obtain ⟨n, rfl⟩ := h
  exact pw_below_drewN (Below.refl _ _) n
set_option maxHeartbeats 1000000 in
set_option maxRecDepth 100000 in
theorem agatelaw05_Awake.calls (r : Bool) (w : World) (h : agatelaw05_Awake.f = some r) : Calls Try.prog 37 #[] w fun e w' => e = .returned (.bool r) ∧ Below w.heap.size w w' := by
  obtain rfl := Option.some.inj h
  clear h
  go_enter Try.func37, Try.ntmps37
  go_wp2_with (first | fail)
  have HB := mk0 (below_alloc (below_alloc (Below.refl w.heap.size w) (Obj.cells #[.int .i64 3, .int .i64 1] 2)) (Obj.cells #[.int .i64 4] 2))
  have e1 := C_lit1 (w.alloc (Obj.cells #[.int .i64 3, .int .i64 1] 2)) 4 2
  rw [alloc_size] at e1
  refine (Broadcast_ex _ 2 _ 1 _ (Kd.C_alloc (C_lit2 w 3 1 2) _) (Nat.le_refl _) e1 (Nat.le_refl _)).mono ?_
  rintro e w1 ⟨v, rfl, q, hb⟩
  obtain ⟨A, c, rfl⟩ := Kd.R_slice q
  have HL := mk0 (Kd.R_reads' q).2
  replace HB := hbS HB hb
  clear q hb e1
  go_wp2_with (first | fail)
  refine (agatelaw03_Ints_s.calls A c [3, 4] _ 2 [3, 4] true _ (Kd.C_alloc HL.out.2 _) HL.out.1 (C_lit2 w1 3 4 2) (Nat.le_refl _) (by decide +kernel)).mono ?_
  rintro e w2 ⟨rfl, hb⟩
  have hb2 := law05_below hb
  replace HB := mk0 (below_step (below_alloc HB.out (Obj.cells #[.int .i64 3, .int .i64 4] 2)) hb2)
  clear hb hb2 HL
  go_wp2_with (first | fail)
  have e1 := C_lit2 (w2.alloc (Obj.cells #[.int .i64 3, .int .i64 1] 2)) 2 3 2
  rw [alloc_size] at e1
  refine (Back_ex _ 2 _ 2 _ (Kd.C_alloc (C_lit2 w2 3 1 2) _) (Nat.le_refl _) e1 (Nat.le_refl _)).mono ?_
  rintro e w3 ⟨v, rfl, q, hb⟩
  obtain ⟨A', c', rfl⟩ := Kd.R_slice q
  have HL := mk0 (Kd.R_reads' q).2
  replace HB := mk0 (below_step (below_alloc (below_alloc HB.out (Obj.cells #[.int .i64 3, .int .i64 1] 2)) (Obj.cells #[.int .i64 2, .int .i64 3] 2)) hb)
  clear q hb e1
  go_wp2_with (first | fail)
  refine (agatelaw03_Ints_s.calls A' c' [2, 0] _ 2 [2, 0] true _ (Kd.C_alloc HL.out.2 _) HL.out.1 (C_lit2 w3 2 0 2) (Nat.le_refl _) (by decide +kernel)).mono ?_
  rintro e w4 ⟨rfl, hb⟩
  have hb2 := law05_below hb
  replace HB := mk0 (below_step (below_alloc HB.out (Obj.cells #[.int .i64 2, .int .i64 0] 2)) hb2)
  clear hb hb2 HL
  go_wp2_with (first | fail)
  go_ret
  exact ⟨rfl, HB.out⟩
theorem log2_mul_pow (m j : Nat) (h : m ≠ 0) : (m * 2 ^ j).log2 = m.log2 + j := by
  have h1 : m * 2 ^ j ≠ 0 := Nat.mul_ne_zero h (Nat.pos_iff_ne_zero.1 (Nat.two_pow_pos j))
  rw [Nat.log2_eq_iff h1, Nat.pow_add, show m.log2 + j + 1 = (m.log2 + 1) + j by omega, Nat.pow_add]
  have := (Nat.log2_eq_iff h).1 rfl
  exact ⟨Nat.mul_le_mul_right _ this.1, (Nat.mul_lt_mul_right (Nat.two_pow_pos j)).2 this.2⟩
theorem cut_nought (way : Ieee.Toward) (s : Bool) (n : Nat) : way.cut s n 0 = n := by
  unfold Ieee.Toward.cut
  have e : 1 <<< min 0 (n.log2 + 2) = 1 := by rw [Nat.zero_min]; rfl
  simp only [e, Nat.div_one, Nat.mod_one]
  cases way <;> simp
theorem cut_even (s : Bool) (n j d : Nat) (hn : n ≠ 0) : Ieee.Toward.even.cut s (n * 2 ^ j) (d + j) = Ieee.Toward.even.cut s n d := by
  have hj : 0 < 2 ^ j := Nat.two_pow_pos j
  unfold Ieee.Toward.cut
  rw [log2_mul_pow n j hn, show min (d + j) (n.log2 + j + 2) = min d (n.log2 + 2) + j by omega, Nat.one_shiftLeft, Nat.one_shiftLeft, Nat.pow_add]
  generalize 2 ^ min d (n.log2 + 2) = g
  simp only [Nat.mul_div_mul_right _ _ hj, Nat.mul_mod_mul_right]
  congr 2
  have e1 : (g * 2 ^ j < 2 * (n % g * 2 ^ j)) ↔ (g < 2 * (n % g)) := by
    rw [← Nat.mul_assoc]; exact Nat.mul_lt_mul_right hj
  have e2 : (g * 2 ^ j = 2 * (n % g * 2 ^ j)) ↔ (g = 2 * (n % g)) := by
    rw [← Nat.mul_assoc]; exact ⟨fun h => Nat.eq_of_mul_eq_mul_right hj h, fun h => by rw [← h]⟩
  rw [decide_eq_decide.2 e1]
  congr 2
  rw [Bool.eq_iff_iff, beq_iff_eq, beq_iff_eq]; exact e2
theorem cut_back (s : Bool) (n j : Nat) (hn : n ≠ 0) : Ieee.Toward.even.cut s (n * 2 ^ j) j = n := by
  have := cut_even s n j 0 hn
  rw [Nat.zero_add, cut_nought] at this; exact this
theorem nearest_scale (f : Ieee.Format) (s : Bool) (m j : Nat) (p : Int) : f.nearest s (m * 2 ^ j) p = f.nearest s m (p + j) := by
  by_cases hm : m = 0
  · subst hm; rw [Nat.zero_mul]; unfold Ieee.Format.nearest; rw [if_pos rfl, if_pos rfl]
  have hm' : m * 2 ^ j ≠ 0 := Nat.mul_ne_zero hm (Nat.pos_iff_ne_zero.1 (Nat.two_pow_pos j))
  unfold Ieee.Format.nearest
  rw [if_neg hm, if_neg hm', log2_mul_pow m j hm, show p + ((m.log2 + j : Nat) : Int) = p + j + (m.log2 : Int) by omega]
  generalize max (p + j + (m.log2 : Int) - f.fractionBits) f.leastPlace = last
  have key : Ieee.Toward.even.cut s ((m * 2 ^ j) <<< (p - last).toNat) (last - p).toNat = Ieee.Toward.even.cut s (m <<< (p + j - last).toNat) (last - (p + j)).toNat := by
    rw [Nat.shiftLeft_eq, Nat.shiftLeft_eq]
    by_cases h1 : last ≤ p
    · rw [show (last - p).toNat = 0 by omega, show (last - (p + j)).toNat = 0 by omega, cut_nought, cut_nought, Nat.mul_assoc, ← Nat.pow_add]
      congr 2; omega
    · by_cases h2 : p + j ≤ last
      · rw [show (p - last).toNat = 0 by omega, show (p + j - last).toNat = 0 by omega, Nat.pow_zero, Nat.mul_one, Nat.mul_one, show (last - p).toNat = (last - (p + j)).toNat + j by omega, cut_even s m j _ hm]
      · rw [show (p - last).toNat = 0 by omega, show (last - (p + j)).toNat = 0 by omega, Nat.pow_zero, Nat.mul_one, cut_nought]
        have e : m * 2 ^ j = (m * 2 ^ (p + j - last).toNat) * 2 ^ (last - p).toNat := by
          rw [Nat.mul_assoc, ← Nat.pow_add]; congr 2; omega
        rw [e, cut_back]
        exact Nat.mul_ne_zero hm (Nat.pos_iff_ne_zero.1 (Nat.two_pow_pos _))
  simp only [key]
def Num (f : Ieee.Format) (b : Nat) (s : Bool) (V : Nat) : Prop := ∃ m p, f.read b = .number s m p ∧ f.leastPlace ≤ p ∧ m * 2 ^ (p - f.leastPlace).toNat = V
theorem nearest_value (f : Ieee.Format) (s : Bool) (m k : Nat) (p q : Int) (hp : f.leastPlace ≤ p) (hq : f.leastPlace ≤ q) (h : m * 2 ^ (p - f.leastPlace).toNat = k * 2 ^ (q - f.leastPlace).toNat) : f.nearest s m p = f.nearest s k q := by
  by_cases hpq : p ≤ q
  · have e : m = k * 2 ^ (q - p).toNat := by
      refine Nat.eq_of_mul_eq_mul_right (Nat.two_pow_pos (p - f.leastPlace).toNat) ?_
      rw [h, Nat.mul_assoc, ← Nat.pow_add]; congr 2; omega
    rw [e, nearest_scale]; congr 1; omega
  · have e : k = m * 2 ^ (p - q).toNat := by
      refine Nat.eq_of_mul_eq_mul_right (Nat.two_pow_pos (q - f.leastPlace).toNat) ?_
      rw [← h, Nat.mul_assoc, ← Nat.pow_add]; congr 2; omega
    rw [e, nearest_scale]; congr 1; omega
theorem read_word (f : Ieee.Format) (s : Bool) (r : Nat) (h : r < f.signWeight) : (f.word s r / f.signWeight % 2 == 1) = s ∧ f.word s r % f.signWeight = r := by
  have hw : 0 < f.signWeight := Nat.two_pow_pos _
  unfold Ieee.Format.word
  cases s
  · rw [if_neg (by simp), Nat.div_eq_of_lt h, Nat.mod_eq_of_lt h]; exact ⟨rfl, rfl⟩
  · rw [if_pos rfl, Nat.add_div_left _ hw, Nat.div_eq_of_lt h, Nat.add_mod_left, Nat.mod_eq_of_lt h]; exact ⟨rfl, rfl⟩
theorem word_zero (f : Ieee.Format) (s : Bool) (p : Int) : f.nearest s 0 p = f.word s 0 := by unfold Ieee.Format.nearest; rw [if_pos rfl]
theorem num_zero (f : Ieee.Format) (s : Bool) : Num f (f.word s 0) s 0 := by
  obtain ⟨h1, h2⟩ := read_word f s 0 (Nat.two_pow_pos _)
  refine ⟨0, f.leastPlace, ?_, Int.le_refl _, Nat.zero_mul _⟩
  unfold Ieee.Format.read
  rw [h1, h2]
  exact if_pos (Nat.two_pow_pos _)
theorem num_nearest (f : Ieee.Format) (s : Bool) (m : Nat) (p : Int) (hp : f.leastPlace ≤ p) (hm : m < 2 ^ (f.fractionBits + 1)) (ht : (p + m.log2 - f.fractionBits - f.leastPlace).toNat + 3 ≤ 2 ^ f.exponentBits) :
    Num f (f.nearest s m p) s (m * 2 ^ (p - f.leastPlace).toNat) := by
  by_cases h0 : m = 0
  · subst h0; rw [word_zero, Nat.zero_mul]; exact num_zero f s
  have hl := (Nat.log2_eq_iff h0).1 rfl
  have hlf : m.log2 ≤ f.fractionBits := by
    have : 2 ^ m.log2 < 2 ^ (f.fractionBits + 1) := Nat.lt_of_le_of_lt hl.1 hm
    have := (Nat.pow_lt_pow_iff_right (by decide : 1 < 2)).1 this
    omega
  unfold Ieee.Format.nearest
  rw [if_neg h0]
  have hlast : max (p + (m.log2 : Int) - f.fractionBits) f.leastPlace ≤ p := by omega
  generalize hL : max (p + (m.log2 : Int) - f.fractionBits) f.leastPlace = last at hlast ⊢
  have hll : f.leastPlace ≤ last := by omega
  simp only [show (last - p).toNat = 0 by omega, cut_nought, Nat.shiftLeft_eq]
  have hB : f.binade = 2 ^ f.fractionBits := rfl
  have hK2 : m * 2 ^ (p - last).toNat < 2 * f.binade := by
    have h1 : m * 2 ^ (p - last).toNat < 2 ^ (m.log2 + 1) * 2 ^ (p - last).toNat := (Nat.mul_lt_mul_right (Nat.two_pow_pos _)).2 hl.2
    rw [← Nat.pow_add] at h1
    have h2 : 2 ^ (m.log2 + 1 + (p - last).toNat) ≤ 2 ^ (f.fractionBits + 1) := Nat.pow_le_pow_right (by decide) (by omega)
    rw [Nat.pow_succ] at h2
    rw [hB]; omega
  have hK1 : f.leastPlace < last → f.binade ≤ m * 2 ^ (p - last).toNat := by
    intro h
    have h1 : 2 ^ m.log2 * 2 ^ (p - last).toNat ≤ m * 2 ^ (p - last).toNat := Nat.mul_le_mul_right _ hl.1
    rw [← Nat.pow_add, show m.log2 + (p - last).toNat = f.fractionBits by omega] at h1
    exact h1
  have hV : m * 2 ^ (p - f.leastPlace).toNat = (m * 2 ^ (p - last).toNat) * 2 ^ (last - f.leastPlace).toNat := by
    rw [Nat.mul_assoc, ← Nat.pow_add]; congr 2; omega
  rw [hV]
  have hq : (last - f.leastPlace).toNat + 3 ≤ 2 ^ f.exponentBits := by omega
  generalize hKe : m * 2 ^ (p - last).toNat = K at *
  generalize hqe : (last - f.leastPlace).toNat = q at *
  have hBp : 0 < f.binade := Nat.two_pow_pos _
  have hr : q * f.binade + K < f.infRung := by
    unfold Ieee.Format.infRung
    have h1 : (q + 2) * f.binade ≤ (2 ^ f.exponentBits - 1) * f.binade := Nat.mul_le_mul_right _ (by omega)
    rw [Nat.add_mul] at h1; omega
  rw [Nat.min_eq_left (Nat.le_of_lt hr)]
  have hsw := f.infRung_lt
  obtain ⟨r1, r2⟩ := read_word f s (q * f.binade + K) (by omega)
  unfold Num Ieee.Format.read
  rw [r1, r2]
  by_cases hqz : q = 0
  · subst hqz
    rw [Nat.zero_mul, Nat.zero_add] at hr ⊢
    by_cases hs : K < f.binade
    · exact ⟨K, f.leastPlace, if_pos hs, Int.le_refl _, by rw [Int.sub_self]; rfl⟩
    · refine ⟨f.binade + K % f.binade, f.leastPlace + (K / f.binade - 1 : Nat), ?_, by omega, ?_⟩
      · show (if K < f.binade then _ else if K < f.infRung then _ else _) = _
        rw [if_neg hs, if_pos hr]
      · have hd : K / f.binade = 1 := by
          rw [Nat.div_eq_iff hBp]; omega
        have := Nat.div_add_mod K f.binade
        rw [hd, Nat.mul_one] at this
        rw [hd, this, show (f.leastPlace + ((1 - 1 : Nat) : Int) - f.leastPlace).toNat = 0 by omega]
  · have hK := hK1 (by omega)
    have hd : (q * f.binade + K) / f.binade = q + 1 := by
      rw [Nat.mul_comm, Nat.mul_add_div hBp]
      have : K / f.binade = 1 := by rw [Nat.div_eq_iff hBp]; omega
      omega
    have hm' : f.binade + (q * f.binade + K) % f.binade = K := by
      rw [Nat.mul_comm, Nat.mul_add_mod]
      have h1 : K / f.binade = 1 := by rw [Nat.div_eq_iff hBp]; omega
      have := Nat.div_add_mod K f.binade
      rw [h1, Nat.mul_one] at this; exact this
    refine ⟨f.binade + (q * f.binade + K) % f.binade, f.leastPlace + ((q * f.binade + K) / f.binade - 1 : Nat), ?_, by omega, ?_⟩
    · show (if q * f.binade + K < f.binade then _ else if q * f.binade + K < f.infRung then _ else _) = _
      have : f.binade ≤ q * f.binade := Nat.le_mul_of_pos_left _ (by omega)
      rw [if_neg (by omega), if_pos hr]
    · rw [hm', hd, show (f.leastPlace + ((q + 1 - 1 : Nat) : Int) - f.leastPlace).toNat = q by omega]
def sgn (s : Bool) (V : Nat) : Int := if s then -(V : Int) else (V : Int)
theorem sgn_mul (s : Bool) (a k : Nat) : sgn s (a * k) = sgn s a * (k : Int) := by
  unfold sgn; cases s <;> simp [Int.neg_mul]
theorem signed_sgn (s : Bool) (m a : Nat) : Ieee.signed s m a = sgn s (m * 2 ^ a) := by
  unfold Ieee.signed sgn; rw [Nat.shiftLeft_eq]
theorem sgn_abs (s : Bool) (V : Nat) : (sgn s V).natAbs = V := by unfold sgn; cases s <;> simp
theorem compare_scale (a b : Int) (k : Nat) (hk : 0 < k) : compare (a * (k : Int)) (b * (k : Int)) = compare a b := by
  have hk' : (0 : Int) < (k : Int) := by omega
  show compareOfLessAndEq _ _ = compareOfLessAndEq _ _
  unfold compareOfLessAndEq
  by_cases h1 : a < b
  · rw [if_pos h1, if_pos (Int.mul_lt_mul_of_pos_right h1 hk')]
  · rw [if_neg h1, if_neg (fun g => h1 (Int.lt_of_mul_lt_mul_right g (Int.le_of_lt hk')))]
    by_cases h2 : a = b
    · rw [if_pos h2, if_pos (by rw [h2])]
    · rw [if_neg h2, if_neg (fun g => h2 (Int.eq_of_mul_eq_mul_right (by omega) g))]
theorem num_order {f : Ieee.Format} {x y : Nat} {s t : Bool} {V W : Nat} (hx : Num f x s V) (hy : Num f y t W) : f.order x y = some (compare (sgn s V) (sgn t W)) := by
  obtain ⟨m, i, e1, hi, rfl⟩ := hx
  obtain ⟨n, j, e2, hj, rfl⟩ := hy
  unfold Ieee.Format.order
  rw [e1, e2]
  show some (compare (Ieee.signed s m (i - min i j).toNat) (Ieee.signed t n (j - min i j).toNat)) = _
  rw [signed_sgn, signed_sgn, ← compare_scale _ _ (2 ^ (min i j - f.leastPlace).toNat) (Nat.two_pow_pos _), ← sgn_mul, ← sgn_mul, Nat.mul_assoc, Nat.mul_assoc, ← Nat.pow_add, ← Nat.pow_add]
  rw [show (i - min i j).toNat + (min i j - f.leastPlace).toNat = (i - f.leastPlace).toNat by omega, show (j - min i j).toNat + (min i j - f.leastPlace).toNat = (j - f.leastPlace).toNat by omega]
theorem read_small {f : Ieee.Format} {b : Nat} {s : Bool} {m : Nat} {p : Int} (h : f.read b = .number s m p) : m < 2 * f.binade ∧ f.leastPlace ≤ p := by
  have hB : 0 < f.binade := Nat.two_pow_pos _
  unfold Ieee.Format.read at h
  dsimp only at h
  split at h
  · cases h; rename_i hr; exact ⟨by omega, Int.le_refl _⟩
  · split at h
    · cases h
      have := Nat.mod_lt (b % f.signWeight) hB
      exact ⟨by omega, by omega⟩
    · split at h <;> cases h
theorem dl : Ieee.double.leastPlace = -1074 := by decide
theorem sl : Ieee.single.leastPlace = -149 := by decide
def Ubig : Nat := 2 ^ 1074
theorem Ubig_eq : Ubig = 2 ^ 1074 := by unfold Ubig; rfl
def dI (s : Bool) (k : Nat) : Nat := Ieee.double.nearest s k 0
def IntF (x : Nat) (s : Bool) (k : Nat) : Prop := Num Ieee.double x s (k * Ubig)
theorem dI_int (s : Bool) (k : Nat) (hk : k < 9007199254740992) : IntF (dI s k) s k := by
  have := num_nearest Ieee.double s k 0 (by rw [dl]; decide) (by show k < 2 ^ 53; exact hk) (by
    rw [dl]
    have hl : k.log2 ≤ 52 := by
      by_cases h0 : k = 0
      · subst h0; decide
      · have := (Nat.log2_lt h0).2 (show k < 2 ^ 53 from hk); omega
    show ((0 : Int) + (k.log2 : Int) - ((52 : Nat) : Int) - (-1074)).toNat + 3 ≤ 2 ^ 11
    omega)
  rw [dl] at this
  rw [show ((0 : Int) - (-1074)).toNat = 1074 from rfl, ← Ubig_eq] at this
  exact this
theorem dI_of {s : Bool} {m k : Nat} {p : Int} (hp : -1074 ≤ p) (h : m * 2 ^ (p + 1074).toNat = k * Ubig) : Ieee.double.nearest s m p = dI s k :=
  nearest_value Ieee.double s m k p 0 (by rw [dl]; exact hp) (by rw [dl]; decide) (by rw [dl, Int.sub_neg, h, show ((0 : Int) - (-1074)).toNat = 1074 from rfl, ← Ubig_eq])
theorem Ubig_pos : 0 < Ubig := by rw [Ubig_eq]; exact Nat.two_pow_pos 1074
theorem cut_zero (s : Bool) (n d : Nat) : Ieee.Toward.zero.cut s n d = n / 2 ^ d := by
  unfold Ieee.Toward.cut
  show n / 1 <<< min d (n.log2 + 2) + 0 = _
  rw [Nat.add_zero, Nat.one_shiftLeft]
  by_cases h : d ≤ n.log2 + 2
  · rw [Nat.min_eq_left h]
  · rw [Nat.min_eq_right (by omega)]
    have h1 : n < 2 ^ (n.log2 + 2) := by
      by_cases h0 : n = 0
      · subst h0; exact Nat.two_pow_pos _
      · have := ((Nat.log2_eq_iff h0).1 rfl).2
        exact Nat.lt_of_lt_of_le this (Nat.pow_le_pow_right (by decide) (by omega))
    have h2 : n < 2 ^ d := Nat.lt_of_lt_of_le h1 (Nat.pow_le_pow_right (by decide) (by omega))
    rw [Nat.div_eq_of_lt h1, Nat.div_eq_of_lt h2]
def truncB (x : Nat) : Nat := Ieee.double.write ((Ieee.double.read x).integral .zero)
def signB (x : Nat) : Bool := decide (x % 18446744073709551616 ≥ 9223372036854775808)
def partE (x : Nat) : Bool :=
  (Ieee.double.order x 13920626448202203136 == some .gt || Ieee.double.order x 13920626448202203136 == some .eq) &&
  ((Ieee.double.order x 4697254411347427328 == some .lt || Ieee.double.order x 4697254411347427328 == some .eq) &&
  (Ieee.double.order x (truncB x) == some .eq && !(Ieee.double.order x 0 == some .eq && signB x)))
theorem cN : IntF 13920626448202203136 true 1048576 := by
  have h := dI_int true 1048576 (by decide)
  rwa [show dI true 1048576 = 13920626448202203136 by decide +kernel] at h
theorem cP : IntF 4697254411347427328 false 1048576 := by
  have h := dI_int false 1048576 (by decide)
  rwa [show dI false 1048576 = 4697254411347427328 by decide +kernel] at h
theorem cZ : IntF 0 false 0 := by
  have h := dI_int false 0 (by decide)
  rwa [show dI false 0 = 0 by decide +kernel] at h
theorem trunc_num {x : Nat} {s : Bool} {V : Nat} (h : Num Ieee.double x s V) : truncB x = dI s (V / Ubig) := by
  obtain ⟨m, p, h1, h2, rfl⟩ := h
  unfold truncB
  rw [h1]
  show Ieee.double.nearest s (Ieee.Toward.zero.cut s (m <<< p.toNat) (-p).toNat) 0 = _
  rw [cut_zero, Nat.shiftLeft_eq, dl, Int.sub_neg]
  rw [dl] at h2
  unfold dI
  congr 1
  by_cases hp : 0 ≤ p
  · rw [show (-p).toNat = 0 by omega, Nat.pow_zero, Nat.div_one, show (p + 1074).toNat = p.toNat + 1074 by omega, Nat.pow_add, ← Ubig_eq, ← Nat.mul_assoc, Nat.mul_div_cancel _ Ubig_pos]
  · have e : Ubig = 2 ^ (-p).toNat * 2 ^ (p + 1074).toNat := by
      rw [← Nat.pow_add, Ubig_eq, show (-p).toNat + (p + 1074).toNat = 1074 by omega]
    rw [e, Nat.mul_div_mul_right _ _ (Nat.two_pow_pos _), show p.toNat = 0 by omega, Nat.pow_zero, Nat.mul_one]
theorem sign_num {x : Nat} {s : Bool} {V : Nat} (hx : x < 18446744073709551616) (h : Num Ieee.double x s V) : signB x = s := by
  obtain ⟨m, p, h1, _, _⟩ := h
  have h2 : (x / Ieee.double.signWeight % 2 == 1) = s := by
    unfold Ieee.Format.read at h1
    dsimp only at h1
    split at h1
    · cases h1; rfl
    · split at h1
      · cases h1; rfl
      · split at h1 <;> cases h1
  have hw : Ieee.double.signWeight = 9223372036854775808 := by decide
  rw [hw] at h2
  unfold signB
  rw [← h2, Nat.mod_eq_of_lt hx, Bool.eq_iff_iff, decide_eq_true_iff, beq_iff_eq]
  omega
theorem cmp_gt (a b : Int) : (some (compare a b) == some Ordering.gt || some (compare a b) == some Ordering.eq) = decide (b ≤ a) := by
  show (some (compareOfLessAndEq a b) == some Ordering.gt || some (compareOfLessAndEq a b) == some Ordering.eq) = _
  unfold compareOfLessAndEq
  by_cases h : a < b
  · rw [if_pos h, decide_eq_false (by omega)]; rfl
  · rw [if_neg h, decide_eq_true (by omega)]
    split <;> rfl
theorem cmp_lt (a b : Int) : (some (compare a b) == some Ordering.lt || some (compare a b) == some Ordering.eq) = decide (a ≤ b) := by
  show (some (compareOfLessAndEq a b) == some Ordering.lt || some (compareOfLessAndEq a b) == some Ordering.eq) = _
  unfold compareOfLessAndEq
  by_cases h : a < b
  · rw [if_pos h, decide_eq_true (by omega)]; rfl
  · rw [if_neg h]
    by_cases h2 : a = b
    · rw [if_pos h2, decide_eq_true (by omega)]; rfl
    · rw [if_neg h2, decide_eq_false (by omega)]; rfl
theorem cmp_eq (a b : Int) : (some (compare a b) == some Ordering.eq) = decide (a = b) := by
  show (some (compareOfLessAndEq a b) == some Ordering.eq) = _
  unfold compareOfLessAndEq
  by_cases h : a < b
  · rw [if_pos h, decide_eq_false (by omega)]; rfl
  · rw [if_neg h]
    by_cases h2 : a = b
    · rw [if_pos h2, decide_eq_true h2]; rfl
    · rw [if_neg h2, decide_eq_false h2]; rfl
theorem order_inf {x y : Nat} {s t : Bool} {W : Nat} (hx : Ieee.double.read x = .infinity s) (hy : Num Ieee.double y t W) : Ieee.double.order x y = some (if s then .lt else .gt) := by
  obtain ⟨m, p, h1, _, _⟩ := hy
  unfold Ieee.Format.order
  rw [hx, h1]; rfl
theorem order_nan {x y : Nat} {s : Bool} {n : Nat} (hx : Ieee.double.read x = .nan s n) : Ieee.double.order x y = none := by
  unfold Ieee.Format.order
  rw [hx]; rfl
theorem sgn_inj (s : Bool) (V W : Nat) : sgn s V = sgn s W ↔ V = W := by unfold sgn; cases s <;> simp <;> omega
theorem sgn_le (s : Bool) (V K : Nat) : (sgn true K ≤ sgn s V ∧ sgn s V ≤ sgn false K) ↔ V ≤ K := by
  unfold sgn; cases s <;> simp <;> omega
theorem part_num {x : Nat} {s : Bool} {V : Nat} (hx : x < 18446744073709551616) (h : Num Ieee.double x s V) : partE x = (decide (V ≤ 1048576 * Ubig) && (decide (V / Ubig * Ubig = V) && (decide (V ≠ 0) || !s))) := by
  unfold partE
  rw [num_order h cN, num_order h cP, num_order h cZ, cmp_gt, cmp_lt, sign_num hx h]
  have hU := Ubig_pos
  by_cases hV : V ≤ 1048576 * Ubig
  · have hle := (sgn_le s V (1048576 * Ubig)).2 hV
    have ht : IntF (truncB x) s (V / Ubig) := by
      rw [trunc_num h]
      refine dI_int s _ ?_
      have : V / Ubig ≤ 1048576 := by rw [Nat.mul_comm] at hV; exact Nat.div_le_of_le_mul hV
      omega
    rw [num_order h ht, cmp_eq, cmp_eq, decide_eq_true hle.1, decide_eq_true hle.2, decide_eq_true hV, Bool.true_and, Bool.true_and, Bool.true_and]
    have e1 : (sgn s V = sgn s (V / Ubig * Ubig)) ↔ V / Ubig * Ubig = V := (sgn_inj s _ _).trans eq_comm
    have e2 : (sgn s V = sgn false (0 * Ubig)) ↔ V = 0 := by unfold sgn; cases s <;> simp <;> omega
    rw [decide_eq_decide.2 e1, decide_eq_decide.2 e2]
    by_cases h0 : V = 0
    · rw [decide_eq_true h0, decide_eq_false (fun g : V ≠ 0 => g h0), Bool.true_and, Bool.false_or]
    · rw [decide_eq_false h0, decide_eq_true (show V ≠ 0 from h0), Bool.false_and, Bool.true_or]; rfl
  · have hle : ¬ (sgn true (1048576 * Ubig) ≤ sgn s V ∧ sgn s V ≤ sgn false (1048576 * Ubig)) := fun g => hV ((sgn_le s V (1048576 * Ubig)).1 g)
    rw [decide_eq_false hV, Bool.false_and]
    by_cases g : sgn true (1048576 * Ubig) ≤ sgn s V
    · rw [decide_eq_true g, decide_eq_false (fun g2 => hle ⟨g, g2⟩)]; rfl
    · rw [decide_eq_false g]; rfl
theorem part_int {x : Nat} {s : Bool} {k : Nat} (hx : x < 18446744073709551616) (h : IntF x s k) : partE x = (decide (k ≤ 1048576) && (decide (k ≠ 0) || !s)) := by
  have hU := Ubig_pos
  rw [part_num hx h, Nat.mul_div_cancel _ hU]
  have e1 : k * Ubig ≤ 1048576 * Ubig ↔ k ≤ 1048576 := Nat.mul_le_mul_right_iff hU
  have e2 : k * Ubig ≠ 0 ↔ k ≠ 0 := ⟨fun g e => g (by rw [e, Nat.zero_mul]), fun g => Nat.mul_ne_zero g (by omega)⟩
  rw [decide_eq_decide.2 e1, decide_eq_decide.2 e2, decide_eq_true rfl, Bool.true_and]
theorem archTrunc_run (x : Nat) (h : (Ieee.double.read x).isNaN = false) (w : World) : (callFunc 76 #[.float .f64 x]).run Try.prog w = .ok (.value (.float .f64 (truncB x))) w := by
  rw [run_callFunc_extern Try.func76 (by kernel_rfl) (by kernel_rfl) (by kernel_rfl) (e := Extern.MathFloor.toIntegral "math.archTrunc" .zero) (by kernel_rfl)]
  have e : (Extern.MathFloor.toIntegral "math.archTrunc" .zero #[.float .f64 x]).run Try.prog w = .ok (.float .f64 (truncB x)) w := by
    show (match FloatKind.f64.decode x with
      | .nan s t =>
        if FloatKind.f64.format.quiet t = t then pure (Value.float .f64 x) else do
        let kept ← choose (.extern "math.Floor,Ceil,Trunc,RoundToEven.signallingNaN kept" 2)
        pure (Value.float .f64 (if kept == 1 then x else FloatKind.f64.encode (.nan s (FloatKind.f64.format.quiet t))))
      | d => pure (Value.float .f64 (FloatKind.f64.encode (d.integral .zero)))).run Try.prog w = _
    unfold truncB
    have hd : FloatKind.f64.decode x = Ieee.double.read x := rfl
    rw [hd]
    cases hr : Ieee.double.read x with
    | nan s n => rw [hr] at h; cases h
    | infinity s => rfl
    | number s m p => rfl
  rw [e]; rfl
theorem float64bits_run (x : Nat) (w : World) : (callFunc 78 #[.float .f64 x]).run Try.prog w = .ok (.value (.int .u64 (x : Int))) w := by
  rw [run_callFunc_extern Try.func78 (by kernel_rfl) (by kernel_rfl) (by kernel_rfl) (e := Extern.MathFloatBits.float64bits) (by kernel_rfl)]
  rfl
theorem math_Trunc.calls (x : Nat) (h : (Ieee.double.read x).isNaN = false) (w : World) :
    Calls Try.prog 74 #[.float .f64 x] w fun e w' => e = .returned (.float .f64 (truncB x)) ∧ w' = w := by
  have hd := archTrunc_run x h
  clear h
  go_enter Try.func74, Try.ntmps74
  go_wp2
  go_ret
  exact ⟨rfl, rfl⟩
theorem signB_i64 (x : Nat) : decide (wrap64 (x : Int) < 0) = signB x := by
  unfold signB
  unfold wrap64
  rw [decide_eq_decide]
  omega
theorem math_Signbit.calls (x : Nat) (w : World) :
    Calls Try.prog 75 #[.float .f64 x] w fun e w' => e = .returned (.bool (signB x)) ∧ w' = w := by
  have hd := float64bits_run x
  have hs := signB_i64 x
  go_enter Try.func75, Try.ntmps75
  go_wp2
  go_ret
  exact ⟨by rw [← hs]; rfl, rfl⟩
theorem gauss_part.calls (x : Nat) (w : World) :
    Calls Try.prog 73 #[.float .f64 x] w fun e w' => e = .returned (.bool (partE x)) ∧ w' = w := by
  have hu : partE x = ((Ieee.double.order x 13920626448202203136 == some .gt || Ieee.double.order x 13920626448202203136 == some .eq) && ((Ieee.double.order x 4697254411347427328 == some .lt || Ieee.double.order x 4697254411347427328 == some .eq) && (Ieee.double.order x (truncB x) == some .eq && !(Ieee.double.order x 0 == some .eq && signB x)))) := rfl
  cases h1 : (FloatKind.f64.format.order x 13920626448202203136 == some .gt || FloatKind.f64.format.order x 13920626448202203136 == some .eq) with
  | false =>
    rw [show (Ieee.double.order x 13920626448202203136 == some .gt || Ieee.double.order x 13920626448202203136 == some .eq) = false from h1, Bool.false_and] at hu
    have hf := Aside0.mk hu
    clear hu
    go_enter Try.func73, Try.ntmps73
    go_wp2
    go_ret
    exact ⟨by rw [hf.out]; rfl, rfl⟩
  | true =>
    rw [show (Ieee.double.order x 13920626448202203136 == some .gt || Ieee.double.order x 13920626448202203136 == some .eq) = true from h1, Bool.true_and] at hu
    cases h2 : (FloatKind.f64.format.order x 4697254411347427328 == some .lt || FloatKind.f64.format.order x 4697254411347427328 == some .eq) with
    | false =>
      rw [show (Ieee.double.order x 4697254411347427328 == some .lt || Ieee.double.order x 4697254411347427328 == some .eq) = false from h2, Bool.false_and] at hu
      have hf := Aside0.mk hu
      clear hu
      go_enter Try.func73, Try.ntmps73
      go_wp2
      go_ret
      exact ⟨by rw [hf.out]; rfl, rfl⟩
    | true =>
      rw [show (Ieee.double.order x 4697254411347427328 == some .lt || Ieee.double.order x 4697254411347427328 == some .eq) = true from h2, Bool.true_and] at hu
      have hn : (Ieee.double.read x).isNaN = false := by
        cases hr : Ieee.double.read x with
        | nan s n =>
          have h3 : FloatKind.f64.format.order x 13920626448202203136 = none := order_nan hr
          rw [h3] at h1; cases h1
        | infinity s => rfl
        | number s m p => rfl
      cases h3 : (FloatKind.f64.format.order x (truncB x) == some .eq) with
      | false =>
        rw [show (Ieee.double.order x (truncB x) == some .eq) = false from h3, Bool.false_and] at hu
        have hf := Aside0.mk hu
        clear hu
        go_enter Try.func73, Try.ntmps73
        go_wp2_with (first | (fail))
        refine (math_Trunc.calls x hn _).mono ?_
        rintro e w8 ⟨rfl, rfl⟩
        go_wp2_with (first | (fail))
        go_ret
        exact ⟨by rw [hf.out]; rfl, rfl⟩
      | true =>
        rw [show (Ieee.double.order x (truncB x) == some .eq) = true from h3, Bool.true_and] at hu
        cases h4 : (FloatKind.f64.format.order x 0 == some .eq) with
        | false =>
          rw [show (Ieee.double.order x 0 == some .eq) = false from h4, Bool.false_and, Bool.not_false] at hu
          have hf := Aside0.mk hu
          clear hu
          go_enter Try.func73, Try.ntmps73
          go_wp2_with (first | (fail))
          refine (math_Trunc.calls x hn _).mono ?_
          rintro e w8 ⟨rfl, rfl⟩
          go_wp2_with (first | (fail))
          go_ret
          exact ⟨by rw [hf.out]; rfl, rfl⟩
        | true =>
          rw [show (Ieee.double.order x 0 == some .eq) = true from h4, Bool.true_and] at hu
          have hf := Aside0.mk hu
          clear hu
          go_enter Try.func73, Try.ntmps73
          go_wp2_with (first | (fail))
          refine (math_Trunc.calls x hn _).mono ?_
          rintro e w8 ⟨rfl, rfl⟩
          go_wp2_with (first | (fail))
          refine (math_Signbit.calls x _).mono ?_
          rintro e w9 ⟨rfl, rfl⟩
          go_wp2_with (first | (fail))
          go_ret
          exact ⟨by rw [hf.out]; rfl, rfl⟩
def mayE (l : List (Nat × Nat)) : Bool := l.all fun z => partE z.1 && partE z.2
theorem mayE_snoc (l : List (Nat × Nat)) (i : Nat) (h : i < l.length) : mayE (l.take (i + 1)) = (mayE (l.take i) && (partE (l.getD i (0, 0)).1 && partE (l.getD i (0, 0)).2)) := by
  unfold mayE
  rw [List.take_succ_eq_append_getElem h, List.all_append]
  simp [List.getD_eq_getElem?_getD, h]
theorem mayE_false (l : List (Nat × Nat)) (i : Nat) (h : i < l.length) (g : (partE (l.getD i (0, 0)).1 && partE (l.getD i (0, 0)).2) = false) : mayE l = false := by
  unfold mayE
  rw [List.all_eq_false]
  refine ⟨l[i], List.getElem_mem h, ?_⟩
  have e : l.getD i (0, 0) = l[i] := by simp [List.getD_eq_getElem?_getD, h]
  rw [e] at g; rw [g]; exact Bool.false_ne_true
set_option maxHeartbeats 8000000 in
theorem gauss_may.calls (a : Addr) (c : Nat) (l : List (Nat × Nat)) (w : World) (hc : l.length ≤ c) (hb : l.length ≤ 100) (hr : ∀ i, i < l.length → w.cell? (a.add i) = some (.complex .f64 (l.getD i (0, 0)).1 (l.getD i (0, 0)).2)) :
    Calls Try.prog 69 #[.slice (some a) l.length c] w fun e w' => e = .returned (.bool (mayE l)) ∧ w' = w := by
  have HR := Aside0.mk hr
  have HB := Aside0.mk hb
  clear hr hb
  go_enter Try.func69, Try.ntmps69
  go_wp2
  go_loopg [7] l.length (fun kq v7 w' => ∃ i : Nat, v7 = .int .i64 i ∧ Aside0 (i + kq = l.length) ∧ i ≤ l.length ∧ Aside0 (w' = w) ∧ Aside0 (mayE (l.take i) = true))
  case atStart => exact ⟨0, rfl, ⟨by omega⟩, Nat.zero_le _, ⟨rfl⟩, ⟨by rw [List.take_zero]; rfl⟩⟩
  case round =>
    obtain ⟨i, rfl, HK, hi, ⟨hw⟩, HM⟩ := hrel
    subst hw
    by_cases hlt : i < l.length
    · have hlt' : decide ((i : Int) < (l.length : Int)) = true := by simpa using hlt
      obtain ⟨k1, rfl⟩ : ∃ m, gk = m + 1 := ⟨gk - 1, by have := HK.out; omega⟩
      have Hw : Aside0 (wrap64 ((i : Int) + 1) = (i : Int) + 1) := ⟨by have := HB.out; exact wrap64_id (by omega) (by omega)⟩
      have hx := HR.out i hlt
      have p1 : (0 ≤ (i : Int)) = True := eq_true (Int.natCast_nonneg i)
      have q1 : ((i : Int) < (l.length : Int)) = True := eq_true (by omega)
      have hs := mayE_snoc l i hlt
      have hf := mayE_false l i hlt
      generalize hg1 : (l.getD i (0, 0)).1 = g1 at *
      generalize hg2 : (l.getD i (0, 0)).2 = g2 at *
      have HX := Aside0.mk hs
      have HF := Aside0.mk hf
      clear hs hf hg1 hg2
      go_wp2_with (first | (fail))
      refine (gauss_part.calls g1 _).mono ?_
      rintro e w8 ⟨rfl, rfl⟩
      cases hp1 : partE g1 with
      | false =>
        go_wp2_with (first | (fail))
        go_ret
        exact ⟨by rw [HF.out (by rw [hp1]; rfl)]; rfl, rfl⟩
      | true =>
        go_wp2_with (first | (fail))
        refine (gauss_part.calls g2 _).mono ?_
        rintro e w8 ⟨rfl, rfl⟩
        cases hp2 : partE g2 with
        | false =>
          go_wp2_with (first | (fail))
          go_ret
          exact ⟨by rw [HF.out (by rw [hp1, hp2]; rfl)]; rfl, rfl⟩
        | true =>
          go_wp2_with (first | (fail))
          go_roundg k1
          case measure => have := HK.out; omega
          case rel => exact ⟨i + 1, by rw [Hw.out]; rfl, ⟨by have := HK.out; omega⟩, by omega, ⟨rfl⟩, ⟨by rw [HX.out, HM.out, hp1, hp2]; rfl⟩⟩
    · have hlt' : decide ((i : Int) < (l.length : Int)) = false := by simpa using hlt
      have Hi : Aside0 (l.take i = l) := ⟨List.take_of_length_le (by omega)⟩
      go_wp2_with (first | (fail))
      go_ret
      exact ⟨by rw [← HM.out, Hi.out]; rfl, rfl⟩
theorem gauss_clean.calls (re im cr ci : Nat) (h1 : floatBits .add .f64 re 0 = some cr) (h2 : floatBits .add .f64 im 0 = some ci) (w : World) :
    Calls Try.prog 68 #[.complex .f64 re im] w fun e w' => e = .returned (.complex .f64 cr ci) ∧ w' = w := by
  have r1 := fun w => run_float_arith (P := Try.prog) w .add 135 .f64 re 0 cr h1
  have r2 := fun w => run_float_arith (P := Try.prog) w .add 135 .f64 im 0 ci h2
  clear h1 h2
  go_enter Try.func68, Try.ntmps68
  go_wp2
  go_ret
  exact ⟨rfl, rfl⟩
def doneS (cr ci : Nat) (l : List (Nat × Nat)) : Nat × Nat × Int := if mayE l && (partE cr && partE ci) then (cr, ci, 0) else (0, 0, 17)
theorem cells_one (w : World) (x y : Nat) (t : TypeId) : ∀ i, i < [(x, y)].length → (w.alloc (.cells #[.complex .f64 x y] t)).cell? ((⟨w.heap.size, 0, none⟩ : Addr).add i) = some (.complex .f64 ([(x, y)].getD i (0, 0)).1 ([(x, y)].getD i (0, 0)).2) := by
  intro i hi
  obtain rfl : i = 0 := by simpa using hi
  simp [Addr.add]
theorem cells_two (w : World) (x y u v : Nat) (t : TypeId) : ∀ i, i < [(x, y), (u, v)].length → (w.alloc (.cells #[.complex .f64 x y, .complex .f64 u v] t)).cell? ((⟨w.heap.size, 0, none⟩ : Addr).add i) = some (.complex .f64 ([(x, y), (u, v)].getD i (0, 0)).1 ([(x, y), (u, v)].getD i (0, 0)).2) := by
  intro i hi
  have : i = 0 ∨ i = 1 := by simp at hi; omega
  rcases this with rfl | rfl <;> simp [Addr.add]
set_option maxHeartbeats 8000000 in
theorem gauss_done.calls (re im cr ci : Nat) (h1 : floatBits .add .f64 re 0 = some cr) (h2 : floatBits .add .f64 im 0 = some ci) (a : Addr) (c : Nat) (l : List (Nat × Nat)) (w : World) (hc : l.length ≤ c) (hb : l.length ≤ 100) (hr : ∀ i, i < l.length → w.cell? (a.add i) = some (.complex .f64 (l.getD i (0, 0)).1 (l.getD i (0, 0)).2)) :
    Calls Try.prog 65 #[.complex .f64 re im, .slice (some a) l.length c] w fun e w' => e = .returned (.tuple #[.complex .f64 (doneS cr ci l).1 (doneS cr ci l).2.1, .int .i64 (doneS cr ci l).2.2]) ∧ Below w.heap.size w w' := by
  have HR := Aside0.mk hr
  have HB := Aside0.mk hb
  have HC := Aside0.mk hc
  have H1 := Aside0.mk h1
  have H2 := Aside0.mk h2
  clear hr hb hc h1 h2
  go_enter Try.func65, Try.ntmps65
  go_wp2_with (first | (fail))
  refine (gauss_clean.calls re im cr ci H1.out H2.out _).mono ?_
  rintro e w8 ⟨rfl, rfl⟩
  go_wp2_with (first | (fail))
  refine (gauss_may.calls a c l _ HC.out HB.out HR.out).mono ?_
  rintro e w8 ⟨rfl, rfl⟩
  cases hm : mayE l with
  | false =>
    go_wp2_with (first | (fail))
    go_ret2
    exact ⟨by unfold doneS; rw [hm]; rfl, Below.refl _ _⟩
  | true =>
    go_wp2_with (first | (fail))
    have Hz := Aside0.mk (cells_one w8 cr ci 104)
    refine (gauss_may.calls ⟨w8.heap.size, 0, none⟩ 1 [(cr, ci)] _ (Nat.le_refl _) (by simp) Hz.out).mono ?_
    rintro e w9 ⟨rfl, rfl⟩
    have hz : mayE [(cr, ci)] = (partE cr && partE ci) := by unfold mayE; simp
    rw [hz]
    cases hp : (partE cr && partE ci) with
    | false =>
      go_wp2_with (first | (fail))
      go_ret2
      exact ⟨by unfold doneS; rw [hm, hp]; rfl, below_alloc (Below.refl _ _) _⟩
    | true =>
      go_wp2_with (first | (fail))
      go_ret2
      exact ⟨by unfold doneS; rw [hm, hp]; rfl, below_alloc (Below.refl _ _) _⟩
theorem gauss_Mul.calls (a b c d re im cr ci : Nat) (h1 : cMulBits a b c d = some (re, im)) (h3 : floatBits .add .f64 re 0 = some cr) (h4 : floatBits .add .f64 im 0 = some ci) (w : World) :
    Calls Try.prog 54 #[.complex .f64 a b, .complex .f64 c d] w fun e w' => e = .returned (.tuple #[.complex .f64 (doneS cr ci [(a, b), (c, d)]).1 (doneS cr ci [(a, b), (c, d)]).2.1, .int .i64 (doneS cr ci [(a, b), (c, d)]).2.2]) ∧ Below w.heap.size w w' := by
  have r1 := fun w => run_complex_mul (P := Try.prog) w 104 a b c d re im h1
  have H3 := Aside0.mk h3
  have H4 := Aside0.mk h4
  clear h1 h3 h4
  go_enter Try.func54, Try.ntmps54
  go_wp2_with (first | (fail))
  have Hz := Aside0.mk (cells_two w a b c d 104)
  refine (gauss_done.calls re im cr ci H3.out H4.out ⟨w.heap.size, 0, none⟩ 2 [(a, b), (c, d)] _ (Nat.le_refl _) (by simp) Hz.out).mono ?_
  rintro e w9 ⟨rfl, hb⟩
  have HB := Aside0.mk (below_step (below_alloc (Below.refl w.heap.size w) _) hb)
  clear hb
  go_wp2_with (first | (fail))
  go_ret2
  exact ⟨rfl, HB.out⟩
theorem float32frombits_run (v : Int) (w : World) : (callFunc 70 #[.int .u32 v]).run Try.prog w = .ok (.value (.float .f32 v.toNat)) w := by
  rw [run_callFunc_extern Try.func70 (by kernel_rfl) (by kernel_rfl) (by kernel_rfl) (e := Extern.MathFloatBits.float32frombits) (by kernel_rfl)]
  rfl
def agatelaw06_Awake.f : Option Bool := some true
theorem awake06_mul : cMulBits 4607182418800017408 4611686018427387904 4613937818241073152 4616189618054758400 = some (13840687554816376832, 4621819117588971520) := by decide +kernel
theorem awake06_re : floatBits .add .f64 13840687554816376832 0 = some 13840687554816376832 := by decide +kernel
theorem awake06_im : floatBits .add .f64 4621819117588971520 0 = some 4621819117588971520 := by decide +kernel
theorem awake06_done : doneS 13840687554816376832 4621819117588971520 [(4607182418800017408, 4611686018427387904), (4613937818241073152, 4616189618054758400)] = (13840687554816376832, 4621819117588971520, 0) := by decide +kernel
theorem awake06_eq1 : (FloatKind.f64.format.order 13840687554816376832 13840687554816376832 == some .eq) = true := by decide +kernel
theorem awake06_eq2 : (FloatKind.f64.format.order 4621819117588971520 4621819117588971520 == some .eq) = true := by decide +kernel
theorem agatelaw06_Awake.calls (r : Bool) (w : World) (h : agatelaw06_Awake.f = some r) :
    Calls Try.prog 38 #[] w fun e w' => e = .returned (.bool r) ∧ Below w.heap.size w w' := by
  obtain rfl := Option.some.inj h
  have q1 := awake06_eq1
  have q2 := awake06_eq2
  go_enter Try.func38, Try.ntmps38
  go_wp2_with (first | (fail))
  refine (gauss_Mul.calls _ _ _ _ _ _ _ _ awake06_mul awake06_re awake06_im _).mono ?_
  rintro e w9 ⟨rfl, hb⟩
  rw [awake06_done]
  have HB := Aside0.mk hb
  clear hb
  go_wp2_with (first | (fail))
  go_ret
  exact ⟨rfl, HB.out⟩
def kind_Kind_Size.f (a0 : Int) : Option Int := some (sizeK a0)
theorem kind_Kind_Size.calls (a0 : Int) (r : Int) (w : World) (h : kind_Kind_Size.f a0 = some r) :
    Calls Try.prog 49 #[.int .i64 a0] w fun e w' => e = .returned (.int .i64 r) ∧ Below w.heap.size w w' := by
  obtain rfl := Option.some.inj h
  exact kind_Size.calls a0 w
def tensor_Tensor_Elem.f (a0_0 : ByteArray) (a0_1 : Int) (l0_2 : List Int) (a0_3 : ByteArray) (a1 : Int) : Option (ByteArray) := (kind_Kind_Size.f a0_1).bind fun t102 => (if t102 = 0 then (some (⟨#[]⟩ : ByteArray)) else (if a1 < 0 then (some (⟨#[]⟩ : ByteArray)) else (if a1 ≥ (wrap64 ((a0_3.size : Int) / t102)) then (some (⟨#[]⟩ : ByteArray)) else (if 0 ≤ (wrap64 (a1 * t102)) then (if (wrap64 (a1 * t102)) ≤ (wrap64 ((wrap64 (a1 * t102)) + t102)) then (if (wrap64 ((wrap64 (a1 * t102)) + t102)) ≤ (a0_3.size : Int) then (some (a0_3.extract ((wrap64 (a1 * t102)) : Int).toNat ((wrap64 ((wrap64 (a1 * t102)) + t102)) : Int).toNat)) else (none)) else (none)) else (none)))))
set_option maxHeartbeats 8000000 in
set_option maxRecDepth 100000 in
theorem tensor_Tensor_Elem.calls (a0_0 : ByteArray) (a0_1 : Int) (A0_2 : Option Addr) (c0_2 : Nat) (l0_2 : List Int) (a0_3 : ByteArray) (a1 : Int) (r : ByteArray) (w : World) (hr0_2 : Kd.C (Kd.int .i64) w A0_2 l0_2.length l0_2) (hc0_2 : l0_2.length ≤ c0_2) (h : tensor_Tensor_Elem.f a0_0 a0_1 l0_2 a0_3 a1 = some r) :
  Calls Try.prog 58 #[.agg #[.string a0_0, .int .i64 a0_1, .slice A0_2 l0_2.length c0_2, .string a0_3], .int .i64 a1] w fun e w' => e = .returned (.string r) ∧ Below w.heap.size w w' := by
 have hu42 := Try.underlying42; have HR0_2 := mk0 hr0_2; have HC0_2 := mk0 hc0_2; clear hr0_2 hc0_2; have HB := mk0 (Below.refl w.heap.size w); have H : ((kind_Kind_Size.f a0_1).bind fun t102 => (if t102 = 0 then (some (⟨#[]⟩ : ByteArray)) else (if a1 < 0 then (some (⟨#[]⟩ : ByteArray)) else (if a1 ≥ (wrap64 ((a0_3.size : Int) / t102)) then (some (⟨#[]⟩ : ByteArray)) else (if 0 ≤ (wrap64 (a1 * t102)) then (if (wrap64 (a1 * t102)) ≤ (wrap64 ((wrap64 (a1 * t102)) + t102)) then (if (wrap64 ((wrap64 (a1 * t102)) + t102)) ≤ (a0_3.size : Int) then (some (a0_3.extract ((wrap64 (a1 * t102)) : Int).toNat ((wrap64 ((wrap64 (a1 * t102)) + t102)) : Int).toNat)) else (none)) else (none)) else (none)))))) = some r := h; clear h; replace H := bnd H; obtain ⟨t102, A3, H⟩ := H
 by_cases c4 : t102 = 0
 ·
  rw [if_pos c4] at H; have c4b0 := beq_iff_eq.mpr c4; have c4b1 := bne_eq_false_iff_eq.mpr c4; clear c4; obtain rfl := Option.some.inj H
  go_enter Try.func58, Try.ntmps58
  go_wp2_with (first | ((with_reducible refine gate_dst (N := 2) rfl ?_); (try (refine gate_guard (by rfl) ?_; dsimp only)); refine boxE (N := 2) (cs := #[.string a0_0, .int .i64 a0_1, .slice A0_2 l0_2.length c0_2, .string a0_3]) (t := 42) ?_; intro gb101 hg w5 hbox hb; have BK101 := mk0 hbox; have GW101 := gwS HB hg; have GE101 := gwS HB hg; replace HB := hbS HB hb; clear hb hbox hg; obtain ⟨hcz6_0, hcz6_1, hcz6_2, hcz6_3⟩ := cz4 BK101) | ((with_reducible refine gate_callee (f := 49) rfl ?_); refine glE (some 8) rfl rfl Try.func49 (by kernel_rfl) rfl #[.int .i64 a0_1] rfl ?_; (with_reducible refine (kind_Kind_Size.calls a0_1 t102 _ A3.out).mono ?_); rintro e w7 ⟨rfl, hb⟩; refine ⟨_, rfl, ?_⟩; replace BK101 := bkS BK101 hb; replace HB := hbS HB hb; (try clear hb)))
  go_ret
  exact ⟨cl3, hbA HB⟩
 ·
  rw [if_neg c4] at H; have c4b0 := beq_eq_false_iff_ne.mpr c4; have c4b1 := bne_iff_ne.mpr c4
  by_cases c8 : a1 < 0
  ·
   rw [if_pos c8] at H; have c8b0 := decide_eq_true c8; clear c8; obtain rfl := Option.some.inj H
   go_enter Try.func58, Try.ntmps58
   go_wp2_with (first | ((with_reducible refine gate_dst (N := 2) rfl ?_); (try (refine gate_guard (by rfl) ?_; dsimp only)); refine boxE (N := 2) (cs := #[.string a0_0, .int .i64 a0_1, .slice A0_2 l0_2.length c0_2, .string a0_3]) (t := 42) ?_; intro gb101 hg w9 hbox hb; have BK101 := mk0 hbox; have GW101 := gwS HB hg; have GE101 := gwS HB hg; replace HB := hbS HB hb; clear hb hbox hg; obtain ⟨hcz10_0, hcz10_1, hcz10_2, hcz10_3⟩ := cz4 BK101) | ((with_reducible refine gate_callee (f := 49) rfl ?_); refine glE (some 8) rfl rfl Try.func49 (by kernel_rfl) rfl #[.int .i64 a0_1] rfl ?_; (with_reducible refine (kind_Kind_Size.calls a0_1 t102 _ A3.out).mono ?_); rintro e w11 ⟨rfl, hb⟩; refine ⟨_, rfl, ?_⟩; replace BK101 := bkS BK101 hb; replace HB := hbS HB hb; (try clear hb)))
   go_ret
   exact ⟨cl3, hbA HB⟩
  ·
   rw [if_neg c8] at H; have c8b0 := decide_eq_false c8; clear c8
   by_cases c12 : a1 ≥ (wrap64 ((a0_3.size : Int) / t102))
   ·
    rw [if_pos c12] at H; have c12b0 := decide_eq_true c12; clear c12; obtain rfl := Option.some.inj H
    go_enter Try.func58, Try.ntmps58
    go_wp2_with (first | ((with_reducible refine gate_dst (N := 2) rfl ?_); (try (refine gate_guard (by rfl) ?_; dsimp only)); refine boxE (N := 2) (cs := #[.string a0_0, .int .i64 a0_1, .slice A0_2 l0_2.length c0_2, .string a0_3]) (t := 42) ?_; intro gb101 hg w13 hbox hb; have BK101 := mk0 hbox; have GW101 := gwS HB hg; have GE101 := gwS HB hg; replace HB := hbS HB hb; clear hb hbox hg; obtain ⟨hcz14_0, hcz14_1, hcz14_2, hcz14_3⟩ := cz4 BK101) | ((with_reducible refine gate_callee (f := 49) rfl ?_); refine glE (some 8) rfl rfl Try.func49 (by kernel_rfl) rfl #[.int .i64 a0_1] rfl ?_; (with_reducible refine (kind_Kind_Size.calls a0_1 t102 _ A3.out).mono ?_); rintro e w15 ⟨rfl, hb⟩; refine ⟨_, rfl, ?_⟩; replace BK101 := bkS BK101 hb; replace HB := hbS HB hb; (try clear hb); obtain ⟨hcz16_0, hcz16_1, hcz16_2, hcz16_3⟩ := cz4 BK101; have hfz16_3 := blk_frozen BK101.out 3))
    go_ret
    exact ⟨cl3, hbA HB⟩
   ·
    rw [if_neg c12] at H; have c12b0 := decide_eq_false c12; clear c12; obtain ⟨ji17, hji17⟩ : ∃ j_ : Int, (wrap64 (a1 * t102)) = j_ := ⟨_, rfl⟩; replace H : (if 0 ≤ (ji17) then (if (ji17) ≤ (wrap64 ((ji17) + t102)) then (if (wrap64 ((ji17) + t102)) ≤ (a0_3.size : Int) then (some (a0_3.extract ((ji17) : Int).toNat ((wrap64 ((ji17) + t102)) : Int).toNat)) else (none)) else (none)) else (none)) = some r := by first | (rw [hji17] at H; exact H) | (simp only [hji17] at H ⊢; exact H)
    (try rw [hji17] at A3)
    have hji17w : (IntKind.i64.wrap (a1 * t102)) = ji17 := (i64_w _).trans hji17; replace H := ifS H; obtain ⟨c18, H⟩ := H; have c18b0 := eq_true c18; have c18b1 := decide_eq_true c18; clear c18; replace H := ifS H; obtain ⟨c19, H⟩ := H; have c19b0 := eq_true c19; have c19b1 := decide_eq_true c19; replace H := ifS H; obtain ⟨c20, H⟩ := H; have c20b0 := eq_true c20; have c20b1 := decide_eq_true c20; obtain rfl := Option.some.inj H
    go_enter Try.func58, Try.ntmps58
    go_wp2_with (first | ((with_reducible refine gate_dst (N := 2) rfl ?_); (try (refine gate_guard (by rfl) ?_; dsimp only)); refine boxE (N := 2) (cs := #[.string a0_0, .int .i64 a0_1, .slice A0_2 l0_2.length c0_2, .string a0_3]) (t := 42) ?_; intro gb101 hg w21 hbox hb; have BK101 := mk0 hbox; have GW101 := gwS HB hg; have GE101 := gwS HB hg; replace HB := hbS HB hb; clear hb hbox hg; obtain ⟨hcz22_0, hcz22_1, hcz22_2, hcz22_3⟩ := cz4 BK101) | ((with_reducible refine gate_callee (f := 49) rfl ?_); refine glE (some 8) rfl rfl Try.func49 (by kernel_rfl) rfl #[.int .i64 a0_1] rfl ?_; (with_reducible refine (kind_Kind_Size.calls a0_1 t102 _ A3.out).mono ?_); rintro e w23 ⟨rfl, hb⟩; refine ⟨_, rfl, ?_⟩; replace BK101 := bkS BK101 hb; replace HB := hbS HB hb; (try clear hb); obtain ⟨hcz24_0, hcz24_1, hcz24_2, hcz24_3⟩ := cz4 BK101; have hfz24_3 := blk_frozen BK101.out 3))
    go_ret
    exact ⟨by first | rfl | (simp [errW_none, errW_some] <;> rfl) | (simp only [← hji17]; first | rfl | (simp [errW_none, errW_some] <;> rfl)) | (simp [*, errW_none, errW_some] <;> rfl), hbA HB⟩
end Go.Proofs.Ytfejdnkmmjffcaa.X
