import Derived.Test.YtohddbiedabmhaaMPackBack0
import Derived.Test.YtohddbiedabmhaaMPackBack1
-- by xprint.py, a program of this session, over the kit's print.py
namespace Go.Proofs.Ytohddbiedabmhaa.X
open Go.RowKit Go.Proofs.YtohddbiedabmhaaW.PrintWords Go.Proofs.YtohddbiedabmhaaW.PrintLast Go.Proofs.YtohddbiedabmhaaW.PrintMore
attribute [local go_sem] max2_int min2_int max_two min_two max_three min_three max_four min_four   -- for this text's walks alone
set_option linter.unusedVariables false
set_option linter.unusedSimpArgs false

/-! Fields of a message: plain Lean -/
abbrev Fl := Int × Int × Int × ByteArray
def flP (x : S47) : Fl := (x.f0, x.f1, x.f2, x.f3)
def flR (x : S50) : Fl := (x.f0, x.f1, x.f2, x.f3)
def toP (x : Fl) : S47 := ⟨x.1, x.2.1, x.2.2.1, x.2.2.2⟩
def toR (x : Fl) : S50 := ⟨x.1, x.2.1, x.2.2.1, x.2.2.2⟩
theorem flP_toP (x : Fl) : flP (toP x) = x := rfl
theorem flR_toR (x : Fl) : flR (toR x) = x := rfl
theorem toP_flP (x : S47) : toP (flP x) = x := rfl
theorem toR_flR (x : S50) : toR (flR x) = x := rfl
theorem map_flP_toP (l : List Fl) : (l.map toP).map flP = l := by simp [flP_toP, Function.comp_def]
theorem map_flR_toR (l : List Fl) : (l.map toR).map flR = l := by simp [flR_toR, Function.comp_def]
/-- the number of bytes, the lowest first -/
def lowS : List Nat → Nat
  | [] => 0
  | c :: l => c + 256 * lowS l
theorem lowS_lt (l : List Nat) (h : ∀ c ∈ l, c < 256) : lowS l < 256 ^ l.length := by
  induction l with
  | nil => simp [lowS]
  | cons c l ih =>
    have h1 := ih (fun x hx => h x (List.mem_cons_of_mem _ hx))
    have h2 := h c (List.mem_cons_self ..)
    simp only [lowS, List.length_cons, Nat.pow_succ]
    omega
theorem lowS_snoc (l : List Nat) (c : Nat) : lowS (l ++ [c]) = lowS l + c * 256 ^ l.length := by
  induction l with
  | nil => simp [lowS]
  | cons d l ih =>
    simp only [List.cons_append, lowS, ih, List.length_cons, Nat.pow_succ]
    rw [Nat.mul_add, Nat.add_assoc, Nat.mul_comm (256 ^ l.length) 256, ← Nat.mul_assoc c, Nat.mul_comm c 256, Nat.mul_assoc]
/-- so many bytes of a number, the lowest first -/
def laidS (v n : Nat) : List Nat := (List.range n).map fun i => v / 256 ^ i % 256
theorem laidS_succ (v n : Nat) : laidS v (n + 1) = laidS v n ++ [v / 256 ^ n % 256] := by simp [laidS, List.range_succ]
theorem laidS_bound (v n : Nat) : ∀ c ∈ laidS v n, c < 256 := by
  intro c hc
  simp only [laidS, List.mem_map] at hc
  obtain ⟨i, _, rfl⟩ := hc
  exact Nat.mod_lt _ (by decide)
theorem laidS_length (v n : Nat) : (laidS v n).length = n := by simp [laidS]
theorem lowS_laidS (v n : Nat) : lowS (laidS v n) = v % 256 ^ n := by
  induction n with
  | zero => simp [laidS, lowS, Nat.mod_one]
  | succ n ih =>
    rw [laidS_succ, lowS_snoc, ih, laidS_length, Nat.pow_succ, Nat.mod_mul, Nat.mul_comm]
def laidStr (v n : Nat) : ByteArray := strOfNums ((laidS v n).map Int.ofNat)
theorem ns_laidStr (v n : Nat) : ns (laidStr v n) = laidS v n := ns_strOfNums _ (laidS_bound v n)
theorem laidStr_size (v n : Nat) : (laidStr v n).size = n := by rw [← ns_length, ns_laidStr, laidS_length]
theorem strOfNums_append (a b : List Int) : strOfNums (a ++ b) = strOfNums a ++ strOfNums b := by
  simp [strOfNums, ByteArray.append_eq, ByteArray.append, ByteArray.ext_iff, ByteArray.data_append]
/-- one field's writing -/
def bytesS (num ty n : Int) (d : ByteArray) : ByteArray :=
  if 1 ≤ num ∧ num ≤ 536870911 ∧ (ty = 0 ∨ ty = 1 ∨ ty = 2 ∨ ty = 5) then
    if ty = 0 then vStr (8 * num + ty).toNat ++ vStr n.toNat
    else if ty = 2 then vStr (8 * num + ty).toNat ++ vStr d.size ++ d
    else if ty = 1 then vStr (8 * num + ty).toNat ++ laidStr n.toNat 8
    else if n > 4294967295 then ⟨#[]⟩ else vStr (8 * num + ty).toNat ++ laidStr n.toNat 4
  else ⟨#[]⟩
/-- the field with which a text begins: the field, its bytes, the code -/
def oneS (b : ByteArray) : Fl × Nat × Nat :=
  if (vRead b).2.2 ≠ 0 then ((0, 0, 0, ⟨#[]⟩), 0, (vRead b).2.2)
  else if ¬ (1 ≤ (vRead b).1 / 8 ∧ (vRead b).1 / 8 ≤ 536870911 ∧ ((vRead b).1 % 8 = 0 ∨ (vRead b).1 % 8 = 1 ∨ (vRead b).1 % 8 = 2 ∨ (vRead b).1 % 8 = 5)) then ((0, 0, 0, ⟨#[]⟩), 0, 3)
  else if (vRead b).1 % 8 = 0 ∨ (vRead b).1 % 8 = 2 then
    let q := vRead (b.extract (vRead b).2.1 b.size)
    if q.2.2 ≠ 0 then ((0, 0, 0, ⟨#[]⟩), 0, q.2.2)
    else if (vRead b).1 % 8 = 0 then (((vRead b).1 / 8, 0, q.1, ⟨#[]⟩), (vRead b).2.1 + q.2.1, 0)
    else if b.size - ((vRead b).2.1 + q.2.1) < q.1 then ((0, 0, 0, ⟨#[]⟩), 0, 1)
    else (((vRead b).1 / 8, 2, 0, b.extract ((vRead b).2.1 + q.2.1) ((vRead b).2.1 + q.2.1 + q.1)), (vRead b).2.1 + q.2.1 + q.1, 0)
  else
    let size := if (vRead b).1 % 8 = 5 then 4 else 8
    if b.size - (vRead b).2.1 < size then ((0, 0, 0, ⟨#[]⟩), 0, 1)
    else (((vRead b).1 / 8, ((vRead b).1 % 8 : Nat), (lowS (ns (b.extract (vRead b).2.1 ((vRead b).2.1 + size))) : Nat), ⟨#[]⟩), (vRead b).2.1 + size, 0)
/-- a message's fields, with so many rounds -/
def fieldsF : Nat → ByteArray → List Fl × Nat
  | 0, _ => ([], 0)
  | k + 1, b => if b.size = 0 then ([], 0) else if (oneS b).2.2 ≠ 0 then ([], (oneS b).2.2)
    else if (fieldsF k (b.extract (oneS b).2.1 b.size)).2 ≠ 0 then ([], (fieldsF k (b.extract (oneS b).2.1 b.size)).2)
    else ((oneS b).1 :: (fieldsF k (b.extract (oneS b).2.1 b.size)).1, 0)
def fieldsS (b : ByteArray) : List Fl × Nat := if b.size > 1048576 then ([], 2) else fieldsF b.size b
theorem vRead_pos (b : ByteArray) (h : (vRead b).2.2 = 0) : 1 ≤ (vRead b).2.1 ∧ (vRead b).2.1 ≤ b.size ∧ (vRead b).2.1 ≤ 10 ∧ (vRead b).1 < 18446744073709551616 := by
  obtain ⟨⟨y, n, e⟩, hr⟩ : ∃ x, vRead b = x := ⟨_, rfl⟩
  rw [hr] at h ⊢
  simp only at h ⊢
  subst h
  obtain ⟨h1, h2, h3, h4, _⟩ := vRead_ok b y n hr
  have := vSize_pos y
  omega
theorem extract_size' (b : ByteArray) (i : Nat) (h : i ≤ b.size) : (b.extract i b.size).size = b.size - i := by
  rw [ByteArray.size_extract]; omega
theorem extract_extract' (b : ByteArray) (i k l : Nat) (hl : i + l ≤ b.size) : (b.extract i b.size).extract k l = b.extract (i + k) (i + l) := by
  rw [ByteArray.extract_extract, Nat.min_eq_left hl]
theorem extract_self (b : ByteArray) : b.extract 0 b.size = b := ns_inj (by rw [ns_extract, List.drop_zero, Nat.sub_zero, ← ns_length, List.take_length])
theorem oneS_pos (b : ByteArray) (h : (oneS b).2.2 = 0) : 1 ≤ (oneS b).2.1 ∧ (oneS b).2.1 ≤ b.size := by
  unfold oneS at h ⊢
  split at h
  · rename_i h1; exact absurd h h1
  · rename_i h1
    have g := vRead_pos b (by simpa using h1)
    rw [if_neg h1]
    split at h
    · simp at h
    · rename_i h2
      rw [if_neg h2]
      split at h
      · rename_i h3
        rw [if_pos h3]
        simp only at h ⊢
        split at h
        · rename_i h4; exact absurd h h4
        · rename_i h4
          have g2 := vRead_pos (b.extract (vRead b).2.1 b.size) (by simpa using h4)
          rw [extract_size' _ _ (by omega)] at g2
          rw [if_neg h4]
          split
          · simp only; omega
          · rename_i h5
            rw [if_neg h5] at h
            split at h
            · simp at h
            · rename_i h6; rw [if_neg h6]; simp only; omega
      · rename_i h3
        rw [if_neg h3]
        obtain ⟨size, hsz⟩ : ∃ s, (if (vRead b).1 % 8 = 5 then 4 else 8) = s := ⟨_, rfl⟩
        have hs4 : 4 ≤ size := by rw [← hsz]; split <;> omega
        simp only [hsz] at h ⊢
        split at h
        · simp at h
        · rename_i h4; rw [if_neg h4]; simp only; omega
theorem fieldsF_fuel (d : Nat) : ∀ (k : Nat) (b : ByteArray), b.size ≤ d → d ≤ k → fieldsF k b = fieldsF d b := by
  induction d with
  | zero =>
    intro k b hb hk
    cases k with
    | zero => rfl
    | succ k => have h0 : b.size = 0 := by omega
                simp [fieldsF, h0]
  | succ d ih =>
    intro k b hb hk
    obtain ⟨k, rfl⟩ : ∃ m, k = m + 1 := ⟨k - 1, by omega⟩
    rw [fieldsF, fieldsF]
    by_cases h0 : b.size = 0
    · rw [if_pos h0, if_pos h0]
    · rw [if_neg h0, if_neg h0]
      by_cases h1 : (oneS b).2.2 ≠ 0
      · rw [if_pos h1, if_pos h1]
      · have g := oneS_pos b (by simpa using h1)
        rw [if_neg h1, if_neg h1, ih k (b.extract (oneS b).2.1 b.size) (by rw [extract_size' _ _ g.2]; omega) (by omega)]
theorem fieldsF_length (k : Nat) : ∀ b, (fieldsF k b).1.length ≤ k := by
  induction k with
  | zero => intro b; simp [fieldsF]
  | succ k ih =>
    intro b
    have := ih (b.extract (oneS b).2.1 b.size)
    rw [fieldsF]
    repeat' split
    all_goals simp_all
theorem wrap64_id {x : Int} (h0 : -9223372036854775808 ≤ x) (h1 : x < 9223372036854775808) : wrap64 x = x := by unfold wrap64; omega
theorem u64_id {x : Int} (h0 : 0 ≤ x) (h1 : x < 18446744073709551616) : IntKind.u64.wrap x = x := by rw [u64_wrap]; omega
theorem fieldsF_nil (k : Nat) (b : ByteArray) (h : (fieldsF k b).2 ≠ 0) : (fieldsF k b).1 = [] := by
  cases k with
  | zero => rfl
  | succ k =>
    rw [fieldsF] at h ⊢
    by_cases h0 : b.size = 0
    · rw [if_pos h0]
    · rw [if_neg h0] at h ⊢
      by_cases h1 : (oneS b).2.2 ≠ 0
      · rw [if_pos h1]
      · rw [if_neg h1] at h ⊢
        by_cases h2 : (fieldsF k (b.extract (oneS b).2.1 b.size)).2 ≠ 0
        · rw [if_pos h2]
        · rw [if_neg h2] at h; exact absurd rfl h
theorem toList_nil {b : ByteArray} : b.toList = [] ↔ b.size = 0 := by
  rw [ByteArray.toList_eq]
  constructor
  · intro h; have := congrArg List.length h; simpa using this
  · intro h; exact List.eq_nil_of_length_eq_zero (by simpa using h)
theorem toList_inj {a b : ByteArray} : a.toList = b.toList ↔ a = b := by
  rw [ByteArray.toList_eq, ByteArray.toList_eq]
  constructor
  · intro h; cases a; cases b; simp_all
  · intro h; rw [h]

end Go.Proofs.Ytohddbiedabmhaa.X
-- by xprint.py, a program of this session, over the kit's print.py
namespace Go.Proofs.Ytohddbiedabmhaa.X
open Go.RowKit Go.Proofs.YtohddbiedabmhaaW.PrintWords Go.Proofs.YtohddbiedabmhaaW.PrintLast Go.Proofs.YtohddbiedabmhaaW.PrintMore
attribute [local go_sem] max2_int min2_int max_two min_two max_three min_three max_four min_four   -- for this text's walks alone
set_option linter.unusedVariables false
set_option linter.unusedSimpArgs false

def wire_laid_s.f (a0 a1 : Int) : Option ByteArray := if 0 ≤ a0 ∧ a0 < 18446744073709551616 ∧ 0 ≤ a1 ∧ a1 ≤ 8 then some (laidStr a0.toNat a1.toNat) else none
theorem wire_laid_eval (v n : Nat) (hv : v < 18446744073709551616) (hn : n ≤ 8) (d : Nat) : ∀ (k i : Nat), n - i = d → i ≤ n → d < k →
    wire_laid.l0 k (v : Int) ((laidS v i).map Int.ofNat) (n : Int) (i : Int) = some (laidStr v n) := by
  induction d with
  | zero =>
    intro k i hd hi hk
    obtain ⟨k, rfl⟩ : ∃ m, k = m + 1 := ⟨k - 1, by omega⟩
    obtain rfl : i = n := by omega
    simp only [wire_laid.l0]
    rw [if_neg (by omega)]; rfl
  | succ d ih =>
    intro k i hd hi hk
    obtain ⟨k, rfl⟩ : ∃ m, k = m + 1 := ⟨k - 1, by omega⟩
    simp only [wire_laid.l0]
    have e0 : wrap64 (8 * (i : Int)) = ((8 * i : Nat) : Int) := by rw [wrap64_id (by omega) (by omega)]; omega
    have e1 : shr .u64 (v : Int) ((8 * i : Nat) : Int) % 256 = Int.ofNat (v / 256 ^ i % 256) := by
      show (v : Int) / 2 ^ min ((8 * i : Nat) : Int).toNat 64 % 256 = _
      have hp : (256 : Nat) ^ i = 2 ^ (8 * i) := by rw [Nat.pow_mul]
      rw [Int.toNat_natCast, Nat.min_eq_left (by omega), hp]
      simp
    rw [if_pos (by omega), if_pos (by rw [e0]; omega), if_pos (by simp [laidS_length]; omega), e0, e1, wrap64_id (by omega) (by omega)]
    have := ih k (i + 1) (by omega) (by omega) (by omega)
    rw [laidS_succ, List.map_append] at this
    exact this
theorem wire_laid_s.ev (a0 a1 : Int) (r) (h : wire_laid_s.f a0 a1 = some r) : ∃ k, wire_laid.f k a0 a1 = some r := by
  unfold wire_laid_s.f at h
  split at h
  · rename_i hr
    obtain ⟨v, rfl⟩ := Int.eq_ofNat_of_zero_le hr.1
    obtain ⟨n, rfl⟩ := Int.eq_ofNat_of_zero_le hr.2.2.1
    exact ⟨n + 1, (wire_laid_eval v n (by omega) (by omega) n (n + 1) 0 (by omega) (by omega) (by omega)).trans h⟩
  · cases h

set_option maxHeartbeats 1000000 in
theorem wire_laid_s.calls (a0 : Int) (a1 : Int) (r : ByteArray) (w : World) (h : wire_laid_s.f a0 a1 = some r) :
    Calls Try.prog 46 #[.int .u64 a0, .int .i64 a1] w fun e w' => e = .returned (.string r) ∧ Below w.heap.size w w' := by
  obtain ⟨k, hk⟩ := wire_laid_s.ev a0 a1 _ h
  exact wire_laid.calls k a0 a1 r w hk

end Go.Proofs.Ytohddbiedabmhaa.X
-- by xprint.py, a program of this session, over the kit's print.py
namespace Go.Proofs.Ytohddbiedabmhaa.X
open Go.RowKit Go.Proofs.YtohddbiedabmhaaW.PrintWords Go.Proofs.YtohddbiedabmhaaW.PrintLast Go.Proofs.YtohddbiedabmhaaW.PrintMore
attribute [local go_sem] max2_int min2_int max_two min_two max_three min_three max_four min_four   -- for this text's walks alone
set_option linter.unusedVariables false
set_option linter.unusedSimpArgs false

/-! ### wire_Field_Bytes: function 29 -/
def wire_Field_Bytes.j0 : Nat → Bool → Int → Int → Int → ByteArray → Option (ByteArray)
  | 0, _, _, _, _, _ => none
  | k + 1, x21, x102000, x102001, x102002, x102003 => if x21 = true then (some (⟨#[]⟩ : ByteArray)) else ((varint_Put.f (Go.bits .or .u64 (IntKind.u64.wrap ((IntKind.u64.wrap (x102000)) * 8)) (IntKind.u64.wrap (x102001)))).bind fun t103 => (if x102001 = 0 then ((varint_Put.f x102002).bind fun t104 => (if t103.size + t104.size ≤ 9223372036854775807 then (some (t103 ++ t104)) else (none))) else (if x102001 = 2 then ((varint_Put.f (IntKind.u64.wrap ((x102003.size : Int)))).bind fun t105 => (if t103.size + t105.size ≤ 9223372036854775807 then (if (t103 ++ t105).size + x102003.size ≤ 9223372036854775807 then (some ((t103 ++ t105) ++ x102003)) else (none)) else (none))) else (if x102001 = 1 then ((wire_laid_s.f x102002 8).bind fun t106 => (if t103.size + t106.size ≤ 9223372036854775807 then (some (t103 ++ t106)) else (none))) else (if x102002 > 4294967295 then (some (⟨#[]⟩ : ByteArray)) else ((wire_laid_s.f x102002 4).bind fun t107 => (if t103.size + t107.size ≤ 9223372036854775807 then (some (t103 ++ t107)) else (none))))))))
def wire_Field_Bytes.f (k : Nat) (a0_0 : Int) (a0_1 : Int) (a0_2 : Int) (a0_3 : ByteArray) : Option (ByteArray) := if a0_0 < 0 then (wire_Field_Bytes.j0 k true a0_0 a0_1 a0_2 a0_3) else (if a0_1 < 0 then (wire_Field_Bytes.j0 k true a0_0 a0_1 a0_2 a0_3) else ((wire_may.f (IntKind.u64.wrap (a0_0)) (IntKind.u64.wrap (a0_1))).bind fun t102 => (wire_Field_Bytes.j0 k (!t102) a0_0 a0_1 a0_2 a0_3)))
theorem wire_Field_Bytes.mono_l : ∀ k, (∀ y0 y1 y2 y3 y4, LeO (wire_Field_Bytes.j0 k y0 y1 y2 y3 y4) (wire_Field_Bytes.j0 (k + 1) y0 y1 y2 y3 y4))
  | 0 => fun _ _ _ _ _ r h => by simp [wire_Field_Bytes.j0] at h
  | k + 1 => by
    have ih0 := wire_Field_Bytes.mono_l k
    · intro y0 y1 y2 y3 y4
      unfold wire_Field_Bytes.j0
      repeat' first
      | (with_reducible exact ih0 _ _ _ _ _)
      | (with_reducible exact LeO.refl _)
      | (with_reducible exact LeO.none _)
      | (with_reducible refine LeO.ite ?_ ?_)
      | (with_reducible refine LeO.bind ?_ (fun _ => ?_))
      | exact ih0 _ _ _ _ _
      | exact LeO.none _
      | refine LeO.ite ?_ ?_
      | refine LeO.bind ?_ (fun _ => ?_)
theorem wire_Field_Bytes.mono : ∀ a0 a1 a2 a3 k, LeO (wire_Field_Bytes.f k a0 a1 a2 a3) (wire_Field_Bytes.f (k + 1) a0 a1 a2 a3) := by
  intro a0 a1 a2 a3 k
  have ih0 := wire_Field_Bytes.mono_l k
  unfold wire_Field_Bytes.f
  repeat' first
      | (with_reducible exact ih0 _ _ _ _ _)
      | (with_reducible exact LeO.refl _)
      | (with_reducible exact LeO.none _)
      | (with_reducible refine LeO.ite ?_ ?_)
      | (with_reducible refine LeO.bind ?_ (fun _ => ?_))
      | exact ih0 _ _ _ _ _
      | exact LeO.none _
      | refine LeO.ite ?_ ?_
      | refine LeO.bind ?_ (fun _ => ?_)
def wire_Field_Bytes.T8 : Bool × List (List Nat × List Nat) := (true, [([], []), ([], []), ([1], [1]), ([2], [2]), ([3], [3]), ([4], [4]), ([0, 5], [0, 5]), ([], []), ([7], [7]), ([6, 8], [6, 8]), ([9, 5, 0, 1, 2, 3, 4, 5, 6, 7, 8, 9], [9])])
def wire_Field_Bytes.B8 : List Nat := [0, 0, 2, 6, 14, 30, 63, 0, 128, 511, 1023]
theorem wire_Field_Bytes.tab8 : rtab .any (opsOf Try.f29 8) = wire_Field_Bytes.T8 := by kernel_rfl
theorem wire_Field_Bytes.bits8 : waitsOk wire_Field_Bytes.T8.2 wire_Field_Bytes.B8 = true := by kernel_rfl
set_option maxHeartbeats 8000000 in
set_option maxRecDepth 100000 in
theorem wire_Field_Bytes.calls (k : Nat) (a0_0 : Int) (a0_1 : Int) (a0_2 : Int) (a0_3 : ByteArray) (r : ByteArray) (w : World) (h : wire_Field_Bytes.f k a0_0 a0_1 a0_2 a0_3 = some r) :
    Calls Try.prog 29 #[.agg #[.int .i64 a0_0, .int .i64 a0_1, .int .u64 a0_2, .string a0_3]] w fun e w' => e = .returned (.string r) ∧ Below w.heap.size w w' := by
  have hu47 := Try.underlying47
  have HB := Aside0.mk (Below.refl w.heap.size w)
  have H : (if a0_0 < 0 then (wire_Field_Bytes.j0 k true a0_0 a0_1 a0_2 a0_3) else (if a0_1 < 0 then (wire_Field_Bytes.j0 k true a0_0 a0_1 a0_2 a0_3) else ((wire_may.f (IntKind.u64.wrap (a0_0)) (IntKind.u64.wrap (a0_1))).bind fun t102 => (wire_Field_Bytes.j0 k (!t102) a0_0 a0_1 a0_2 a0_3)))) = some r := h
  clear h
  have HC2 := Aside0.mk H
  clear H
  go_enter Try.func29, Try.ntmps29
  go_upto_region 1 with (first | ((with_reducible refine gate_dst (N := 1) rfl ?_); refine box_event ?hg (N := 1) ?hd (cs := #[.int .i64 a0_0, .int .i64 a0_1, .int .u64 a0_2, .string a0_3]) (t := 47) ?hr ?_; (case hd => rfl); (case hg => rfl); (case hr => first | (go_simp; done) | (go_simp; rfl)); intro gb101 hg w3 hbox hb; have n0_ := Aside0.mk (below_step (by repeat (first | (with_reducible first | exact HB.out | apply below_alloc | apply pw_below_drewN | apply below_drew1) | exact HB.out)) hb); have n1_ := Aside0.mk (hbox); have n2_ := Aside0.mk ((by rw [hg]; exact (below_size (by repeat (first | (with_reducible first | exact HB.out | apply below_alloc | apply pw_below_drewN | apply below_drew1) | exact HB.out))) : w.heap.size ≤ gb101)); have n3_ := Aside0.mk ((by rw [hg]; exact (below_size (by repeat (first | (with_reducible first | exact HB.out | apply below_alloc | apply pw_below_drewN | apply below_drew1) | exact HB.out))) : w.heap.size ≤ gb101)); clear HB; have HB := n0_; have BK101 := n1_; have GW101 := n2_; have GE101 := n3_; clear n0_ n1_ n2_ n3_; clear hb hbox hg))
  (try simp only [Act.put, List.setIfInBounds_toArray, List.set_cons_zero, List.set_cons_succ])
  go_cut [21] (fun v21 wc => ∃ (kq : Nat) (x21_1 : Bool), v21 = .bool x21_1 ∧ Aside0 (wire_Field_Bytes.j0 kq x21_1 a0_0 a0_1 a0_2 a0_3 = some r) ∧ Aside0 (kq ≤ k) ∧ Aside0 (wc.heap[gb101]? = some (.cells #[.int .i64 a0_0, .int .i64 a0_1, .int .u64 a0_2, .string a0_3] 47 (0, 0))) ∧ Aside0 (Below w.heap.size w wc))
  case first =>
    have H := HC2.out
    clear HC2
    by_cases c4 : a0_0 < 0
    · rw [if_pos c4] at H
      have c4b0 : decide (a0_0 < 0) = true := decide_eq_true c4
      clear c4
      (first | rw [c4b0] | (simp only [i64_w, i32_w]; rw [c4b0]) | skip)
      have H' := Aside0.mk H
      clear H
      have hcz5_0 : w3.cell? ⟨gb101, 0, none⟩ = some (.int .i64 a0_0) := (blk_cell BK101.out 0).trans rfl
      have hcz5_1 : w3.cell? ⟨gb101, 1, none⟩ = some (.int .i64 a0_1) := (blk_cell BK101.out 1).trans rfl
      have hcz5_2 : w3.cell? ⟨gb101, 2, none⟩ = some (.int .u64 a0_2) := (blk_cell BK101.out 2).trans rfl
      have hcz5_3 : w3.cell? ⟨gb101, 3, none⟩ = some (.string a0_3) := (blk_cell BK101.out 3).trans rfl
      have hfz5_0 := blk_frozen BK101.out 0
      have hfz5_1 := blk_frozen BK101.out 1
      have hfz5_2 := blk_frozen BK101.out 2
      have hfz5_3 := blk_frozen BK101.out 3
      go_wp2
      go_meet
      case rel => exact ⟨_, (true), (by first | rfl | (simp; done) | (simp [*]; done)), H', ⟨by first | omega | exact Nat.le_refl _⟩, ⟨by (with_reducible repeat (first | refine blk_drewN ?_ _ | refine blk_drew ?_ | refine blk_alloc ?_ _)); exact BK101.out⟩, ⟨by repeat (first | (with_reducible first | exact HB.out | apply below_alloc | apply pw_below_drewN | apply below_drew1 | refine below_set ?_ GE101.out) | exact HB.out)⟩⟩
    · rw [if_neg c4] at H
      have c4b0 : decide (a0_0 < 0) = false := decide_eq_false c4
      clear c4
      (first | rw [c4b0] | (simp only [i64_w, i32_w]; rw [c4b0]) | skip)
      by_cases c6 : a0_1 < 0
      · rw [if_pos c6] at H
        have c6b0 : decide (a0_1 < 0) = true := decide_eq_true c6
        clear c6
        have H' := Aside0.mk H
        clear H
        have hcz7_0 : w3.cell? ⟨gb101, 0, none⟩ = some (.int .i64 a0_0) := (blk_cell BK101.out 0).trans rfl
        have hcz7_1 : w3.cell? ⟨gb101, 1, none⟩ = some (.int .i64 a0_1) := (blk_cell BK101.out 1).trans rfl
        have hcz7_2 : w3.cell? ⟨gb101, 2, none⟩ = some (.int .u64 a0_2) := (blk_cell BK101.out 2).trans rfl
        have hcz7_3 : w3.cell? ⟨gb101, 3, none⟩ = some (.string a0_3) := (blk_cell BK101.out 3).trans rfl
        have hfz7_0 := blk_frozen BK101.out 0
        have hfz7_1 := blk_frozen BK101.out 1
        have hfz7_2 := blk_frozen BK101.out 2
        have hfz7_3 := blk_frozen BK101.out 3
        go_wp2
        go_meet
        case rel => exact ⟨_, (true), (by first | rfl | (simp; done) | (simp [*]; done)), H', ⟨by first | omega | exact Nat.le_refl _⟩, ⟨by (with_reducible repeat (first | refine blk_drewN ?_ _ | refine blk_drew ?_ | refine blk_alloc ?_ _)); exact BK101.out⟩, ⟨by repeat (first | (with_reducible first | exact HB.out | apply below_alloc | apply pw_below_drewN | apply below_drew1 | refine below_set ?_ GE101.out) | exact HB.out)⟩⟩
      · rw [if_neg c6] at H
        have c6b0 : decide (a0_1 < 0) = false := decide_eq_false c6
        clear c6
        replace H := Option.bind_eq_some_iff.mp H
        obtain ⟨t102, A80, H⟩ := H
        replace H : (wire_Field_Bytes.j0 k (!t102) a0_0 a0_1 a0_2 a0_3) = some r := H
        have A8 := Aside0.mk A80
        clear A80
        have H' := Aside0.mk H
        clear H
        have hcz9_0 : w3.cell? ⟨gb101, 0, none⟩ = some (.int .i64 a0_0) := (blk_cell BK101.out 0).trans rfl
        have hcz9_1 : w3.cell? ⟨gb101, 1, none⟩ = some (.int .i64 a0_1) := (blk_cell BK101.out 1).trans rfl
        have hcz9_2 : w3.cell? ⟨gb101, 2, none⟩ = some (.int .u64 a0_2) := (blk_cell BK101.out 2).trans rfl
        have hcz9_3 : w3.cell? ⟨gb101, 3, none⟩ = some (.string a0_3) := (blk_cell BK101.out 3).trans rfl
        have hfz9_0 := blk_frozen BK101.out 0
        have hfz9_1 := blk_frozen BK101.out 1
        have hfz9_2 := blk_frozen BK101.out 2
        have hfz9_3 := blk_frozen BK101.out 3
        go_wp2_with (first | (go_at_call 45; (with_reducible refine (wire_may.calls (IntKind.u64.wrap (a0_0)) (IntKind.u64.wrap (a0_1)) t102 _ A8.out).mono ?_); rintro e w' ⟨rfl, ⟨nd, rfl⟩⟩))
        go_meet
        case rel => exact ⟨_, (!t102), (by first | rfl | (simp; done) | (simp [*]; done)), H', ⟨by first | omega | exact Nat.le_refl _⟩, ⟨by (with_reducible repeat (first | refine blk_drewN ?_ _ | refine blk_drew ?_ | refine blk_alloc ?_ _)); exact BK101.out⟩, ⟨by repeat (first | (with_reducible first | exact HB.out | apply below_alloc | apply pw_below_drewN | apply below_drew1 | refine below_set ?_ GE101.out) | exact HB.out)⟩⟩
  case rest =>
    clear HC2
    try clear c2
    try clear p2
    try clear c4
    try clear c4b0
    try clear c6
    try clear c6b0
    try clear hcz5_0
    try clear hcz5_1
    try clear hcz5_2
    try clear hcz5_3
    try clear hcz7_0
    try clear hcz7_1
    try clear hcz7_2
    try clear hcz7_3
    try clear hcz9_0
    try clear hcz9_1
    try clear hcz9_2
    try clear hcz9_3
    try clear hfz5_0
    try clear hfz5_1
    try clear hfz5_2
    try clear hfz5_3
    try clear hfz7_0
    try clear hfz7_1
    try clear hfz7_2
    try clear hfz7_3
    try clear hfz9_0
    try clear hfz9_1
    try clear hfz9_2
    try clear hfz9_3
    obtain ⟨kq, x21_1, rfl, HA, HJ1, BK101, HB⟩ := hcut
    cases kq with
    | zero => exact absurd HA.out (by simp [wire_Field_Bytes.j0])
    | succ kj1 =>
      have H := HA.out
      clear HA
      simp only [wire_Field_Bytes.j0] at H
      by_cases c10 : x21_1 = true
      · subst c10
        have H1 : (some (⟨#[]⟩ : ByteArray)) = some r := by rw [if_pos rfl] at H; exact H
        clear H
        have H := H1
        clear H1
        obtain rfl := Option.some.inj H
        go_wp2
        go_ret
        exact ⟨by first | rfl | (simp [errW_none, errW_some] <;> rfl) | (simp [*, errW_none, errW_some] <;> rfl), by repeat (first | (with_reducible first | exact HB.out | apply below_alloc | apply pw_below_drewN | apply below_drew1 | refine below_set ?_ GE101.out) | exact HB.out)⟩
      · replace c10 := Bool.eq_false_iff.mpr c10
        subst c10
        have H1 : ((varint_Put.f (Go.bits .or .u64 (IntKind.u64.wrap ((IntKind.u64.wrap (a0_0)) * 8)) (IntKind.u64.wrap (a0_1)))).bind fun t103 => (if a0_1 = 0 then ((varint_Put.f a0_2).bind fun t104 => (if t103.size + t104.size ≤ 9223372036854775807 then (some (t103 ++ t104)) else (none))) else (if a0_1 = 2 then ((varint_Put.f (IntKind.u64.wrap ((a0_3.size : Int)))).bind fun t105 => (if t103.size + t105.size ≤ 9223372036854775807 then (if (t103 ++ t105).size + a0_3.size ≤ 9223372036854775807 then (some ((t103 ++ t105) ++ a0_3)) else (none)) else (none))) else (if a0_1 = 1 then ((wire_laid_s.f a0_2 8).bind fun t106 => (if t103.size + t106.size ≤ 9223372036854775807 then (some (t103 ++ t106)) else (none))) else (if a0_2 > 4294967295 then (some (⟨#[]⟩ : ByteArray)) else ((wire_laid_s.f a0_2 4).bind fun t107 => (if t103.size + t107.size ≤ 9223372036854775807 then (some (t103 ++ t107)) else (none)))))))) = some r := by rw [if_neg (show ¬ (false = true) by decide)] at H; exact H
        clear H
        have H := H1
        clear H1
        replace H := Option.bind_eq_some_iff.mp H
        obtain ⟨t103, A110, H⟩ := H
        replace H : (if a0_1 = 0 then ((varint_Put.f a0_2).bind fun t104 => (if t103.size + t104.size ≤ 9223372036854775807 then (some (t103 ++ t104)) else (none))) else (if a0_1 = 2 then ((varint_Put.f (IntKind.u64.wrap ((a0_3.size : Int)))).bind fun t105 => (if t103.size + t105.size ≤ 9223372036854775807 then (if (t103 ++ t105).size + a0_3.size ≤ 9223372036854775807 then (some ((t103 ++ t105) ++ a0_3)) else (none)) else (none))) else (if a0_1 = 1 then ((wire_laid_s.f a0_2 8).bind fun t106 => (if t103.size + t106.size ≤ 9223372036854775807 then (some (t103 ++ t106)) else (none))) else (if a0_2 > 4294967295 then (some (⟨#[]⟩ : ByteArray)) else ((wire_laid_s.f a0_2 4).bind fun t107 => (if t103.size + t107.size ≤ 9223372036854775807 then (some (t103 ++ t107)) else (none))))))) = some r := H
        have A11 := Aside0.mk A110
        clear A110
        by_cases c12 : a0_1 = 0
        · rw [if_pos c12] at H
          have c12b0 : (a0_1 == 0) = true := beq_iff_eq.mpr c12
          have c12b1 : (a0_1 != 0) = false := bne_eq_false_iff_eq.mpr c12
          clear c12
          replace H := Option.bind_eq_some_iff.mp H
          obtain ⟨t104, A130, H⟩ := H
          replace H : (if t103.size + t104.size ≤ 9223372036854775807 then (some (t103 ++ t104)) else (none)) = some r := H
          have A13 := Aside0.mk A130
          clear A130
          by_cases c14 : t103.size + t104.size ≤ 9223372036854775807
          · rw [if_pos c14] at H
            have c14b0 := eq_true c14
            have c14b1 : decide (t103.size + t104.size ≤ 9223372036854775807) = true := decide_eq_true c14
            try have c14b2 : (9223372036854775807 < t103.size + t104.size) = False := eq_false (Nat.not_lt.2 c14)
            try have c14b3 := c14b2
            try simp only [ByteArray.size_append] at c14b3
            obtain rfl := Option.some.inj H
            have hcz15_0 : wc.cell? ⟨gb101, 0, none⟩ = some (.int .i64 a0_0) := (blk_cell BK101.out 0).trans rfl
            have hcz15_1 : wc.cell? ⟨gb101, 1, none⟩ = some (.int .i64 a0_1) := (blk_cell BK101.out 1).trans rfl
            have hcz15_2 : wc.cell? ⟨gb101, 2, none⟩ = some (.int .u64 a0_2) := (blk_cell BK101.out 2).trans rfl
            have hcz15_3 : wc.cell? ⟨gb101, 3, none⟩ = some (.string a0_3) := (blk_cell BK101.out 3).trans rfl
            have hfz15_0 := blk_frozen BK101.out 0
            have hfz15_1 := blk_frozen BK101.out 1
            have hfz15_2 := blk_frozen BK101.out 2
            have hfz15_3 := blk_frozen BK101.out 3
            go_wp2_with (first | ((with_reducible refine gate_callee (f := 15) rfl ?_); refine goesL_ (some 30) rfl rfl Try.func15 (by kernel_rfl) rfl #[.int .u64 (Go.bits .or .u64 (IntKind.u64.wrap ((IntKind.u64.wrap (a0_0)) * 8)) (IntKind.u64.wrap (a0_1)))] rfl (by (try simp only [List.map_toArray, List.map_cons, List.map_nil]); first | done | rfl | (simp only [List.length_drop, List.length_take]; rfl)) ?_; (with_reducible refine (varint_Put.calls (Go.bits .or .u64 (IntKind.u64.wrap ((IntKind.u64.wrap (a0_0)) * 8)) (IntKind.u64.wrap (a0_1))) t103 _ A11.out).mono ?_); rintro e w16 ⟨rfl, hb⟩; refine ⟨_, rfl, ?_⟩; have n0_ := Aside0.mk (blk_below (g := gb101) (o := .cells #[.int .i64 a0_0, .int .i64 a0_1, .int .u64 a0_2, .string a0_3] 47 (0, 0)) (by (with_reducible repeat (first | refine blk_drewN ?_ _ | refine blk_drew ?_ | refine blk_alloc ?_ _)); exact BK101.out) hb); have n1_ := Aside0.mk (below_step (by repeat (first | (with_reducible first | exact HB.out | apply below_alloc | apply pw_below_drewN | apply below_drew1 | refine below_set ?_ GE101.out) | exact HB.out)) hb); clear BK101; clear HB; have BK101 := n0_; have HB := n1_; clear n0_ n1_; (try clear hb); (try clear hb2); (try clear hk); (try clear hi); have hcz17_0 : w16.cell? ⟨gb101, 0, none⟩ = some (.int .i64 a0_0) := (blk_cell BK101.out 0).trans rfl; have hcz17_1 : w16.cell? ⟨gb101, 1, none⟩ = some (.int .i64 a0_1) := (blk_cell BK101.out 1).trans rfl; have hcz17_2 : w16.cell? ⟨gb101, 2, none⟩ = some (.int .u64 a0_2) := (blk_cell BK101.out 2).trans rfl; have hcz17_3 : w16.cell? ⟨gb101, 3, none⟩ = some (.string a0_3) := (blk_cell BK101.out 3).trans rfl; have hfz17_0 := blk_frozen BK101.out 0; have hfz17_1 := blk_frozen BK101.out 1; have hfz17_2 := blk_frozen BK101.out 2; have hfz17_3 := blk_frozen BK101.out 3) | ((with_reducible refine gate_callee (f := 15) rfl ?_); refine goesL_ (some 38) rfl rfl Try.func15 (by kernel_rfl) rfl #[.int .u64 a0_2] rfl (by (try simp only [List.map_toArray, List.map_cons, List.map_nil]); first | done | rfl | (simp only [List.length_drop, List.length_take]; rfl)) ?_; (with_reducible refine (varint_Put.calls a0_2 t104 _ A13.out).mono ?_); rintro e w18 ⟨rfl, hb⟩; refine ⟨_, rfl, ?_⟩; have n0_ := Aside0.mk (blk_below (g := gb101) (o := .cells #[.int .i64 a0_0, .int .i64 a0_1, .int .u64 a0_2, .string a0_3] 47 (0, 0)) (by (with_reducible repeat (first | refine blk_drewN ?_ _ | refine blk_drew ?_ | refine blk_alloc ?_ _)); exact BK101.out) hb); have n1_ := Aside0.mk (below_step (by repeat (first | (with_reducible first | exact HB.out | apply below_alloc | apply pw_below_drewN | apply below_drew1 | refine below_set ?_ GE101.out) | exact HB.out)) hb); clear BK101; clear HB; have BK101 := n0_; have HB := n1_; clear n0_ n1_; (try clear hb); (try clear hb2); (try clear hk); (try clear hi)))
            go_ret
            exact ⟨by first | rfl | (simp [errW_none, errW_some] <;> rfl) | (simp [*, errW_none, errW_some] <;> rfl), by repeat (first | (with_reducible first | exact HB.out | apply below_alloc | apply pw_below_drewN | apply below_drew1 | refine below_set ?_ GE101.out) | exact HB.out)⟩
          · rw [if_neg c14] at H
            exact absurd H (by simp)
        · rw [if_neg c12] at H
          have c12b0 : (a0_1 == 0) = false := beq_eq_false_iff_ne.mpr c12
          have c12b1 : (a0_1 != 0) = true := bne_iff_ne.mpr c12
          by_cases c19 : a0_1 = 2
          · rw [if_pos c19] at H
            have c19b0 : (a0_1 == 2) = true := beq_iff_eq.mpr c19
            have c19b1 : (a0_1 != 2) = false := bne_eq_false_iff_eq.mpr c19
            clear c19
            replace H := Option.bind_eq_some_iff.mp H
            obtain ⟨t105, A200, H⟩ := H
            replace H : (if t103.size + t105.size ≤ 9223372036854775807 then (if (t103 ++ t105).size + a0_3.size ≤ 9223372036854775807 then (some ((t103 ++ t105) ++ a0_3)) else (none)) else (none)) = some r := H
            have A20 := Aside0.mk A200
            clear A200
            by_cases c21 : t103.size + t105.size ≤ 9223372036854775807
            · rw [if_pos c21] at H
              have c21b0 := eq_true c21
              have c21b1 : decide (t103.size + t105.size ≤ 9223372036854775807) = true := decide_eq_true c21
              try have c21b2 : (9223372036854775807 < t103.size + t105.size) = False := eq_false (Nat.not_lt.2 c21)
              try have c21b3 := c21b2
              try simp only [ByteArray.size_append] at c21b3
              by_cases c22 : (t103 ++ t105).size + a0_3.size ≤ 9223372036854775807
              · rw [if_pos c22] at H
                have c22b0 := eq_true c22
                have c22b1 : decide ((t103 ++ t105).size + a0_3.size ≤ 9223372036854775807) = true := decide_eq_true c22
                try have c22b2 : (9223372036854775807 < (t103 ++ t105).size + a0_3.size) = False := eq_false (Nat.not_lt.2 c22)
                try have c22b3 := c22b2
                try simp only [ByteArray.size_append] at c22b3
                obtain rfl := Option.some.inj H
                have hcz23_0 : wc.cell? ⟨gb101, 0, none⟩ = some (.int .i64 a0_0) := (blk_cell BK101.out 0).trans rfl
                have hcz23_1 : wc.cell? ⟨gb101, 1, none⟩ = some (.int .i64 a0_1) := (blk_cell BK101.out 1).trans rfl
                have hcz23_2 : wc.cell? ⟨gb101, 2, none⟩ = some (.int .u64 a0_2) := (blk_cell BK101.out 2).trans rfl
                have hcz23_3 : wc.cell? ⟨gb101, 3, none⟩ = some (.string a0_3) := (blk_cell BK101.out 3).trans rfl
                have hfz23_0 := blk_frozen BK101.out 0
                have hfz23_1 := blk_frozen BK101.out 1
                have hfz23_2 := blk_frozen BK101.out 2
                have hfz23_3 := blk_frozen BK101.out 3
                try go_wp2_with (first | ((with_reducible refine gate_callee (f := 15) rfl ?_); refine goesL_ (some 30) rfl rfl Try.func15 (by kernel_rfl) rfl #[.int .u64 (Go.bits .or .u64 (IntKind.u64.wrap ((IntKind.u64.wrap (a0_0)) * 8)) (IntKind.u64.wrap (a0_1)))] rfl (by (try simp only [List.map_toArray, List.map_cons, List.map_nil]); first | done | rfl | (simp only [List.length_drop, List.length_take]; rfl)) ?_; (with_reducible refine (varint_Put.calls (Go.bits .or .u64 (IntKind.u64.wrap ((IntKind.u64.wrap (a0_0)) * 8)) (IntKind.u64.wrap (a0_1))) t103 _ A11.out).mono ?_); rintro e w24 ⟨rfl, hb⟩; refine ⟨_, rfl, ?_⟩; have n0_ := Aside0.mk (blk_below (g := gb101) (o := .cells #[.int .i64 a0_0, .int .i64 a0_1, .int .u64 a0_2, .string a0_3] 47 (0, 0)) (by (with_reducible repeat (first | refine blk_drewN ?_ _ | refine blk_drew ?_ | refine blk_alloc ?_ _)); exact BK101.out) hb); have n1_ := Aside0.mk (below_step (by repeat (first | (with_reducible first | exact HB.out | apply below_alloc | apply pw_below_drewN | apply below_drew1 | refine below_set ?_ GE101.out) | exact HB.out)) hb); clear BK101; clear HB; have BK101 := n0_; have HB := n1_; clear n0_ n1_; (try clear hb); (try clear hb2); (try clear hk); (try clear hi); have hcz25_0 : w24.cell? ⟨gb101, 0, none⟩ = some (.int .i64 a0_0) := (blk_cell BK101.out 0).trans rfl; have hcz25_1 : w24.cell? ⟨gb101, 1, none⟩ = some (.int .i64 a0_1) := (blk_cell BK101.out 1).trans rfl; have hcz25_2 : w24.cell? ⟨gb101, 2, none⟩ = some (.int .u64 a0_2) := (blk_cell BK101.out 2).trans rfl; have hcz25_3 : w24.cell? ⟨gb101, 3, none⟩ = some (.string a0_3) := (blk_cell BK101.out 3).trans rfl; have hfz25_0 := blk_frozen BK101.out 0; have hfz25_1 := blk_frozen BK101.out 1; have hfz25_2 := blk_frozen BK101.out 2; have hfz25_3 := blk_frozen BK101.out 3))
                have n0_ := Aside0.mk (blk_drew BK101.out)
                have n1_ := Aside0.mk (below_drew1 HB.out)
                clear BK101
                clear HB
                have BK101 := n0_
                have HB := n1_
                clear n0_ n1_
                refine start_ (n := 11) (S := fun w' => w'.cell? ⟨gb101, 0, none⟩ = some (.int .i64 a0_0) ∧ w'.cell? ⟨gb101, 1, none⟩ = some (.int .i64 a0_1) ∧ w'.cell? ⟨gb101, 2, none⟩ = some (.int .u64 a0_2) ∧ w'.cell? ⟨gb101, 3, none⟩ = some (.string a0_3)) (ds := []) #[false, false, false, false, false, false, false, false, false, false, false] (by kernel_rfl) rfl rfl ⟨(blk_cell BK101.out 0).trans rfl, (blk_cell BK101.out 1).trans rfl, (blk_cell BK101.out 2).trans rfl, (blk_cell BK101.out 3).trans rfl⟩ (fun hHeld => ?_); refine with_tabW wire_Field_Bytes.tab8 wire_Field_Bytes.bits8 (fun HT_ HW_ => ?_)
                generalize w24.drew = w26 at BK101 HB hHeld ⊢
                refine pure_ (i := 0) (N := some 42) (v := ?_) (a' := ?_) #[true, false, false, false, false, false, false, false, false, false, false] rfl rfl (any_of HT_.out (by kernel_rfl)) (fun _ _ _ h => h) (Or.inl ⟨by rfl, ?_⟩) ?_ ?_
                rotate_left
                · intro w'
                  go_simp
                  with_reducible rfl
                rotate_left
                · simp only [Act.put, List.setIfInBounds_toArray, List.set_cons_zero, List.set_cons_succ, i64_w, i32_w]
                  rfl
                refine pure_ (i := 1) (N := some 43) (v := ?_) (a' := ?_) #[true, true, false, false, false, false, false, false, false, false, false] rfl rfl (any_of HT_.out (by kernel_rfl)) (fun _ _ _ h => h) (Or.inl ⟨by rfl, ?_⟩) ?_ ?_
                rotate_left
                · intro w'
                  go_simp
                  with_reducible rfl
                rotate_left
                · simp only [Act.put, List.setIfInBounds_toArray, List.set_cons_zero, List.set_cons_succ, i64_w, i32_w]
                  rfl
                refine pure_ (i := 7) (N := some 49) (v := ?_) (a' := ?_) #[true, true, false, false, false, false, false, true, false, false, false] rfl rfl (any_of HT_.out (by kernel_rfl)) (fun _ _ _ h => h) (Or.inl ⟨by rfl, ?_⟩) ?_ ?_
                rotate_left
                · intro w'
                  go_simp
                  with_reducible rfl
                rotate_left
                · simp only [Act.put, List.setIfInBounds_toArray, List.set_cons_zero, List.set_cons_succ, i64_w, i32_w]
                  rfl
                refine take_ (i := 2) (N := some 44) (v := ?_) (a' := ?_) #[true, true, true, false, false, false, false, true, false, false, false] rfl rfl (take_ofW HT_.out HW_.out (by kernel_rfl)) (fun _ _ _ h => h) (Or.inl ⟨by rfl, ?_⟩) hHeld ?_ ?_
                rotate_left
                · rintro w' ⟨s0, s1, s2, s3⟩
                  go_simp
                  with_reducible rfl
                rotate_left
                · simp only [Act.put, List.setIfInBounds_toArray, List.set_cons_zero, List.set_cons_succ, i64_w, i32_w]
                  rfl
                refine pure_ (i := 3) (N := some 45) (v := ?_) (a' := ?_) #[true, true, true, true, false, false, false, true, false, false, false] rfl rfl (any_of HT_.out (by kernel_rfl)) (fun _ _ _ h => h) (Or.inl ⟨by rfl, ?_⟩) ?_ ?_
                rotate_left
                · intro w'
                  go_simp
                  with_reducible rfl
                rotate_left
                · simp only [Act.put, List.setIfInBounds_toArray, List.set_cons_zero, List.set_cons_succ, i64_w, i32_w]
                  rfl
                refine pure_ (i := 4) (N := some 46) (v := ?_) (a' := ?_) #[true, true, true, true, true, false, false, true, false, false, false] rfl rfl (any_of HT_.out (by kernel_rfl)) (fun _ _ _ h => h) (Or.inl ⟨by rfl, ?_⟩) ?_ ?_
                rotate_left
                · intro w'
                  go_simp
                  with_reducible rfl
                rotate_left
                · simp only [Act.put, List.setIfInBounds_toArray, List.set_cons_zero, List.set_cons_succ, i64_w, i32_w]
                  rfl
                refine take_ (i := 8) (N := some 50) (v := ?_) (a' := ?_) #[true, true, true, true, true, false, false, true, true, false, false] rfl rfl (take_ofW HT_.out HW_.out (by kernel_rfl)) (fun _ _ _ h => h) (Or.inl ⟨by rfl, ?_⟩) hHeld ?_ ?_
                rotate_left
                · rintro w' ⟨s0, s1, s2, s3⟩
                  go_simp
                  with_reducible rfl
                rotate_left
                · simp only [Act.put, List.setIfInBounds_toArray, List.set_cons_zero, List.set_cons_succ, i64_w, i32_w]
                  rfl
                refine one_ (i := 5) (N := some 47) #[true, true, true, true, true, true, false, true, true, false, false] rfl rfl (one_of HT_.out (by kernel_rfl)) (by decide) (fun K hK => ?_)
                refine goes_ Try.func15 (by kernel_rfl) rfl #[.int .u64 (IntKind.u64.wrap ((a0_3.size : Int)))] (by rfl) rfl rfl (by (try simp only [List.map_toArray, List.map_cons, List.map_nil]); first | done | rfl | (simp only [List.length_drop, List.length_take]; rfl)) ?_
                with_reducible refine (varint_Put.calls (IntKind.u64.wrap ((a0_3.size : Int))) t105 _ A20.out).mono ?_
                rintro e w27 ⟨rfl, hb⟩
                refine ⟨_, rfl, ?_⟩
                have n0_ := Aside0.mk (blk_below (g := gb101) (o := .cells #[.int .i64 a0_0, .int .i64 a0_1, .int .u64 a0_2, .string a0_3] 47 (0, 0)) (by (with_reducible repeat (first | refine blk_drewN ?_ _ | refine blk_drew ?_ | refine blk_alloc ?_ _)); exact BK101.out) hb)
                have n1_ := Aside0.mk (below_step (by repeat (first | (with_reducible first | exact HB.out | apply below_alloc | apply pw_below_drewN | apply below_drew1 | refine below_set ?_ GE101.out) | exact HB.out)) hb)
                clear BK101
                clear HB
                have BK101 := n0_
                have HB := n1_
                clear n0_ n1_
                (try clear hb)
                (try clear hb2)
                (try clear hk)
                (try clear hi)
                refine hK.out _ _ ⟨(blk_cell BK101.out 0).trans rfl, (blk_cell BK101.out 1).trans rfl, (blk_cell BK101.out 2).trans rfl, (blk_cell BK101.out 3).trans rfl⟩ (fun hHeld => ?_)
                clear hK K
                refine norm_ (a' := ?_) ?_ ?_
                rotate_left
                · show Act.put _ (some 47) _ = _
                  simp only [Act.put, List.setIfInBounds_toArray, List.set_cons_zero, List.set_cons_succ, i64_w, i32_w]
                  rfl
                refine pure_ (i := 6) (N := some 48) (v := ?_) (a' := ?_) #[true, true, true, true, true, true, true, true, true, false, false] rfl rfl (any_of HT_.out (by kernel_rfl)) (fun _ _ _ h => h) (Or.inl ⟨by rfl, ?_⟩) ?_ ?_
                rotate_left
                · intro w'
                  go_simp
                  with_reducible rfl
                rotate_left
                · simp only [Act.put, List.setIfInBounds_toArray, List.set_cons_zero, List.set_cons_succ, i64_w, i32_w]
                  rfl
                refine pure_ (i := 9) (N := some 51) (v := ?_) (a' := ?_) #[true, true, true, true, true, true, true, true, true, true, false] rfl rfl (any_of HT_.out (by kernel_rfl)) (fun _ _ _ h => h) (Or.inl ⟨by rfl, ?_⟩) ?_ ?_
                rotate_left
                · intro w'
                  go_simp
                  with_reducible rfl
                rotate_left
                · simp only [Act.put, List.setIfInBounds_toArray, List.set_cons_zero, List.set_cons_succ, i64_w, i32_w]
                  rfl
                refine pure_ (i := 10) (N := some 2) (v := ?_) (a' := ?_) #[true, true, true, true, true, true, true, true, true, true, true] rfl rfl (any_of HT_.out (by kernel_rfl)) (fun _ _ _ h => h) (Or.inl ⟨by rfl, ?_⟩) ?_ ?_
                rotate_left
                · intro w'
                  go_simp
                  with_reducible rfl
                rotate_left
                · simp only [Act.put, List.setIfInBounds_toArray, List.set_cons_zero, List.set_cons_succ, i64_w, i32_w]
                  rfl
                refine done_ (done_of HT_.out (by kernel_rfl)) ?_
                try go_wp2
                go_ret
                exact ⟨by first | rfl | (simp [errW_none, errW_some] <;> rfl) | (simp [*, errW_none, errW_some] <;> rfl), by repeat (first | (with_reducible first | exact HB.out | apply below_alloc | apply pw_below_drewN | apply below_drew1 | refine below_set ?_ GE101.out) | exact HB.out)⟩
              · rw [if_neg c22] at H
                exact absurd H (by simp)
            · rw [if_neg c21] at H
              exact absurd H (by simp)
          · rw [if_neg c19] at H
            have c19b0 : (a0_1 == 2) = false := beq_eq_false_iff_ne.mpr c19
            have c19b1 : (a0_1 != 2) = true := bne_iff_ne.mpr c19
            by_cases c28 : a0_1 = 1
            · rw [if_pos c28] at H
              have c28b0 : (a0_1 == 1) = true := beq_iff_eq.mpr c28
              have c28b1 : (a0_1 != 1) = false := bne_eq_false_iff_eq.mpr c28
              clear c28
              replace H := Option.bind_eq_some_iff.mp H
              obtain ⟨t106, A290, H⟩ := H
              replace H : (if t103.size + t106.size ≤ 9223372036854775807 then (some (t103 ++ t106)) else (none)) = some r := H
              have A29 := Aside0.mk A290
              clear A290
              by_cases c30 : t103.size + t106.size ≤ 9223372036854775807
              · rw [if_pos c30] at H
                have c30b0 := eq_true c30
                have c30b1 : decide (t103.size + t106.size ≤ 9223372036854775807) = true := decide_eq_true c30
                try have c30b2 : (9223372036854775807 < t103.size + t106.size) = False := eq_false (Nat.not_lt.2 c30)
                try have c30b3 := c30b2
                try simp only [ByteArray.size_append] at c30b3
                obtain rfl := Option.some.inj H
                have hcz31_0 : wc.cell? ⟨gb101, 0, none⟩ = some (.int .i64 a0_0) := (blk_cell BK101.out 0).trans rfl
                have hcz31_1 : wc.cell? ⟨gb101, 1, none⟩ = some (.int .i64 a0_1) := (blk_cell BK101.out 1).trans rfl
                have hcz31_2 : wc.cell? ⟨gb101, 2, none⟩ = some (.int .u64 a0_2) := (blk_cell BK101.out 2).trans rfl
                have hcz31_3 : wc.cell? ⟨gb101, 3, none⟩ = some (.string a0_3) := (blk_cell BK101.out 3).trans rfl
                have hfz31_0 := blk_frozen BK101.out 0
                have hfz31_1 := blk_frozen BK101.out 1
                have hfz31_2 := blk_frozen BK101.out 2
                have hfz31_3 := blk_frozen BK101.out 3
                go_wp2_with (first | ((with_reducible refine gate_callee (f := 15) rfl ?_); refine goesL_ (some 30) rfl rfl Try.func15 (by kernel_rfl) rfl #[.int .u64 (Go.bits .or .u64 (IntKind.u64.wrap ((IntKind.u64.wrap (a0_0)) * 8)) (IntKind.u64.wrap (a0_1)))] rfl (by (try simp only [List.map_toArray, List.map_cons, List.map_nil]); first | done | rfl | (simp only [List.length_drop, List.length_take]; rfl)) ?_; (with_reducible refine (varint_Put.calls (Go.bits .or .u64 (IntKind.u64.wrap ((IntKind.u64.wrap (a0_0)) * 8)) (IntKind.u64.wrap (a0_1))) t103 _ A11.out).mono ?_); rintro e w32 ⟨rfl, hb⟩; refine ⟨_, rfl, ?_⟩; have n0_ := Aside0.mk (blk_below (g := gb101) (o := .cells #[.int .i64 a0_0, .int .i64 a0_1, .int .u64 a0_2, .string a0_3] 47 (0, 0)) (by (with_reducible repeat (first | refine blk_drewN ?_ _ | refine blk_drew ?_ | refine blk_alloc ?_ _)); exact BK101.out) hb); have n1_ := Aside0.mk (below_step (by repeat (first | (with_reducible first | exact HB.out | apply below_alloc | apply pw_below_drewN | apply below_drew1 | refine below_set ?_ GE101.out) | exact HB.out)) hb); clear BK101; clear HB; have BK101 := n0_; have HB := n1_; clear n0_ n1_; (try clear hb); (try clear hb2); (try clear hk); (try clear hi); have hcz33_0 : w32.cell? ⟨gb101, 0, none⟩ = some (.int .i64 a0_0) := (blk_cell BK101.out 0).trans rfl; have hcz33_1 : w32.cell? ⟨gb101, 1, none⟩ = some (.int .i64 a0_1) := (blk_cell BK101.out 1).trans rfl; have hcz33_2 : w32.cell? ⟨gb101, 2, none⟩ = some (.int .u64 a0_2) := (blk_cell BK101.out 2).trans rfl; have hcz33_3 : w32.cell? ⟨gb101, 3, none⟩ = some (.string a0_3) := (blk_cell BK101.out 3).trans rfl; have hfz33_0 := blk_frozen BK101.out 0; have hfz33_1 := blk_frozen BK101.out 1; have hfz33_2 := blk_frozen BK101.out 2; have hfz33_3 := blk_frozen BK101.out 3) | ((with_reducible refine gate_callee (f := 46) rfl ?_); refine goesL_ (some 57) rfl rfl Try.func46 (by kernel_rfl) rfl #[.int .u64 a0_2, .int .i64 8] rfl (by (try simp only [List.map_toArray, List.map_cons, List.map_nil]); first | done | rfl | (simp only [List.length_drop, List.length_take]; rfl)) ?_; (with_reducible refine (wire_laid_s.calls a0_2 8 t106 _ A29.out).mono ?_); rintro e w34 ⟨rfl, hb⟩; refine ⟨_, rfl, ?_⟩; have n0_ := Aside0.mk (blk_below (g := gb101) (o := .cells #[.int .i64 a0_0, .int .i64 a0_1, .int .u64 a0_2, .string a0_3] 47 (0, 0)) (by (with_reducible repeat (first | refine blk_drewN ?_ _ | refine blk_drew ?_ | refine blk_alloc ?_ _)); exact BK101.out) hb); have n1_ := Aside0.mk (below_step (by repeat (first | (with_reducible first | exact HB.out | apply below_alloc | apply pw_below_drewN | apply below_drew1 | refine below_set ?_ GE101.out) | exact HB.out)) hb); clear BK101; clear HB; have BK101 := n0_; have HB := n1_; clear n0_ n1_; (try clear hb); (try clear hb2); (try clear hk); (try clear hi)))
                go_ret
                exact ⟨by first | rfl | (simp [errW_none, errW_some] <;> rfl) | (simp [*, errW_none, errW_some] <;> rfl), by repeat (first | (with_reducible first | exact HB.out | apply below_alloc | apply pw_below_drewN | apply below_drew1 | refine below_set ?_ GE101.out) | exact HB.out)⟩
              · rw [if_neg c30] at H
                exact absurd H (by simp)
            · rw [if_neg c28] at H
              have c28b0 : (a0_1 == 1) = false := beq_eq_false_iff_ne.mpr c28
              have c28b1 : (a0_1 != 1) = true := bne_iff_ne.mpr c28
              by_cases c35 : a0_2 > 4294967295
              · rw [if_pos c35] at H
                have c35b0 : decide (4294967295 < a0_2) = true := decide_eq_true c35
                clear c35
                obtain rfl := Option.some.inj H
                have hcz36_0 : wc.cell? ⟨gb101, 0, none⟩ = some (.int .i64 a0_0) := (blk_cell BK101.out 0).trans rfl
                have hcz36_1 : wc.cell? ⟨gb101, 1, none⟩ = some (.int .i64 a0_1) := (blk_cell BK101.out 1).trans rfl
                have hcz36_2 : wc.cell? ⟨gb101, 2, none⟩ = some (.int .u64 a0_2) := (blk_cell BK101.out 2).trans rfl
                have hcz36_3 : wc.cell? ⟨gb101, 3, none⟩ = some (.string a0_3) := (blk_cell BK101.out 3).trans rfl
                have hfz36_0 := blk_frozen BK101.out 0
                have hfz36_1 := blk_frozen BK101.out 1
                have hfz36_2 := blk_frozen BK101.out 2
                have hfz36_3 := blk_frozen BK101.out 3
                go_wp2_with (first | ((with_reducible refine gate_callee (f := 15) rfl ?_); refine goesL_ (some 30) rfl rfl Try.func15 (by kernel_rfl) rfl #[.int .u64 (Go.bits .or .u64 (IntKind.u64.wrap ((IntKind.u64.wrap (a0_0)) * 8)) (IntKind.u64.wrap (a0_1)))] rfl (by (try simp only [List.map_toArray, List.map_cons, List.map_nil]); first | done | rfl | (simp only [List.length_drop, List.length_take]; rfl)) ?_; (with_reducible refine (varint_Put.calls (Go.bits .or .u64 (IntKind.u64.wrap ((IntKind.u64.wrap (a0_0)) * 8)) (IntKind.u64.wrap (a0_1))) t103 _ A11.out).mono ?_); rintro e w37 ⟨rfl, hb⟩; refine ⟨_, rfl, ?_⟩; have n0_ := Aside0.mk (blk_below (g := gb101) (o := .cells #[.int .i64 a0_0, .int .i64 a0_1, .int .u64 a0_2, .string a0_3] 47 (0, 0)) (by (with_reducible repeat (first | refine blk_drewN ?_ _ | refine blk_drew ?_ | refine blk_alloc ?_ _)); exact BK101.out) hb); have n1_ := Aside0.mk (below_step (by repeat (first | (with_reducible first | exact HB.out | apply below_alloc | apply pw_below_drewN | apply below_drew1 | refine below_set ?_ GE101.out) | exact HB.out)) hb); clear BK101; clear HB; have BK101 := n0_; have HB := n1_; clear n0_ n1_; (try clear hb); (try clear hb2); (try clear hk); (try clear hi); have hcz38_0 : w37.cell? ⟨gb101, 0, none⟩ = some (.int .i64 a0_0) := (blk_cell BK101.out 0).trans rfl; have hcz38_1 : w37.cell? ⟨gb101, 1, none⟩ = some (.int .i64 a0_1) := (blk_cell BK101.out 1).trans rfl; have hcz38_2 : w37.cell? ⟨gb101, 2, none⟩ = some (.int .u64 a0_2) := (blk_cell BK101.out 2).trans rfl; have hcz38_3 : w37.cell? ⟨gb101, 3, none⟩ = some (.string a0_3) := (blk_cell BK101.out 3).trans rfl; have hfz38_0 := blk_frozen BK101.out 0; have hfz38_1 := blk_frozen BK101.out 1; have hfz38_2 := blk_frozen BK101.out 2; have hfz38_3 := blk_frozen BK101.out 3))
                go_ret
                exact ⟨by first | rfl | (simp [errW_none, errW_some] <;> rfl) | (simp [*, errW_none, errW_some] <;> rfl), by repeat (first | (with_reducible first | exact HB.out | apply below_alloc | apply pw_below_drewN | apply below_drew1 | refine below_set ?_ GE101.out) | exact HB.out)⟩
              · rw [if_neg c35] at H
                have c35b0 : decide (4294967295 < a0_2) = false := decide_eq_false c35
                clear c35
                replace H := Option.bind_eq_some_iff.mp H
                obtain ⟨t107, A390, H⟩ := H
                replace H : (if t103.size + t107.size ≤ 9223372036854775807 then (some (t103 ++ t107)) else (none)) = some r := H
                have A39 := Aside0.mk A390
                clear A390
                by_cases c40 : t103.size + t107.size ≤ 9223372036854775807
                · rw [if_pos c40] at H
                  have c40b0 := eq_true c40
                  have c40b1 : decide (t103.size + t107.size ≤ 9223372036854775807) = true := decide_eq_true c40
                  try have c40b2 : (9223372036854775807 < t103.size + t107.size) = False := eq_false (Nat.not_lt.2 c40)
                  try have c40b3 := c40b2
                  try simp only [ByteArray.size_append] at c40b3
                  obtain rfl := Option.some.inj H
                  have hcz41_0 : wc.cell? ⟨gb101, 0, none⟩ = some (.int .i64 a0_0) := (blk_cell BK101.out 0).trans rfl
                  have hcz41_1 : wc.cell? ⟨gb101, 1, none⟩ = some (.int .i64 a0_1) := (blk_cell BK101.out 1).trans rfl
                  have hcz41_2 : wc.cell? ⟨gb101, 2, none⟩ = some (.int .u64 a0_2) := (blk_cell BK101.out 2).trans rfl
                  have hcz41_3 : wc.cell? ⟨gb101, 3, none⟩ = some (.string a0_3) := (blk_cell BK101.out 3).trans rfl
                  have hfz41_0 := blk_frozen BK101.out 0
                  have hfz41_1 := blk_frozen BK101.out 1
                  have hfz41_2 := blk_frozen BK101.out 2
                  have hfz41_3 := blk_frozen BK101.out 3
                  go_wp2_with (first | ((with_reducible refine gate_callee (f := 15) rfl ?_); refine goesL_ (some 30) rfl rfl Try.func15 (by kernel_rfl) rfl #[.int .u64 (Go.bits .or .u64 (IntKind.u64.wrap ((IntKind.u64.wrap (a0_0)) * 8)) (IntKind.u64.wrap (a0_1)))] rfl (by (try simp only [List.map_toArray, List.map_cons, List.map_nil]); first | done | rfl | (simp only [List.length_drop, List.length_take]; rfl)) ?_; (with_reducible refine (varint_Put.calls (Go.bits .or .u64 (IntKind.u64.wrap ((IntKind.u64.wrap (a0_0)) * 8)) (IntKind.u64.wrap (a0_1))) t103 _ A11.out).mono ?_); rintro e w42 ⟨rfl, hb⟩; refine ⟨_, rfl, ?_⟩; have n0_ := Aside0.mk (blk_below (g := gb101) (o := .cells #[.int .i64 a0_0, .int .i64 a0_1, .int .u64 a0_2, .string a0_3] 47 (0, 0)) (by (with_reducible repeat (first | refine blk_drewN ?_ _ | refine blk_drew ?_ | refine blk_alloc ?_ _)); exact BK101.out) hb); have n1_ := Aside0.mk (below_step (by repeat (first | (with_reducible first | exact HB.out | apply below_alloc | apply pw_below_drewN | apply below_drew1 | refine below_set ?_ GE101.out) | exact HB.out)) hb); clear BK101; clear HB; have BK101 := n0_; have HB := n1_; clear n0_ n1_; (try clear hb); (try clear hb2); (try clear hk); (try clear hi); have hcz43_0 : w42.cell? ⟨gb101, 0, none⟩ = some (.int .i64 a0_0) := (blk_cell BK101.out 0).trans rfl; have hcz43_1 : w42.cell? ⟨gb101, 1, none⟩ = some (.int .i64 a0_1) := (blk_cell BK101.out 1).trans rfl; have hcz43_2 : w42.cell? ⟨gb101, 2, none⟩ = some (.int .u64 a0_2) := (blk_cell BK101.out 2).trans rfl; have hcz43_3 : w42.cell? ⟨gb101, 3, none⟩ = some (.string a0_3) := (blk_cell BK101.out 3).trans rfl; have hfz43_0 := blk_frozen BK101.out 0; have hfz43_1 := blk_frozen BK101.out 1; have hfz43_2 := blk_frozen BK101.out 2; have hfz43_3 := blk_frozen BK101.out 3) | ((with_reducible refine gate_callee (f := 46) rfl ?_); refine goesL_ (some 65) rfl rfl Try.func46 (by kernel_rfl) rfl #[.int .u64 a0_2, .int .i64 4] rfl (by (try simp only [List.map_toArray, List.map_cons, List.map_nil]); first | done | rfl | (simp only [List.length_drop, List.length_take]; rfl)) ?_; (with_reducible refine (wire_laid_s.calls a0_2 4 t107 _ A39.out).mono ?_); rintro e w44 ⟨rfl, hb⟩; refine ⟨_, rfl, ?_⟩; have n0_ := Aside0.mk (blk_below (g := gb101) (o := .cells #[.int .i64 a0_0, .int .i64 a0_1, .int .u64 a0_2, .string a0_3] 47 (0, 0)) (by (with_reducible repeat (first | refine blk_drewN ?_ _ | refine blk_drew ?_ | refine blk_alloc ?_ _)); exact BK101.out) hb); have n1_ := Aside0.mk (below_step (by repeat (first | (with_reducible first | exact HB.out | apply below_alloc | apply pw_below_drewN | apply below_drew1 | refine below_set ?_ GE101.out) | exact HB.out)) hb); clear BK101; clear HB; have BK101 := n0_; have HB := n1_; clear n0_ n1_; (try clear hb); (try clear hb2); (try clear hk); (try clear hi)))
                  go_ret
                  exact ⟨by first | rfl | (simp [errW_none, errW_some] <;> rfl) | (simp [*, errW_none, errW_some] <;> rfl), by repeat (first | (with_reducible first | exact HB.out | apply below_alloc | apply pw_below_drewN | apply below_drew1 | refine below_set ?_ GE101.out) | exact HB.out)⟩
                · rw [if_neg c40] at H
                  exact absurd H (by simp)

end Go.Proofs.Ytohddbiedabmhaa.X
