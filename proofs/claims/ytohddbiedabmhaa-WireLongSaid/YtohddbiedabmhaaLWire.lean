-- by xprint.py, a program of this session, over the kit's print.py
import Derived.Test.YtohddbiedabmhaaT0
import Derived.Test.YtohddbiedabmhaaLVarint
import Derived.Test.YtohddbiedabmhaaLVarintMore
namespace Go.Proofs.Ytohddbiedabmhaa.X
open Go.RowKit Go.Proofs.YtohddbiedabmhaaW.PrintWords Go.Proofs.YtohddbiedabmhaaW.PrintLast Go.Proofs.YtohddbiedabmhaaW.PrintMore
attribute [local go_sem] max2_int min2_int max_two min_two max_three min_three max_four min_four   -- for this text's walks alone
set_option linter.unusedVariables false
set_option linter.unusedSimpArgs false

/-! Fields of a message: plain Lean -/
abbrev Fl := Int × Int × Int × ByteArray
def flP (x : S47) : Fl := (x.f0, x.f1, x.f2, x.f3)
def flR (x : S50) : Fl := (x.f0, x.f1, x.f2, x.f3)
def toP (x : Fl) : S47 := ⟨x.1, x.2.1, x.2.2.1, x.2.2.2⟩
def toR (x : Fl) : S50 := ⟨x.1, x.2.1, x.2.2.1, x.2.2.2⟩
theorem flP_toP (x : Fl) : flP (toP x) = x := rfl
theorem flR_toR (x : Fl) : flR (toR x) = x := rfl
theorem toP_flP (x : S47) : toP (flP x) = x := rfl
theorem toR_flR (x : S50) : toR (flR x) = x := rfl
theorem map_flP_toP (l : List Fl) : (l.map toP).map flP = l := by simp [flP_toP, Function.comp_def]
theorem map_flR_toR (l : List Fl) : (l.map toR).map flR = l := by simp [flR_toR, Function.comp_def]
/-- the number of bytes, the lowest first -/
def lowS : List Nat → Nat
  | [] => 0
  | c :: l => c + 256 * lowS l
theorem lowS_lt (l : List Nat) (h : ∀ c ∈ l, c < 256) : lowS l < 256 ^ l.length := by
  induction l with
  | nil => simp [lowS]
  | cons c l ih =>
    have h1 := ih (fun x hx => h x (List.mem_cons_of_mem _ hx))
    have h2 := h c (List.mem_cons_self ..)
    simp only [lowS, List.length_cons, Nat.pow_succ]
    omega
theorem lowS_snoc (l : List Nat) (c : Nat) : lowS (l ++ [c]) = lowS l + c * 256 ^ l.length := by
  induction l with
  | nil => simp [lowS]
  | cons d l ih =>
    simp only [List.cons_append, lowS, ih, List.length_cons, Nat.pow_succ]
    rw [Nat.mul_add, Nat.add_assoc, Nat.mul_comm (256 ^ l.length) 256, ← Nat.mul_assoc c, Nat.mul_comm c 256, Nat.mul_assoc]
/-- so many bytes of a number, the lowest first -/
def laidS (v n : Nat) : List Nat := (List.range n).map fun i => v / 256 ^ i % 256
theorem laidS_succ (v n : Nat) : laidS v (n + 1) = laidS v n ++ [v / 256 ^ n % 256] := by simp [laidS, List.range_succ]
theorem laidS_bound (v n : Nat) : ∀ c ∈ laidS v n, c < 256 := by
  intro c hc
  simp only [laidS, List.mem_map] at hc
  obtain ⟨i, _, rfl⟩ := hc
  exact Nat.mod_lt _ (by decide)
theorem laidS_length (v n : Nat) : (laidS v n).length = n := by simp [laidS]
theorem lowS_laidS (v n : Nat) : lowS (laidS v n) = v % 256 ^ n := by
  induction n with
  | zero => simp [laidS, lowS, Nat.mod_one]
  | succ n ih =>
    rw [laidS_succ, lowS_snoc, ih, laidS_length, Nat.pow_succ, Nat.mod_mul, Nat.mul_comm]
def laidStr (v n : Nat) : ByteArray := strOfNums ((laidS v n).map Int.ofNat)
theorem ns_laidStr (v n : Nat) : ns (laidStr v n) = laidS v n := ns_strOfNums _ (laidS_bound v n)
theorem laidStr_size (v n : Nat) : (laidStr v n).size = n := by rw [← ns_length, ns_laidStr, laidS_length]
theorem strOfNums_append (a b : List Int) : strOfNums (a ++ b) = strOfNums a ++ strOfNums b := by
  simp [strOfNums, ByteArray.append_eq, ByteArray.append, ByteArray.ext_iff, ByteArray.data_append]
/-- one field's writing -/
def bytesS (num ty n : Int) (d : ByteArray) : ByteArray :=
  if 1 ≤ num ∧ num ≤ 536870911 ∧ (ty = 0 ∨ ty = 1 ∨ ty = 2 ∨ ty = 5) then
    if ty = 0 then vStr (8 * num + ty).toNat ++ vStr n.toNat
    else if ty = 2 then vStr (8 * num + ty).toNat ++ vStr d.size ++ d
    else if ty = 1 then vStr (8 * num + ty).toNat ++ laidStr n.toNat 8
    else if n > 4294967295 then ⟨#[]⟩ else vStr (8 * num + ty).toNat ++ laidStr n.toNat 4
  else ⟨#[]⟩
/-- the field with which a text begins: the field, its bytes, the code -/
def oneS (b : ByteArray) : Fl × Nat × Nat :=
  if (vRead b).2.2 ≠ 0 then ((0, 0, 0, ⟨#[]⟩), 0, (vRead b).2.2)
  else if ¬ (1 ≤ (vRead b).1 / 8 ∧ (vRead b).1 / 8 ≤ 536870911 ∧ ((vRead b).1 % 8 = 0 ∨ (vRead b).1 % 8 = 1 ∨ (vRead b).1 % 8 = 2 ∨ (vRead b).1 % 8 = 5)) then ((0, 0, 0, ⟨#[]⟩), 0, 3)
  else if (vRead b).1 % 8 = 0 ∨ (vRead b).1 % 8 = 2 then
    let q := vRead (b.extract (vRead b).2.1 b.size)
    if q.2.2 ≠ 0 then ((0, 0, 0, ⟨#[]⟩), 0, q.2.2)
    else if (vRead b).1 % 8 = 0 then (((vRead b).1 / 8, 0, q.1, ⟨#[]⟩), (vRead b).2.1 + q.2.1, 0)
    else if b.size - ((vRead b).2.1 + q.2.1) < q.1 then ((0, 0, 0, ⟨#[]⟩), 0, 1)
    else (((vRead b).1 / 8, 2, 0, b.extract ((vRead b).2.1 + q.2.1) ((vRead b).2.1 + q.2.1 + q.1)), (vRead b).2.1 + q.2.1 + q.1, 0)
  else
    let size := if (vRead b).1 % 8 = 5 then 4 else 8
    if b.size - (vRead b).2.1 < size then ((0, 0, 0, ⟨#[]⟩), 0, 1)
    else (((vRead b).1 / 8, ((vRead b).1 % 8 : Nat), (lowS (ns (b.extract (vRead b).2.1 ((vRead b).2.1 + size))) : Nat), ⟨#[]⟩), (vRead b).2.1 + size, 0)
/-- a message's fields, with so many rounds -/
def fieldsF : Nat → ByteArray → List Fl × Nat
  | 0, _ => ([], 0)
  | k + 1, b => if b.size = 0 then ([], 0) else if (oneS b).2.2 ≠ 0 then ([], (oneS b).2.2)
    else if (fieldsF k (b.extract (oneS b).2.1 b.size)).2 ≠ 0 then ([], (fieldsF k (b.extract (oneS b).2.1 b.size)).2)
    else ((oneS b).1 :: (fieldsF k (b.extract (oneS b).2.1 b.size)).1, 0)
def fieldsS (b : ByteArray) : List Fl × Nat := if b.size > 1048576 then ([], 2) else fieldsF b.size b
theorem vRead_pos (b : ByteArray) (h : (vRead b).2.2 = 0) : 1 ≤ (vRead b).2.1 ∧ (vRead b).2.1 ≤ b.size ∧ (vRead b).2.1 ≤ 10 ∧ (vRead b).1 < 18446744073709551616 := by
  obtain ⟨⟨y, n, e⟩, hr⟩ : ∃ x, vRead b = x := ⟨_, rfl⟩
  rw [hr] at h ⊢
  simp only at h ⊢
  subst h
  obtain ⟨h1, h2, h3, h4, _⟩ := vRead_ok b y n hr
  have := vSize_pos y
  omega
theorem extract_size' (b : ByteArray) (i : Nat) (h : i ≤ b.size) : (b.extract i b.size).size = b.size - i := by
  rw [ByteArray.size_extract]; omega
theorem extract_extract' (b : ByteArray) (i k l : Nat) (hl : i + l ≤ b.size) : (b.extract i b.size).extract k l = b.extract (i + k) (i + l) := by
  rw [ByteArray.extract_extract, Nat.min_eq_left hl]
theorem extract_self (b : ByteArray) : b.extract 0 b.size = b := ns_inj (by rw [ns_extract, List.drop_zero, Nat.sub_zero, ← ns_length, List.take_length])
theorem oneS_pos (b : ByteArray) (h : (oneS b).2.2 = 0) : 1 ≤ (oneS b).2.1 ∧ (oneS b).2.1 ≤ b.size := by
  unfold oneS at h ⊢
  split at h
  · rename_i h1; exact absurd h h1
  · rename_i h1
    have g := vRead_pos b (by simpa using h1)
    rw [if_neg h1]
    split at h
    · simp at h
    · rename_i h2
      rw [if_neg h2]
      split at h
      · rename_i h3
        rw [if_pos h3]
        simp only at h ⊢
        split at h
        · rename_i h4; exact absurd h h4
        · rename_i h4
          have g2 := vRead_pos (b.extract (vRead b).2.1 b.size) (by simpa using h4)
          rw [extract_size' _ _ (by omega)] at g2
          rw [if_neg h4]
          split
          · simp only; omega
          · rename_i h5
            rw [if_neg h5] at h
            split at h
            · simp at h
            · rename_i h6; rw [if_neg h6]; simp only; omega
      · rename_i h3
        rw [if_neg h3]
        obtain ⟨size, hsz⟩ : ∃ s, (if (vRead b).1 % 8 = 5 then 4 else 8) = s := ⟨_, rfl⟩
        have hs4 : 4 ≤ size := by rw [← hsz]; split <;> omega
        simp only [hsz] at h ⊢
        split at h
        · simp at h
        · rename_i h4; rw [if_neg h4]; simp only; omega
theorem fieldsF_fuel (d : Nat) : ∀ (k : Nat) (b : ByteArray), b.size ≤ d → d ≤ k → fieldsF k b = fieldsF d b := by
  induction d with
  | zero =>
    intro k b hb hk
    cases k with
    | zero => rfl
    | succ k => have h0 : b.size = 0 := by omega
                simp [fieldsF, h0]
  | succ d ih =>
    intro k b hb hk
    obtain ⟨k, rfl⟩ : ∃ m, k = m + 1 := ⟨k - 1, by omega⟩
    rw [fieldsF, fieldsF]
    by_cases h0 : b.size = 0
    · rw [if_pos h0, if_pos h0]
    · rw [if_neg h0, if_neg h0]
      by_cases h1 : (oneS b).2.2 ≠ 0
      · rw [if_pos h1, if_pos h1]
      · have g := oneS_pos b (by simpa using h1)
        rw [if_neg h1, if_neg h1, ih k (b.extract (oneS b).2.1 b.size) (by rw [extract_size' _ _ g.2]; omega) (by omega)]
theorem fieldsF_length (k : Nat) : ∀ b, (fieldsF k b).1.length ≤ k := by
  induction k with
  | zero => intro b; simp [fieldsF]
  | succ k ih =>
    intro b
    have := ih (b.extract (oneS b).2.1 b.size)
    rw [fieldsF]
    repeat' split
    all_goals simp_all
theorem wrap64_id {x : Int} (h0 : -9223372036854775808 ≤ x) (h1 : x < 9223372036854775808) : wrap64 x = x := by unfold wrap64; omega
theorem u64_id {x : Int} (h0 : 0 ≤ x) (h1 : x < 18446744073709551616) : IntKind.u64.wrap x = x := by rw [u64_wrap]; omega
theorem fieldsF_nil (k : Nat) (b : ByteArray) (h : (fieldsF k b).2 ≠ 0) : (fieldsF k b).1 = [] := by
  cases k with
  | zero => rfl
  | succ k =>
    rw [fieldsF] at h ⊢
    by_cases h0 : b.size = 0
    · rw [if_pos h0]
    · rw [if_neg h0] at h ⊢
      by_cases h1 : (oneS b).2.2 ≠ 0
      · rw [if_pos h1]
      · rw [if_neg h1] at h ⊢
        by_cases h2 : (fieldsF k (b.extract (oneS b).2.1 b.size)).2 ≠ 0
        · rw [if_pos h2]
        · rw [if_neg h2] at h; exact absurd rfl h
theorem toList_nil {b : ByteArray} : b.toList = [] ↔ b.size = 0 := by
  rw [ByteArray.toList_eq]
  constructor
  · intro h; have := congrArg List.length h; simpa using this
  · intro h; exact List.eq_nil_of_length_eq_zero (by simpa using h)
theorem toList_inj {a b : ByteArray} : a.toList = b.toList ↔ a = b := by
  rw [ByteArray.toList_eq, ByteArray.toList_eq]
  constructor
  · intro h; cases a; cases b; simp_all
  · intro h; rw [h]

end Go.Proofs.Ytohddbiedabmhaa.X
