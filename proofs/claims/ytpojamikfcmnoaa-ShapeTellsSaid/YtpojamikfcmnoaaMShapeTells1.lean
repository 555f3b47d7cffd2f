import Derived.Test.YtpojamikfcmnoaaMShapeTells0
import Derived.Laws.BitsAllLaws
-- by xprint.py, a program of this session, over the kit's print.py
namespace Go.Proofs.Ytpojamikfcmnoaa.X
open Go.RowKit Go.Proofs.YtpojamikfcmnoaaW.PrintWords Go.Proofs.YtpojamikfcmnoaaW.PrintLast Go.Proofs.YtpojamikfcmnoaaW.PrintMore
attribute [local go_sem] max2_int min2_int max_two min_two max_three min_three max_four min_four   -- for this text's walks alone
set_option linter.unusedVariables false
set_option linter.unusedSimpArgs false

/-! The least writing of a number, and how a number is read: plain Lean, no program in sight. -/
/-- how many bytes the least writing of a number has -/
def vSize (v : Nat) : Nat := if v < 128 then 1 else vSize (v / 128) + 1
  decreasing_by omega
theorem vSize_lt {v : Nat} (h : v < 128) : vSize v = 1 := by rw [vSize, if_pos h]
theorem vSize_ge {v : Nat} (h : ¬ v < 128) : vSize v = vSize (v / 128) + 1 := by rw [vSize, if_neg h]
/-- a string's bytes as numbers -/
def ns (s : ByteArray) : List Nat := s.data.toList.map UInt8.toNat
theorem ns_length (s : ByteArray) : (ns s).length = s.size := by simp [ns]
theorem ns_lt (s : ByteArray) : ∀ c ∈ ns s, c < 256 := by
  intro c hc
  simp only [ns, List.mem_map] at hc
  obtain ⟨x, _, rfl⟩ := hc
  exact x.toNat_lt
theorem ns_get (s : ByteArray) (i : Nat) (h : i < s.size) : (ns s)[i]'(by rw [ns_length]; exact h) = (s[i]'h).toNat := by simp [ns]; rfl
theorem ns_drop (s : ByteArray) (i : Nat) (h : i < s.size) : (ns s).drop i = (s[i]'h).toNat :: (ns s).drop (i + 1) := by
  rw [List.drop_eq_getElem_cons (by rw [ns_length]; exact h), ns_get s i h]
theorem ns_drop_end (s : ByteArray) (i : Nat) (h : s.size ≤ i) : (ns s).drop i = [] := by
  rw [List.drop_eq_nil_iff, ns_length]; exact h
theorem bt_ns (s : ByteArray) (i : Nat) (h : i < s.size) : bt s i = ((s[i]'h).toNat : Int) := by simp [bt, h]
/-- the number with which a text begins (behind `n` bytes that told `v`): number, bytes, code -/
def readS : List Nat → Nat → Nat → Nat × Nat × Nat
  | [], _, _ => (0, 0, 1)
  | c :: l, n, v => if n = 9 ∧ 1 < c then (0, 0, 2) else if c < 128 then (v + c * 128 ^ n, n + 1, 0) else readS l (n + 1) (v + (c % 128) * 128 ^ n)
def vRead (s : ByteArray) : Nat × Nat × Nat := readS (ns s) 0 0
/-- the least writing of a number -/
def vPut (v : Nat) : List Nat := if v < 128 then [v] else (v % 128 + 128) :: vPut (v / 128)
  decreasing_by omega
theorem vPut_lt {v : Nat} (h : v < 128) : vPut v = [v] := by rw [vPut, if_pos h]
theorem vPut_ge {v : Nat} (h : ¬ v < 128) : vPut v = (v % 128 + 128) :: vPut (v / 128) := by rw [vPut, if_neg h]
theorem pow128 (n : Nat) : 128 ^ n = 2 ^ (7 * n) := by
  rw [Nat.pow_mul]
theorem u64_wrap (x : Int) : IntKind.u64.wrap x = x % 18446744073709551616 := by simp [IntKind.wrap, IntKind.bits, IntKind.signed]
theorem or_step (v c n : Nat) (hv : v < 128 ^ n) (hn : n ≤ 9) (h9 : n = 9 → c ≤ 1) :
    Go.bits .or .u64 (v : Int) (IntKind.u64.wrap ((c : Int) % 128 * 2 ^ (7 * n))) = ((v + c % 128 * 128 ^ n : Nat) : Int) := by
  have e : (c : Int) % 128 * 2 ^ (7 * n) = ((c % 128 * 2 ^ (7 * n) : Nat) : Int) := by simp
  have hp : c % 128 * 2 ^ (7 * n) < 18446744073709551616 := by
    rcases Nat.lt_or_ge n 9 with h | h
    · have h1 : 2 ^ (7 * n) ≤ 2 ^ 56 := Nat.pow_le_pow_right (by decide) (by omega)
      have h2 : c % 128 * 2 ^ (7 * n) ≤ 127 * 2 ^ 56 := Nat.mul_le_mul (by omega) h1
      omega
    · obtain rfl : n = 9 := by omega
      have := h9 rfl
      have h2 : c % 128 * 2 ^ (7 * 9) ≤ 1 * 2 ^ 63 := Nat.mul_le_mul (by omega) (by decide)
      omega
  have hw : IntKind.u64.wrap ((c : Int) % 128 * 2 ^ (7 * n)) = ((c % 128 * 2 ^ (7 * n) : Nat) : Int) := by
    rw [e, u64_wrap]; omega
  have hv2 : v < 2 ^ (7 * n) := by rw [← pow128]; exact hv
  have hv3 : v < 18446744073709551616 := by
    have : 2 ^ (7 * n) ≤ 2 ^ 63 := Nat.pow_le_pow_right (by decide) (by omega)
    omega
  rw [hw, u64_or_nat _ _ hv3 hp, Nat.or_comm, Nat.mul_comm, ← Nat.two_pow_add_eq_or_of_lt hv2, pow128, Nat.mul_comm, Nat.add_comm]
theorem readS_cons {c n v : Nat} {l : List Nat} (h9 : n = 9 → c ≤ 1) : readS (c :: l) n v = if c < 128 then (v + c * 128 ^ n, n + 1, 0) else readS l (n + 1) (v + (c % 128) * 128 ^ n) := by
  rw [readS, if_neg (by omega)]
/-- the least writing, as a string -/
def vStr (v : Nat) : ByteArray := strOfNums ((vPut v).map Int.ofNat)
theorem vPut_length (v : Nat) : (vPut v).length = vSize v := by
  induction v using Nat.strongRecOn with
  | _ v ih =>
    by_cases h : v < 128
    · rw [vPut_lt h, vSize_lt h]; rfl
    · rw [vPut_ge h, vSize_ge h, List.length_cons, ih (v / 128) (by omega)]
theorem vSize_le (m : Nat) (k : Nat) (h : m < 128 ^ (k + 1)) : vSize m ≤ k + 1 := by
  induction k generalizing m with
  | zero => rw [vSize_lt (by simpa using h)]; omega
  | succ k ih =>
    by_cases h1 : m < 128
    · rw [vSize_lt h1]; omega
    · rw [vSize_ge h1]
      have := ih (m / 128) (by rw [Nat.div_lt_iff_lt_mul (by decide)]; rw [Nat.pow_succ] at h; omega)
      omega
theorem vSize_pos (m : Nat) : 1 ≤ vSize m := by rw [vSize]; split <;> omega
theorem vSize_10 (m : Nat) (h : m < 18446744073709551616) : vSize m ≤ 10 := vSize_le m 9 (show m < 1180591620717411303424 by omega)
theorem ev_none {α : Type} {r : α} {p : Prop} (h : (none : Option α) = some r) : p := by cases h

end Go.Proofs.Ytpojamikfcmnoaa.X
-- by xprint.py, a program of this session, over the kit's print.py
namespace Go.Proofs.Ytpojamikfcmnoaa.X
open Go.RowKit Go.Proofs.YtpojamikfcmnoaaW.PrintWords Go.Proofs.YtpojamikfcmnoaaW.PrintLast Go.Proofs.YtpojamikfcmnoaaW.PrintMore
attribute [local go_sem] max2_int min2_int max_two min_two max_three min_three max_four min_four   -- for this text's walks alone
set_option linter.unusedVariables false
set_option linter.unusedSimpArgs false

theorem wf_u64 {a : Int} (h : (Lit.int .u64 a).wf = true) : 0 ≤ a ∧ a < 18446744073709551616 := by
  have e1 : IntKind.u64.min = 0 := by decide
  have e2 : IntKind.u64.max = 18446744073709551615 := by decide
  simp only [Lit.wf, Bool.and_eq_true, decide_eq_true_eq, e1, e2] at h; omega
theorem wf_i64 {a : Int} (h : (Lit.int .i64 a).wf = true) : -9223372036854775808 ≤ a ∧ a < 9223372036854775808 := by
  have e1 : IntKind.i64.min = -9223372036854775808 := by decide
  have e2 : IntKind.i64.max = 9223372036854775807 := by decide
  simp only [Lit.wf, Bool.and_eq_true, decide_eq_true_eq, e1, e2] at h; omega
theorem wf_u8 {a : Int} (h : (Lit.int .u8 a).wf = true) : 0 ≤ a ∧ a < 256 := by
  have e1 : IntKind.u8.min = 0 := by decide
  have e2 : IntKind.u8.max = 255 := by decide
  simp only [Lit.wf, Bool.and_eq_true, decide_eq_true_eq, e1, e2] at h; omega
theorem wrap64_id {x : Int} (h0 : -9223372036854775808 ≤ x) (h1 : x < 9223372036854775808) : wrap64 x = x := by unfold wrap64; omega
theorem u64_id {x : Int} (h0 : 0 ≤ x) (h1 : x < 18446744073709551616) : IntKind.u64.wrap x = x := by rw [u64_wrap]; omega

end Go.Proofs.Ytpojamikfcmnoaa.X
-- by xprint.py, a program of this session, over the kit's print.py
namespace Go.Proofs.Ytpojamikfcmnoaa.X
open Go.RowKit Go.Proofs.YtpojamikfcmnoaaW.PrintWords Go.Proofs.YtpojamikfcmnoaaW.PrintLast Go.Proofs.YtpojamikfcmnoaaW.PrintMore
attribute [local go_sem] max2_int min2_int max_two min_two max_three min_three max_four min_four   -- for this text's walks alone
set_option linter.unusedVariables false
set_option linter.unusedSimpArgs false

/-! Places of a shape: plain Lean -/
theorem wrap64_nat {n : Nat} (h : n < 9223372036854775808) : wrap64 (n : Int) = (n : Int) := wrap64_id (by omega) (by omega)
theorem rd_mid (pre : List Int) (d : Int) (ds : List Int) (i : Int) (h : i = (pre.length : Int)) : rd (pre ++ d :: ds) i = d := by
  subst h; unfold rd; simp
theorem set_mid (pre : List Int) (d e : Int) (ds : List Int) (i : Int) (h : i = (pre.length : Int)) : (pre ++ d :: ds).set i.toNat e = pre ++ e :: ds := by
  subst h; simp
def backL : List Int → List Int → List Int
  | d :: ds, p :: ps => (if d = 1 then 0 else p) :: backL ds ps
  | [], ps => ps
  | _, [] => []
def placeR : List Int → Int → List Int → List Int
  | [], _, acc => acc
  | d :: ds, v, acc => if d > 0 then placeR ds (wrap64 (Int.tdiv v d)) (Int.tmod v d :: acc) else placeR ds v (0 :: acc)
def countL : List Int → List Int → Int → Int
  | d :: ds, p :: ps, n => countL ds ps (wrap64 (wrap64 (n * d) + p))
  | _, _, n => n
def prodL : List Int → List (List Int)
  | [] => [[]]
  | d :: ds => (List.range d.toNat).flatMap fun (i : Nat) => (prodL ds).map (fun p => (i : Int) :: p)
def numL : List Int → Nat
  | [] => 1
  | d :: ds => d.toNat * numL ds
def placesS (l : List Int) : List (List Int) := if 0 ∈ l then [] else prodL l
theorem numL_pos {l : List Int} (h : ∀ x ∈ l, 0 < x) : 0 < numL l := by
  induction l with
  | nil => exact Nat.one_pos
  | cons d ds ih =>
    have := h d (List.mem_cons_self ..)
    exact Nat.mul_pos (by omega) (ih fun x hx => h x (List.mem_cons_of_mem _ hx))
theorem flat_len {α : Type} (f : Nat → List α) (P : Nat) (hf : ∀ j, (f j).length = P) (n : Nat) : ((List.range n).flatMap f).length = n * P := by
  induction n with
  | zero => simp
  | succ n ih => rw [List.range_succ, List.flatMap_append, List.length_append, ih, List.flatMap_singleton, hf, Nat.succ_mul]
theorem flat_get {α : Type} (f : Nat → List α) (P : Nat) (hP : 0 < P) (hf : ∀ j, (f j).length = P) (n : Nat) : ∀ i, i < n * P → ((List.range n).flatMap f)[i]? = (f (i / P))[i % P]? := by
  induction n with
  | zero => intro i hi; omega
  | succ n ih =>
    intro i hi
    rw [Nat.succ_mul] at hi
    rw [List.range_succ, List.flatMap_append, List.flatMap_singleton]
    by_cases h : i < n * P
    · rw [List.getElem?_append_left (by rw [flat_len f P hf]; exact h), ih i h]
    · rw [List.getElem?_append_right (by rw [flat_len f P hf]; omega), flat_len f P hf]
      have e : i = (i - n * P) + P * n := by rw [Nat.mul_comm P n]; omega
      have hd : i / P = n := by rw [e, Nat.add_mul_div_left _ _ hP, Nat.div_eq_of_lt (by omega)]; omega
      have hm : i % P = i - n * P := by
        have := Nat.div_add_mod i P
        rw [hd, Nat.mul_comm] at this; omega
      rw [hd, hm]
theorem prodL_len (l : List Int) : (prodL l).length = numL l := by
  induction l with
  | nil => rfl
  | cons d ds ih =>
    rw [prodL, numL]
    exact flat_len _ _ (fun j => by rw [List.length_map, ih]) _
theorem prodL_get (d : Int) (ds : List Int) (h : ∀ x ∈ ds, 0 < x) (i : Nat) (hi : i < d.toNat * numL ds) : (prodL (d :: ds))[i]? = ((prodL ds)[i % numL ds]?).map (fun p => ((i / numL ds : Nat) : Int) :: p) := by
  rw [prodL, flat_get _ (numL ds) (numL_pos h) (fun j => by rw [List.length_map, prodL_len]) _ i hi, List.getElem?_map]
theorem prodL_width (l : List Int) : ∀ p ∈ prodL l, p.length = l.length := by
  induction l with
  | nil => intro p hp; rw [prodL, List.mem_singleton] at hp; subst hp; rfl
  | cons d ds ih =>
    intro p hp
    rw [prodL, List.mem_flatMap] at hp
    obtain ⟨i, _, hp⟩ := hp
    obtain ⟨q, hq, rfl⟩ := List.mem_map.1 hp
    rw [List.length_cons, List.length_cons, ih q hq]
/-- the place of a number, from behind -/
theorem placeR_prodL (ds : List Int) : (∀ x ∈ ds, 0 < x) → ∀ (rs : List Int) (v : Nat) (acc : List Int), v < 9223372036854775808 →
    ∃ p, (prodL ds)[v % numL ds]? = some p ∧ placeR (ds.reverse ++ rs) (v : Int) acc = placeR rs ((v / numL ds : Nat) : Int) (p ++ acc) := by
  induction ds with
  | nil =>
    intro _ rs v acc _
    refine ⟨[], ?_, ?_⟩
    · rw [numL, Nat.mod_one]; rfl
    · rw [numL, Nat.div_one]; rfl
  | cons d ds ih =>
    intro h rs v acc hv
    have hd := h d (List.mem_cons_self ..)
    have hds : ∀ x ∈ ds, 0 < x := fun x hx => h x (List.mem_cons_of_mem _ hx)
    have hP := numL_pos hds
    obtain ⟨p, e1, e2⟩ := ih hds (d :: rs) v acc hv
    obtain ⟨m, rfl⟩ : ∃ m : Nat, d = (m : Int) := ⟨d.toNat, by omega⟩
    have hm : 0 < m := by omega
    refine ⟨((v / numL ds % m : Nat) : Int) :: p, ?_, ?_⟩
    · have hlt : v % (m * numL ds) < m * numL ds := Nat.mod_lt _ (Nat.mul_pos hm hP)
      rw [numL, Int.toNat_natCast, prodL_get _ _ hds _ (by rw [Int.toNat_natCast]; exact hlt), Nat.mod_mul_left_mod, e1, Nat.mul_comm m, Nat.mod_mul_right_div_self]
      rfl
    · rw [List.reverse_cons, List.append_assoc, List.singleton_append, e2, placeR, if_pos hd]
      have hq : v / numL ds ≤ v := Nat.div_le_self _ _
      have hq2 : v / numL ds / m ≤ v / numL ds := Nat.div_le_self _ _
      have t1 : Int.tdiv ((v / numL ds : Nat) : Int) (m : Int) = ((v / numL ds / m : Nat) : Int) := rfl
      have t2 : Int.tmod ((v / numL ds : Nat) : Int) (m : Int) = ((v / numL ds % m : Nat) : Int) := rfl
      have t3 : wrap64 ((v / numL ds / m : Nat) : Int) = ((v / numL ds / m : Nat) : Int) := wrap64_nat (by omega)
      rw [t1, t2, t3, numL, Int.toNat_natCast, Nat.div_div_eq_div_mul, Nat.mul_comm m]
      rfl
/-- the number of a place -/
theorem countL_prodL (ds : List Int) : (∀ x ∈ ds, 0 < x) → ∀ (n r : Nat) (p : List Int), (prodL ds)[r]? = some p → n * numL ds + numL ds ≤ 1000000000 → countL ds p (n : Int) = ((n * numL ds + r : Nat) : Int) := by
  induction ds with
  | nil =>
    intro _ n r p hp _
    cases r with
    | zero =>
      obtain rfl : [] = p := by simpa [prodL] using hp
      rw [numL, Nat.mul_one]; rfl
    | succ r => simp [prodL] at hp
  | cons d ds ih =>
    intro h n r p hp hb
    have hd := h d (List.mem_cons_self ..)
    have hds : ∀ x ∈ ds, 0 < x := fun x hx => h x (List.mem_cons_of_mem _ hx)
    have hP := numL_pos hds
    obtain ⟨m, rfl⟩ : ∃ m : Nat, d = (m : Int) := ⟨d.toNat, by omega⟩
    have hr : r < m * numL ds := by
      have := (List.getElem?_eq_some_iff.1 hp).1
      rwa [prodL_len, numL, Int.toNat_natCast] at this
    rw [prodL_get _ _ hds _ (by rw [Int.toNat_natCast]; exact hr)] at hp
    obtain ⟨q, hq, rfl⟩ := Option.map_eq_some_iff.1 hp
    rw [numL, Int.toNat_natCast] at hb
    have hj : r / numL ds < m := Nat.div_lt_of_lt_mul (by rw [Nat.mul_comm]; exact hr)
    have h1 : (n * m + r / numL ds) * numL ds + numL ds ≤ n * (m * numL ds) + m * numL ds := by
      have : (r / numL ds + 1) * numL ds ≤ m * numL ds := Nat.mul_le_mul_right _ hj
      rw [Nat.add_mul, Nat.mul_assoc]; rw [Nat.add_mul, Nat.one_mul] at this; omega
    have h2 : n * m + r / numL ds ≤ (n * m + r / numL ds) * numL ds := Nat.le_mul_of_pos_right _ hP
    have h4 : n * (m * numL ds) + m * numL ds ≤ 1000000000 := hb
    have h3 : n * m + r / numL ds ≤ 1000000000 := Nat.le_trans h2 (Nat.le_trans (Nat.le_add_right _ _) (Nat.le_trans h1 h4))
    have h5 : n * m ≤ 1000000000 := Nat.le_trans (Nat.le_add_right _ _) h3
    have w1 : wrap64 ((n : Int) * (m : Int)) = ((n * m : Nat) : Int) := by rw [← Int.natCast_mul]; exact wrap64_nat (Nat.lt_of_le_of_lt h5 (by decide))
    have w2 : wrap64 (((n * m : Nat) : Int) + ((r / numL ds : Nat) : Int)) = ((n * m + r / numL ds : Nat) : Int) := by rw [← Int.natCast_add]; exact wrap64_nat (Nat.lt_of_le_of_lt h3 (by decide))
    rw [countL, w1, w2, ih hds _ _ _ hq (Nat.le_trans h1 h4), numL, Int.toNat_natCast]
    have := Nat.div_add_mod r (numL ds)
    rw [Nat.mul_comm] at this
    congr 1
    rw [Nat.add_mul, Nat.mul_assoc]; omega
theorem sizeL_num (l : List Int) : ∀ n : Int, (∀ x ∈ l, 0 < x ∧ x ≤ 65536) → 0 ≤ n → n ≤ 65537 → (sizeL l n false).2 = 0 → (sizeL l n false).1 = n * (numL l : Int) := by
  induction l with
  | nil =>
    intro n _ _ _ h
    rw [sizeL, if_neg (by simp)] at h ⊢
    by_cases hn : n > 65536
    · rw [if_pos hn] at h; cases h
    · rw [if_neg hn, numL]; simp
  | cons d l ih =>
    intro n hx h0 h1 h
    have hd := hx d (List.mem_cons_self ..)
    have hl : ∀ x ∈ l, 0 < x ∧ x ≤ 65536 := fun x g => hx x (List.mem_cons_of_mem _ g)
    have hb := (mul_cap h0 h1 (by omega) hd.2).1
    rw [sizeL, if_neg (by omega), if_neg (by omega)] at h ⊢
    by_cases hc : 65537 < n * d
    · rw [if_pos hc, sizeL_full l hl] at h; cases h
    · rw [if_neg hc] at h ⊢
      rw [ih (n * d) hl hb (by omega) h, numL, Int.natCast_mul, Int.mul_assoc]
      congr 2; omega
theorem sizeS_good {l : List Int} (h : (sizeS l).2 = 0) : l.length ≤ 8 ∧ (∀ x ∈ l, 0 ≤ x ∧ x ≤ 65536) ∧ (0 ∈ l ∨ (sizeS l).1 = (numL l : Int)) := by
  have h8 := sizeS_len h
  unfold sizeS at h ⊢
  rw [if_neg (by omega)] at h ⊢
  by_cases ha : l.any (fun x => decide (x < 0)) = true
  · rw [if_pos ha] at h; cases h
  · rw [if_neg ha] at h ⊢
    have h0 : ∀ x ∈ l, 0 ≤ x := by
      intro x hx
      by_cases g : x < 0
      · exact absurd (List.any_eq_true.2 ⟨x, hx, decide_eq_true g⟩) ha
      · omega
    have h1 : ∀ x ∈ l, x ≤ 65536 := by
      intro x hx
      by_cases g : x > 65536
      · rw [sizeL_great l 1 false ⟨x, hx, g⟩] at h; cases h
      · omega
    refine ⟨h8, fun x hx => ⟨h0 x hx, h1 x hx⟩, ?_⟩
    by_cases hz : 0 ∈ l
    · exact Or.inl hz
    · refine Or.inr ?_
      have := sizeL_num l 1 (fun x hx => ⟨by
        have := h0 x hx
        have : ¬ x = 0 := fun e => hz (e ▸ hx)
        omega, h1 x hx⟩) (by decide) (by decide) h
      rw [this, Int.one_mul]
theorem broadS_len {a b x : List Int} (h : broadS a b = (x, 0)) : x.length = max a.length b.length := by
  obtain ⟨_, _, _, z1⟩ := broadS_ok h
  rw [zipB_len _ _ _ (by rw [wideL_len _ _ (by omega), wideL_len _ _ (by omega)]) z1, wideL_len _ _ (by omega)]
theorem placesS_width {l : List Int} : ∀ p ∈ placesS l, p.length = l.length := by
  intro p hp
  unfold placesS at hp
  split at hp
  · cases hp
  · exact prodL_width l p hp
theorem placesS_at {l : List Int} (hp : ∀ x ∈ l, 0 ≤ x) (hn : 0 ∈ l ∨ numL l ≤ 400) (i : Nat) (p : List Int) (h : (placesS l)[i]? = some p) : placeR l.reverse (i : Int) [] = p ∧ countL l p 0 = (i : Int) ∧ i < 400 := by
  unfold placesS at h
  by_cases hz : 0 ∈ l
  · rw [if_pos hz] at h; cases h
  · rw [if_neg hz] at h
    have hn : numL l ≤ 400 := hn.resolve_left hz
    have hx : ∀ x ∈ l, 0 < x := fun x hx => by
      have := hp x hx
      have : ¬ x = 0 := fun e => hz (e ▸ hx)
      omega
    have hi : i < numL l := by
      have := (List.getElem?_eq_some_iff.1 h).1
      rwa [prodL_len] at this
    obtain ⟨q, h1, h2⟩ := placeR_prodL l hx [] i [] (by omega)
    rw [Nat.mod_eq_of_lt hi, h] at h1
    cases h1
    rw [List.append_nil] at h2
    refine ⟨by rw [h2, placeR, List.append_nil], ?_, by omega⟩
    have := countL_prodL l hx 0 i p h (by omega)
    rw [Nat.zero_mul, Nat.zero_add] at this
    exact this
theorem placesS_len {l : List Int} (hn : 0 ∈ l ∨ numL l ≤ 400) : (placesS l).length ≤ 400 := by
  unfold placesS
  by_cases hz : 0 ∈ l
  · rw [if_pos hz]; simp
  · rw [if_neg hz, prodL_len]; exact hn.resolve_left hz

end Go.Proofs.Ytpojamikfcmnoaa.X
-- by xprint.py, a program of this session, over the kit's print.py
namespace Go.Proofs.Ytpojamikfcmnoaa.X
open Go.RowKit Go.Proofs.YtpojamikfcmnoaaW.PrintWords Go.Proofs.YtpojamikfcmnoaaW.PrintLast Go.Proofs.YtpojamikfcmnoaaW.PrintMore
attribute [local go_sem] max2_int min2_int max_two min_two max_three min_three max_four min_four   -- for this text's walks alone
set_option linter.unusedVariables false
set_option linter.unusedSimpArgs false

def slices_Equal_int64_int64_s.f (l0 l1 : List Int) : Option Bool := if l0.length ≤ 1000000 then some (decide (l0 = l1)) else none
theorem slicesEqual_l0 (xs : List Int) : ∀ (ys pre qre : List Int) (k : Nat), xs.length < k → pre.length = qre.length → xs.length = ys.length → pre.length + xs.length ≤ 1000000 →
    slices_Equal_int64_int64.l0 k (pre ++ xs) (qre ++ ys) ((pre ++ xs).length : Int) (pre.length : Int) = some (decide (xs = ys)) := by
  induction xs with
  | nil =>
    intro ys pre qre k hk hp hl hb
    obtain ⟨k, rfl⟩ : ∃ m, k = m + 1 := ⟨k - 1, by omega⟩
    rw [slices_Equal_int64_int64.l0, if_neg (by simp), List.eq_nil_of_length_eq_zero hl.symm]; rfl
  | cons x xs ih =>
    intro ys pre qre k hk hp hl hb
    rw [List.length_cons] at hk hb
    obtain ⟨k, rfl⟩ : ∃ m, k = m + 1 := ⟨k - 1, by omega⟩
    cases ys with
    | nil => cases hl
    | cons y ys =>
      have hl' : xs.length = ys.length := Nat.succ.inj hl
      have ew : wrap64 ((pre.length : Int) + 1) = (((pre ++ [x]).length : Nat) : Int) := by
        rw [wrap64_id (by omega) (by omega), List.length_append, List.length_singleton]; rfl
      rw [slices_Equal_int64_int64.l0, if_pos (by rw [List.length_append, List.length_cons]; omega), if_pos (by omega), if_pos (by rw [List.length_append, List.length_cons]; omega), if_pos (by rw [List.length_append, List.length_cons]; omega), rd_mid pre x xs _ rfl, rd_mid qre y ys _ (by omega), ew]
      clear ew
      by_cases h : x = y
      · rw [if_pos h, show pre ++ x :: xs = (pre ++ [x]) ++ xs by simp, show qre ++ y :: ys = (qre ++ [y]) ++ ys by simp, ih ys _ _ k (by omega) (by simp; omega) hl' (by simp; omega)]
        congr 1
        rw [decide_eq_decide]
        exact ⟨fun g => by rw [h, g], fun g => (List.cons.inj g).2⟩
      · rw [if_neg h, decide_eq_false (fun g => h (List.cons.inj g).1)]
theorem slices_Equal_int64_int64_s.ev (l0 l1 : List Int) (r) (h : slices_Equal_int64_int64_s.f l0 l1 = some r) : ∃ k, slices_Equal_int64_int64.f k l0 l1 = some r := by
  unfold slices_Equal_int64_int64_s.f at h
  split at h
  · rename_i hs
    rw [← h]
    refine ⟨l0.length + 1, ?_⟩
    unfold slices_Equal_int64_int64.f
    by_cases hl : l0.length = l1.length
    · rw [if_pos (by omega)]
      exact slicesEqual_l0 l0 l1 [] [] _ (by omega) rfl hl (by simp; omega)
    · rw [if_neg (by omega), decide_eq_false (fun g => hl (by rw [g]))]
  · cases h

set_option maxHeartbeats 1000000 in
theorem slices_Equal_int64_int64_s.calls (A0 : Option Addr) (c0 : Nat) (l0 : List Int) (A1 : Option Addr) (c1 : Nat) (l1 : List Int) (r : Bool) (w : World) (hr0 : Kd.C (Kd.int .i64) w A0 l0.length l0) (hc0 : l0.length ≤ c0) (hr1 : Kd.C (Kd.int .i64) w A1 l1.length l1) (hc1 : l1.length ≤ c1) (h : slices_Equal_int64_int64_s.f l0 l1 = some r) :
    Calls Try.prog 65 #[.slice A0 l0.length c0, .slice A1 l1.length c1] w fun e w' => e = .returned (.bool r) ∧ Drawn0 w w' := by
  obtain ⟨k, hk⟩ := slices_Equal_int64_int64_s.ev l0 l1 _ h
  exact slices_Equal_int64_int64.calls k A0 c0 l0 A1 c1 l1 r w hr0 hc0 hr1 hc1 hk

end Go.Proofs.Ytpojamikfcmnoaa.X
