import Derived.Test.YtohddbiedabmhaaMWireWrites0
import Derived.Test.YtohddbiedabmhaaMWireWrites10
import Derived.Test.YtohddbiedabmhaaMWireWrites6
import Derived.Test.YtohddbiedabmhaaMWireWrites7
import Derived.Test.YtohddbiedabmhaaMWireWrites9
import Derived.Test.YtohddbiedabmhaaMWireWrites5
import Derived.Test.YtohddbiedabmhaaMWireWrites2
-- by xprint.py, a program of this session, over the kit's print.py
namespace Go.Proofs.Ytohddbiedabmhaa.X
open Go.RowKit Go.Proofs.YtohddbiedabmhaaW.PrintWords Go.Proofs.YtohddbiedabmhaaW.PrintLast Go.Proofs.YtohddbiedabmhaaW.PrintMore
attribute [local go_sem] max2_int min2_int max_two min_two max_three min_three max_four min_four   -- for this text's walks alone
set_option linter.unusedVariables false
set_option linter.unusedSimpArgs false

theorem wf_u64 {a : Int} (h : (Lit.int .u64 a).wf = true) : 0 ≤ a ∧ a < 18446744073709551616 := by
  have e1 : IntKind.u64.min = 0 := by decide
  have e2 : IntKind.u64.max = 18446744073709551615 := by decide
  simp only [Lit.wf, Bool.and_eq_true, decide_eq_true_eq, e1, e2] at h; omega
theorem wf_i64 {a : Int} (h : (Lit.int .i64 a).wf = true) : -9223372036854775808 ≤ a ∧ a < 9223372036854775808 := by
  have e1 : IntKind.i64.min = -9223372036854775808 := by decide
  have e2 : IntKind.i64.max = 9223372036854775807 := by decide
  simp only [Lit.wf, Bool.and_eq_true, decide_eq_true_eq, e1, e2] at h; omega
theorem wf_u8 {a : Int} (h : (Lit.int .u8 a).wf = true) : 0 ≤ a ∧ a < 256 := by
  have e1 : IntKind.u8.min = 0 := by decide
  have e2 : IntKind.u8.max = 255 := by decide
  simp only [Lit.wf, Bool.and_eq_true, decide_eq_true_eq, e1, e2] at h; omega

end Go.Proofs.Ytohddbiedabmhaa.X
-- by xprint.py, a program of this session, over the kit's print.py
namespace Go.Proofs.Ytohddbiedabmhaa.X
open Go.RowKit Go.Proofs.YtohddbiedabmhaaW.PrintWords Go.Proofs.YtohddbiedabmhaaW.PrintLast Go.Proofs.YtohddbiedabmhaaW.PrintMore
attribute [local go_sem] max2_int min2_int max_two min_two max_three min_three max_four min_four   -- for this text's walks alone
set_option linter.unusedVariables false
set_option linter.unusedSimpArgs false

theorem rdP (l : List (S47)) (i : Nat) (h : i < l.length) : rd_T47 l (i : Int) = l[i] := by
  simp [rd_T47, List.getD_eq_getElem?_getD, h]
theorem rdR (l : List (S50)) (i : Nat) (h : i < l.length) : rd_T50 l (i : Int) = l[i] := by
  simp [rd_T50, List.getD_eq_getElem?_getD, h]

end Go.Proofs.Ytohddbiedabmhaa.X
namespace Go.Proofs.Ytohddbiedabmhaa.Pure
open Go.RowKit Go.Proofs.Ytohddbiedabmhaa.X Go.Proofs.YtohddbiedabmhaaW.PrintWords Go.Proofs.YtohddbiedabmhaaW.PrintLast Go.Proofs.YtohddbiedabmhaaW.PrintMore
set_option linter.unusedVariables false
set_option linter.unusedSimpArgs false
theorem vStr_toList_nil {a b : ByteArray} : a.toList = b.toList ↔ a = b := toList_inj
/-- what a field that may be is read as -/
def fieldOf (x : S47) : Fl := (x.f0, x.f1, if x.f1 = 2 then 0 else x.f2, if x.f1 = 2 then x.f3 else ⟨#[]⟩)
def mayF (x : S47) : Prop := 1 ≤ x.f0 ∧ x.f0 ≤ 536870911 ∧ (x.f1 = 0 ∨ x.f1 = 1 ∨ x.f1 = 2 ∨ x.f1 = 5) ∧ (x.f1 = 5 → x.f2 ≤ 4294967295)
theorem bytes_nil (x : S47) : bytesS x.f0 x.f1 x.f2 x.f3 = ⟨#[]⟩ ↔ ¬ mayF x := by
  have hne : ∀ (v : Nat) (b : ByteArray), vStr v ++ b ≠ ⟨#[]⟩ := by
    intro v b h
    have := congrArg ByteArray.size h
    rw [ByteArray.size_append, vStr_size] at this
    have h1 := vSize_pos v
    have h2 : ByteArray.size ⟨#[]⟩ = 0 := rfl
    omega
  unfold bytesS mayF
  by_cases h : 1 ≤ x.f0 ∧ x.f0 ≤ 536870911 ∧ (x.f1 = 0 ∨ x.f1 = 1 ∨ x.f1 = 2 ∨ x.f1 = 5)
  · rw [if_pos h]
    obtain ⟨h0, h1, h2⟩ := h
    by_cases e0 : x.f1 = 0
    · rw [if_pos e0]
      exact ⟨fun g => absurd g (hne _ _), fun g => absurd ⟨h0, h1, h2, by omega⟩ g⟩
    · rw [if_neg e0]
      by_cases e2 : x.f1 = 2
      · rw [if_pos e2, ByteArray.append_assoc]
        exact ⟨fun g => absurd g (hne _ _), fun g => absurd ⟨h0, h1, h2, by omega⟩ g⟩
      · rw [if_neg e2]
        by_cases e1 : x.f1 = 1
        · rw [if_pos e1]
          exact ⟨fun g => absurd g (hne _ _), fun g => absurd ⟨h0, h1, h2, by omega⟩ g⟩
        · rw [if_neg e1]
          by_cases e4 : x.f2 > 4294967295
          · rw [if_pos e4]
            exact ⟨fun _ g => by have := g.2.2.2 (by omega); omega, fun _ => rfl⟩
          · rw [if_neg e4]
            exact ⟨fun g => absurd g (hne _ _), fun g => absurd ⟨h0, h1, h2, by omega⟩ g⟩
  · rw [if_neg h]
    exact ⟨fun _ g => h ⟨g.1, g.2.1, g.2.2.1⟩, fun _ => rfl⟩
theorem drop_put (v : Nat) (r : List Nat) : (vPut v ++ r).drop (vSize v) = r := by
  rw [← vPut_length, List.drop_left]
/-- a field that may be, whatever follows, is read as it was -/
theorem oneS_bytes (x : S47) (rest : ByteArray) (hm : mayF x) (h2 : 0 ≤ x.f2) (h2' : x.f2 < 18446744073709551616) (h3 : x.f3.size ≤ 140737488351232) :
    oneS (bytesS x.f0 x.f1 x.f2 x.f3 ++ rest) = (fieldOf x, (bytesS x.f0 x.f1 x.f2 x.f3).size, 0) := by
  obtain ⟨m0, m1, m2, m3⟩ := hm
  obtain ⟨num, en⟩ := Int.eq_ofNat_of_zero_le (show 0 ≤ x.f0 by omega)
  obtain ⟨ty, et⟩ := Int.eq_ofNat_of_zero_le (show 0 ≤ x.f1 by omega)
  obtain ⟨v, ev⟩ := Int.eq_ofNat_of_zero_le h2
  have htag : (8 * x.f0 + x.f1).toNat = 8 * num + ty := by omega
  have hmay : 1 ≤ x.f0 ∧ x.f0 ≤ 536870911 ∧ (x.f1 = 0 ∨ x.f1 = 1 ∨ x.f1 = 2 ∨ x.f1 = 5) := ⟨m0, m1, m2⟩
  have hlt : 8 * num + ty < 18446744073709551616 := by omega
  have hs10 := vSize_10 _ hlt
  -- what stands behind the tag
  obtain ⟨body, hb⟩ : ∃ body, bytesS x.f0 x.f1 x.f2 x.f3 = vStr (8 * num + ty) ++ body ∧ (ty = 0 → body = vStr v) ∧ (ty = 2 → body = vStr x.f3.size ++ x.f3) ∧ (ty = 1 → body = laidStr v 8) ∧ (ty = 5 → body = laidStr v 4) := by
    unfold bytesS
    rw [if_pos hmay, htag]
    rcases m2 with e | e | e | e
    · rw [if_pos e, ev]; exact ⟨_, rfl, fun _ => rfl, fun g => by omega, fun g => by omega, fun g => by omega⟩
    · rw [if_neg (by omega), if_neg (by omega), if_pos e, ev]; exact ⟨_, rfl, fun g => by omega, fun g => by omega, fun _ => rfl, fun g => by omega⟩
    · rw [if_neg (by omega), if_pos e, ByteArray.append_assoc]; exact ⟨_, rfl, fun g => by omega, fun _ => rfl, fun g => by omega, fun g => by omega⟩
    · have := m3 e
      rw [if_neg (by omega), if_neg (by omega), if_neg (by omega), if_neg (by omega), ev]; exact ⟨_, rfl, fun g => by omega, fun g => by omega, fun g => by omega, fun _ => rfl⟩
  obtain ⟨hb, b0, b2, b1, b5⟩ := hb
  have hr : vRead (bytesS x.f0 x.f1 x.f2 x.f3 ++ rest) = (8 * num + ty, vSize (8 * num + ty), 0) := by
    rw [hb, ByteArray.append_assoc, vRead_put _ hlt]
  have hsz : (bytesS x.f0 x.f1 x.f2 x.f3).size = vSize (8 * num + ty) + body.size := by rw [hb, ByteArray.size_append, vStr_size]
  have hsz2 : (bytesS x.f0 x.f1 x.f2 x.f3 ++ rest).size = vSize (8 * num + ty) + body.size + rest.size := by rw [ByteArray.size_append, hsz]
  have hns : ns (bytesS x.f0 x.f1 x.f2 x.f3 ++ rest) = vPut (8 * num + ty) ++ (ns body ++ ns rest) := by
    rw [hb, ns_append, ns_append, ns_vStr, List.append_assoc]
  have hex : (bytesS x.f0 x.f1 x.f2 x.f3 ++ rest).extract (vSize (8 * num + ty)) (bytesS x.f0 x.f1 x.f2 x.f3 ++ rest).size = body ++ rest := by
    apply ns_inj
    rw [ns_extract, hns, drop_put, ns_append, List.take_of_length_le]
    rw [hsz2, List.length_append, ns_length, ns_length]; omega
  unfold oneS fieldOf
  simp only [hr, hex]
  have hn8 : (8 * num + ty) / 8 = num := by omega
  have hm8 : (8 * num + ty) % 8 = ty := by omega
  rw [hn8, hm8]
  rw [if_neg (show ¬ ((0 : Nat) ≠ 0) by simp), if_neg (show ¬ ¬ (1 ≤ num ∧ num ≤ 536870911 ∧ (ty = 0 ∨ ty = 1 ∨ ty = 2 ∨ ty = 5)) by omega)]
  rcases m2 with e | e | e | e
  · obtain rfl : ty = 0 := by omega
    have hbody := b0 rfl
    rw [if_pos (Or.inl rfl), hbody, vRead_put v (by omega)]
    rw [hbody, vStr_size] at hsz
    simp only [hsz]
    rw [if_neg (show ¬ ((0 : Nat) ≠ 0) by simp), if_pos trivial]
    have e8 : (((8 * num + 0 : Nat) : Int) / 8) = (num : Int) := by omega
    rw [e8]
    simp [en, et, ev]
  · obtain rfl : ty = 1 := by omega
    have hbody := b1 rfl
    rw [hbody, laidStr_size] at hsz hsz2
    have hx : ns ((bytesS x.f0 x.f1 x.f2 x.f3 ++ rest).extract (vSize (8 * num + 1)) (vSize (8 * num + 1) + 8)) = laidS v 8 := by
      rw [ns_extract, hns, drop_put, hbody, ns_laidStr, show vSize (8 * num + 1) + 8 - vSize (8 * num + 1) = (laidS v 8).length by rw [laidS_length]; omega, List.take_left]
    rw [if_neg (by omega)]
    simp only [show ¬ ((1 : Nat) = 5) by decide, if_false, hx, lowS_laidS, hsz2, hsz]
    have e8 : (((8 * num + 1 : Nat) : Int) / 8) = (num : Int) := by omega
    rw [if_neg (by omega), if_neg (by omega), if_neg (by omega), show v % 256 ^ 8 = v from Nat.mod_eq_of_lt (by omega), e8]
    simp [en, et, ev]
  · obtain rfl : ty = 2 := by omega
    have hbody := b2 rfl
    rw [if_pos (Or.inr rfl)]
    have hq : vRead (body ++ rest) = (x.f3.size, vSize x.f3.size, 0) := by
      rw [hbody, ByteArray.append_assoc, vRead_put _ (by omega)]
    simp only [hq]
    have hbz : body.size = vSize x.f3.size + x.f3.size := by rw [hbody, ByteArray.size_append, vStr_size]
    rw [hbz] at hsz hsz2
    have hx : (bytesS x.f0 x.f1 x.f2 x.f3 ++ rest).extract (vSize (8 * num + 2) + vSize x.f3.size) (vSize (8 * num + 2) + vSize x.f3.size + x.f3.size) = x.f3 := by
      apply ns_inj
      rw [ns_extract, hns, hbody, ← List.drop_drop, drop_put, ns_append, ns_vStr, List.append_assoc, drop_put]
      rw [show vSize (8 * num + 2) + vSize x.f3.size + x.f3.size - (vSize (8 * num + 2) + vSize x.f3.size) = (ns x.f3).length by rw [ns_length]; omega, List.take_left]
    have e8 : (((8 * num + 2 : Nat) : Int) / 8) = (num : Int) := by omega
    rw [if_neg (show ¬ ((0 : Nat) ≠ 0) by simp), if_neg (show ¬ (2 = 0) by decide), hsz2, if_neg (by omega), hx, hsz, if_pos e, if_pos e, e8]
    simp [en, et, Nat.add_assoc]
  · obtain rfl : ty = 5 := by omega
    have hbody := b5 rfl
    have h4 := m3 e
    rw [hbody, laidStr_size] at hsz hsz2
    have hx : ns ((bytesS x.f0 x.f1 x.f2 x.f3 ++ rest).extract (vSize (8 * num + 5)) (vSize (8 * num + 5) + 4)) = laidS v 4 := by
      rw [ns_extract, hns, drop_put, hbody, ns_laidStr, show vSize (8 * num + 5) + 4 - vSize (8 * num + 5) = (laidS v 4).length by rw [laidS_length]; omega, List.take_left]
    rw [if_neg (by omega)]
    simp only [if_true, hx, lowS_laidS, hsz2, hsz]
    have e8 : (((8 * num + 5 : Nat) : Int) / 8) = (num : Int) := by omega
    rw [if_neg (by omega), if_neg (by omega), if_neg (by omega), show v % 256 ^ 4 = v from Nat.mod_eq_of_lt (by omega), e8]
    simp [en, et, ev]
/-- fields written one behind the other -/
def laidF : List (S47) → ByteArray
  | [] => ⟨#[]⟩
  | x :: l => bytesS x.f0 x.f1 x.f2 x.f3 ++ laidF l
theorem fieldsF_laid (l : List (S47)) (hl : ∀ x ∈ l, mayF x ∧ 0 ≤ x.f2 ∧ x.f2 < 18446744073709551616 ∧ x.f3.size ≤ 140737488351232) : ∀ d, l.length ≤ d → fieldsF d (laidF l) = (l.map fieldOf, 0) := by
  induction l with
  | nil =>
    intro d _
    cases d with
    | zero => rfl
    | succ d => rfl
  | cons x l ih =>
    intro d hd
    obtain ⟨d, rfl⟩ : ∃ m, d = m + 1 := ⟨d - 1, by simp at hd; omega⟩
    obtain ⟨h0, h1, h2, h3⟩ := hl x (List.mem_cons_self ..)
    have ho := oneS_bytes x (laidF l) h0 h1 h2 h3
    have hpos := oneS_pos (bytesS x.f0 x.f1 x.f2 x.f3 ++ laidF l) (by rw [ho])
    rw [ho] at hpos
    have hex : (bytesS x.f0 x.f1 x.f2 x.f3 ++ laidF l).extract (bytesS x.f0 x.f1 x.f2 x.f3).size (bytesS x.f0 x.f1 x.f2 x.f3 ++ laidF l).size = laidF l := by
      apply ns_inj
      rw [ns_extract, ns_append, show (bytesS x.f0 x.f1 x.f2 x.f3).size = (ns (bytesS x.f0 x.f1 x.f2 x.f3)).length from (ns_length _).symm, List.drop_left, List.take_of_length_le]
      rw [ByteArray.size_append, ns_length, ns_length]; omega
    have hi := ih (fun y hy => hl y (List.mem_cons_of_mem _ hy)) d (by simp at hd; omega)
    show fieldsF (d + 1) (bytesS x.f0 x.f1 x.f2 x.f3 ++ laidF l) = _
    rw [fieldsF, if_neg (by simp only at hpos; omega), ho]
    simp only [hex, hi]
    simp
theorem laidF_snoc (l : List (S47)) (x : S47) : laidF (l ++ [x]) = laidF l ++ bytesS x.f0 x.f1 x.f2 x.f3 := by
  induction l with
  | nil => apply ns_inj; simp [laidF, ns_append, ns]
  | cons y l ih => rw [List.cons_append, laidF, ih, laidF, ByteArray.append_assoc]
theorem bytes_size (x : S47) (h2 : 0 ≤ x.f2) (h2' : x.f2 < 18446744073709551616) (h3 : x.f3.size ≤ 140737488351232) : (bytesS x.f0 x.f1 x.f2 x.f3).size ≤ 20 + x.f3.size := by
  unfold bytesS
  split
  · rename_i h
    have hs := vSize_10 (8 * x.f0 + x.f1).toNat (by omega)
    have hv := vSize_10 x.f2.toNat (by omega)
    have hd := vSize_10 x.f3.size (by omega)
    split
    · rw [ByteArray.size_append, vStr_size, vStr_size]; omega
    · split
      · rw [ByteArray.size_append, ByteArray.size_append, vStr_size, vStr_size]; omega
      · split
        · rw [ByteArray.size_append, vStr_size, laidStr_size]; omega
        · split
          · show 0 ≤ _; omega
          · rw [ByteArray.size_append, vStr_size, laidStr_size]; omega
  · show 0 ≤ _; omega
theorem laidF_len (l : List (S47)) (hl : ∀ x ∈ l, mayF x) : l.length ≤ (laidF l).size := by
  induction l with
  | nil => simp
  | cons x l ih =>
    have h1 := ih (fun y hy => hl y (List.mem_cons_of_mem _ hy))
    have h2 : (bytesS x.f0 x.f1 x.f2 x.f3).size ≠ 0 := by
      intro h
      have : bytesS x.f0 x.f1 x.f2 x.f3 = ⟨#[]⟩ := ns_inj (List.eq_nil_of_length_eq_zero (by rw [ns_length]; exact h))
      exact ((bytes_nil x).1 this) (hl x (List.mem_cons_self ..))
    simp only [List.length_cons, laidF, ByteArray.size_append]
    omega
def okF (x : S47) : Prop := -9223372036854775808 ≤ x.f0 ∧ x.f0 < 9223372036854775808 ∧ -9223372036854775808 ≤ x.f1 ∧ x.f1 < 9223372036854775808 ∧ 0 ≤ x.f2 ∧ x.f2 < 18446744073709551616 ∧ x.f3.size ≤ 140737488351232
theorem okF_of (x : S47) (h : wf47 x) : okF x := by
  obtain ⟨h0, h1, h2, h3⟩ := h
  have g0 := wf_i64 h0
  have g1 := wf_i64 h1
  have g2 := wf_u64 h2
  exact ⟨g0.1, g0.2, g1.1, g1.2, g2.1, g2.2, h3⟩
theorem nil_toList : ByteArray.toList ⟨#[]⟩ = [] := toList_nil.2 (show ByteArray.size ⟨#[]⟩ = 0 from rfl)
structure InvW (i : Nat) (b : ByteArray) (n : Int) (want : List (S50)) (goods : List (S47)) : Prop where
  eb : b = laidF goods
  ew : want = goods.map (fun x => toR (fieldOf x))
  g : ∀ x ∈ goods, mayF x ∧ 0 ≤ x.f2 ∧ x.f2 < 18446744073709551616 ∧ x.f3.size ≤ 140737488351232
  l : goods.length ≤ i
  n0 : 0 ≤ n
  n1 : n ≤ 3000
  s : (b.size : Int) ≤ 20 * i + n
theorem writes_end (k i : Nat) (b : ByteArray) (n : Int) (want : List (S50)) (goods : List (S47)) (h : InvW i b n want goods) (hi : i ≤ 60) :
    ((wire_Fields_s.f b).bind fun bt102 => ((agatelaw02_Awake_s.f).bind fun t106 => (if t106 = true then (if bt102.2 = 0 then ((agatelaw02_Same_s.f bt102.1 want).bind fun t107 => (some t107)) else (some false)) else (some false)))) = some true := by
  obtain ⟨rfl, rfl, hg, hl, hn0, hn1, hs⟩ := h
  have hlen := laidF_len goods (fun x hx => (hg x hx).1)
  have hf : fieldsS (laidF goods) = (goods.map fieldOf, 0) := by
    unfold fieldsS
    rw [if_neg (by omega), fieldsF_laid goods hg _ hlen]
  have e1 : wire_Fields_s.f (laidF goods) = some ((goods.map fieldOf).map toP, 0) := by
    unfold wire_Fields_s.f
    rw [if_pos (by omega), hf]; rfl
  rw [e1]
  simp only [Option.bind_some, agatelaw02_Awake_s.f, if_true]
  unfold agatelaw02_Same_s.f
  rw [if_pos (by simp; omega)]
  simp [Function.comp_def, flP_toP, flR_toR]
set_option maxHeartbeats 4000000 in
theorem writes_eval (l : List (S47)) (hl : ∀ x ∈ l, okF x) (hl60 : l.length ≤ 60) (d : Nat) : ∀ (k i : Nat) (b : ByteArray) (n : Int) (want : List (S50)) (goods : List (S47)),
    l.length - i = d → i ≤ l.length → 2 * d < k → InvW i b n want goods → agatelaw02_WireWrites.l0 k b n want l l.length i = some true := by
  induction d with
  | zero =>
    intro k i b n want goods hd hi hk hI
    obtain ⟨k, rfl⟩ : ∃ m, k = m + 1 := ⟨k - 1, by omega⟩
    simp only [agatelaw02_WireWrites.l0]
    rw [if_neg (by omega)]
    exact writes_end k i b n want goods hI (by omega)
  | succ d ih =>
    intro k i b n want goods hd hi hk hI
    obtain ⟨k, rfl⟩ : ∃ m, k = m + 2 := ⟨k - 2, by omega⟩
    have h0 : i < l.length := by omega
    obtain ⟨p0, p1, p2, p3, p4, p5, p6⟩ := hl l[i] (List.getElem_mem _)
    have hn0 := hI.n0
    have hn1 := hI.n1
    have hbs := hI.s
    simp only [agatelaw02_WireWrites.l0]
    rw [if_pos (by omega), if_pos (by omega), if_pos (by omega)]
    simp only [rdP l i h0]
    generalize hx : l[i] = x at *
    rw [wrap64_id (x := n + (x.f3.size : Int)) (by omega) (by omega)]
    by_cases hlong : n + (x.f3.size : Int) > 3000
    · rw [if_pos hlong]; rfl
    · rw [if_neg hlong]
      obtain ⟨y, hnil, hbsz, hlaid, e1, e2⟩ : ∃ y, Aside0 (y = ⟨#[]⟩ ↔ ¬ mayF x) ∧ y.size ≤ 20 + x.f3.size ∧ (∀ g, laidF (g ++ [x]) = laidF g ++ y) ∧ agateref02_Bytes_s.f x.f0 x.f1 x.f2 x.f3 = some y ∧ wire_Field_Bytes_s.f x.f0 x.f1 x.f2 x.f3 = some y :=
        ⟨bytesS x.f0 x.f1 x.f2 x.f3, ⟨bytes_nil x⟩, bytes_size x p4 p5 p6, fun g => laidF_snoc g x, if_pos ⟨p0, p1, p2, p3, p4, p5, p6⟩, if_pos ⟨p0, p1, p2, p3, p4, p5, p6⟩⟩
      have hz : ByteArray.size ⟨#[]⟩ ≤ 140737488351232 := by decide
      have e3 : wire_Number_s.f x.f0 x.f2 = some (bytesS x.f0 0 x.f2 ⟨#[]⟩) := if_pos ⟨p0, p1, by omega, by omega, p4, p5, hz⟩
      have e4 : agateref02_Number_s.f x.f0 x.f2 = some (bytesS x.f0 0 x.f2 ⟨#[]⟩) := if_pos ⟨p0, p1, by omega, by omega, p4, p5, hz⟩
      have e5 : wire_Text_s.f x.f0 x.f3 = some (bytesS x.f0 2 0 x.f3) := if_pos ⟨p0, p1, by omega, by omega, by omega, by omega, p6⟩
      have e6 : agateref02_Text_s.f x.f0 x.f3 = some (bytesS x.f0 2 0 x.f3) := if_pos ⟨p0, p1, by omega, by omega, by omega, by omega, p6⟩
      clear hz
      simp only [e1, e2, e3, e4, e5, e6, Option.bind_some, if_true, bne_self_eq_false]
      clear e3 e4 e5 e6
      simp only [agatelaw02_WireWrites.j1, e2, Option.bind_some]
      rw [if_neg (by decide)]
      have ew : wrap64 ((i : Int) + 1) = ((i + 1 : Nat) : Int) := by rw [wrap64_id (by omega) (by omega)]; omega
      rw [ew]
      clear ew
      by_cases hm : mayF x
      · have hne : ¬ y.toList = [] := fun h => hnil.out.1 (toList_inj.1 (h.trans nil_toList.symm)) hm
        have Hm := Aside0.mk hm
        clear hm
        have hap : ((b ++ y).size : Int) ≤ 20 * ((i + 1 : Nat) : Int) + (n + (x.f3.size : Int)) := by
          have := @ByteArray.size_append b y
          omega
        have hI2 : ∀ z, z = toR (fieldOf x) → InvW (i + 1) (b ++ y) (n + (x.f3.size : Int)) (want ++ [z]) (goods ++ [x]) := by
          intro z hz
          refine ⟨by rw [hI.eb, hlaid], by rw [hI.ew, hz]; simp, ?_, by have := hI.l; simp; omega, by omega, by omega, hap⟩
          intro z hz
          rcases List.mem_append.1 hz with hz | hz
          · exact hI.g z hz
          · rw [List.mem_singleton.1 hz]; exact ⟨Hm.out, p4, p5, p6⟩
        have hwl : want.length ≤ 60 := by have := hI.l; rw [hI.ew, List.length_map]; omega
        rw [if_neg hne]
        have hsb : b.size + y.size ≤ 9223372036854775807 := by omega
        by_cases h2 : x.f1 = 2
        · rw [if_pos h2, if_pos hsb, if_pos (by omega)]
          refine ih k (i + 1) _ _ _ (goods ++ [x]) (by omega) (by omega) (by omega) (hI2 _ ?_)
          simp [fieldOf, h2, toR]
        · rw [if_neg h2, if_pos hsb, if_pos (by omega)]
          refine ih k (i + 1) _ _ _ (goods ++ [x]) (by omega) (by omega) (by omega) (hI2 _ ?_)
          simp [fieldOf, h2, toR]
      · have he : y.toList = [] := by
          rw [hnil.out.2 hm]; exact nil_toList
        clear hm
        rw [if_pos he]
        exact ih k (i + 1) b (n + (x.f3.size : Int)) want goods (by omega) (by omega) (by omega) ⟨hI.eb, hI.ew, hI.g, by have := hI.l; omega, by omega, by omega, by omega⟩
theorem WireWrites : agatelaw02_WireWrites.Pure := by
  intro l hw
  refine ⟨2 * l.length + 1, ?_⟩
  unfold agatelaw02_WireWrites.f
  by_cases hl : (l.length : Int) > 60
  · rw [if_pos hl]; rfl
  · rw [if_neg hl]
    exact writes_eval l (fun x hx => okF_of x (hw.2.2 x hx)) (by omega) l.length _ 0 _ _ _ [] (by omega) (by omega) (by omega) ⟨rfl, rfl, by simp, by simp, by omega, by omega, by show ((0 : Nat) : Int) ≤ _; omega⟩

end Go.Proofs.Ytohddbiedabmhaa.Pure
