import Derived.Test.YtgmggompdidcoaaDoorMStoreReads2
import Derived.Test.YtgmggompdidcoaaDoorMStoreReads4
import Derived.Test.YtgmggompdidcoaaDoorMStoreReads7
import Derived.Test.YtgmggompdidcoaaDoorMStoreReads8
import Derived.Test.YtgmggompdidcoaaDoorMStoreReads9
import Derived.Test.YtgmggompdidcoaaDoorMStoreReads3
namespace Go.Proofs.YtgmggompdidcoaaDoor.X
open Go.RowKit Go.Proofs.YtgmggompdidcoaaDoorW.PrintWords Go.Proofs.YtgmggompdidcoaaDoorW.PrintLast Go.Proofs.YtgmggompdidcoaaDoorW.PrintMore
attribute [local go_sem] max2_int min2_int max_two min_two max_three min_three max_four min_four
set_option linter.unusedVariables false
set_option linter.unusedSimpArgs false
def ofL (l : List S24) : List S43 := l.map (fun f => ⟨f.f0, f.f1⟩)
theorem toList_iff (a b : ByteArray) : a.toList = b.toList ↔ a = b := by
  constructor
  · intro h
    rw [ByteArray.toList_eq, ByteArray.toList_eq] at h
    cases a; cases b
    congr 1
    exact Array.toList_inj.1 h
  · rintro rfl; rfl
theorem rd_ofL (l : List S24) (i : Nat) (h : i < l.length) : rd_T43 (ofL l) (i : Int) = ⟨l[i].f0, l[i].f1⟩ := by
  unfold rd_T43 ofL
  rw [Int.toNat_natCast, List.getD_eq_getElem?_getD, List.getElem?_map, List.getElem?_eq_getElem h]; rfl
theorem len_ofL (l : List S24) : (ofL l).length = l.length := List.length_map ..
theorem of_l (l : List S24) (hl : l.length ≤ 1000) (d : Nat) : ∀ (k i : Nat), i + d = l.length → d < k → agatelaw08_Of.l0 k (ofL (l.take i)) l (l.length : Int) (i : Int) = some (ofL l) := by
  induction d with
  | zero =>
    intro k i hi hk
    obtain ⟨k, rfl⟩ : ∃ m, k = m + 1 := ⟨k - 1, by omega⟩
    rw [agatelaw08_Of.l0, if_neg (by omega), List.take_of_length_le (by omega)]
  | succ d ih =>
    intro k i hi hk
    obtain ⟨k, rfl⟩ : ∃ m, k = m + 1 := ⟨k - 1, by omega⟩
    have hw : wrap64 ((i : Int) + 1) = ((i + 1 : Nat) : Int) := by unfold wrap64; omega
    have hr : rd_T24 l (i : Int) = l[i] := by
      unfold rd_T24
      rw [Int.toNat_natCast, List.getD_eq_getElem?_getD, List.getElem?_eq_getElem (by omega)]; rfl
    have hlen : (ofL (l.take i)).length < 4398046511104 := by rw [len_ofL, List.length_take]; omega
    have hn : ofL (l.take i) ++ [(⟨l[i].f0, l[i].f1⟩ : S43)] = ofL (l.take (i + 1)) := by
      unfold ofL
      rw [List.take_succ_eq_append_getElem (by omega), List.map_append]; rfl
    rw [agatelaw08_Of.l0, if_pos (by omega), if_pos (by omega), if_pos (by omega), if_pos hlen, hr, hw, hn]
    exact ih k (i + 1) (by omega) (by omega)
theorem of_f (l : List S24) (hl : l.length ≤ 1000) : agatelaw08_Of.f (l.length + 1) l = some (ofL l) := of_l l hl l.length (l.length + 1) 0 (by omega) (by omega)
theorem newIn_l (l : List S24) (hl : l.length ≤ 1000) (i : Nat) (hi : i < l.length) (e : Nat) : ∀ (k j : Nat), j + e = i → e + 1 ≤ k →
    agateref08_New.l1 k (ofL l) (i : Int) (j : Int) = if (getL (prs ((l.take i).drop j)) l[i].f0).isSome = true then some 14 else agateref08_New.l0 (k - e - 1) (ofL l) ((i + 1 : Nat) : Int) := by
  induction e with
  | zero =>
    intro k j hj hk
    obtain ⟨k, rfl⟩ : ∃ m, k = m + 1 := ⟨k - 1, by omega⟩
    obtain rfl : j = i := by omega
    have hw : wrap64 ((j : Int) + 1) = ((j + 1 : Nat) : Int) := by unfold wrap64; omega
    rw [agateref08_New.l1, if_neg (by omega), hw, List.drop_of_length_le (by rw [List.length_take]; omega)]
    rfl
  | succ e ih =>
    intro k j hj hk
    obtain ⟨k, rfl⟩ : ∃ m, k = m + 1 := ⟨k - 1, by omega⟩
    have hw : wrap64 ((j : Int) + 1) = ((j + 1 : Nat) : Int) := by unfold wrap64; omega
    have hd : (l.take i).drop j = l[j] :: (l.take i).drop (j + 1) := by
      rw [List.drop_eq_getElem_cons (by rw [List.length_take]; omega)]
      congr 1
      exact List.getElem_take
    rw [agateref08_New.l1, if_pos (by omega), if_pos (by omega), if_pos (by rw [len_ofL]; omega), if_pos (by omega), if_pos (by rw [len_ofL]; omega), rd_ofL l j (by omega), rd_ofL l i hi, hw, hd]
    show (if l[j].f0.toList = l[i].f0.toList then _ else _) = (if (getL ((l[j].f0, l[j].f1) :: prs ((l.take i).drop (j + 1))) l[i].f0).isSome = true then _ else _)
    rw [getL]
    by_cases hx : l[j].f0 = l[i].f0
    · have hb : (l[i].f0 == l[j].f0) = true := (MapKept.bytes_beq _ _).2 hx.symm
      rw [if_pos ((toList_iff _ _).2 hx), if_pos hb]; rfl
    · have hb : ¬ (l[i].f0 == l[j].f0) = true := fun h => hx ((MapKept.bytes_beq _ _).1 h).symm
      rw [if_neg (fun h => hx ((toList_iff _ _).1 h)), if_neg hb, ih k (j + 1) (by omega) (by omega), show k + 1 - (e + 1) - 1 = k - e - 1 from by omega]
theorem newOut_l (l : List S24) (hl : l.length ≤ 1000) (c : Nat) (hc : 1 ≤ c) (hs : ∀ f ∈ l, 2 * f.f0.size + 4 ≤ c ∧ f.f0.size ≤ 140737488351232) (d : Nat) : ∀ (k i : Nat), i + d = l.length → d * 1002 + c ≤ k →
    agateref08_New.l0 k (ofL l) (i : Int) = some (newR (prs (l.take i)) (l.drop i)) := by
  induction d with
  | zero =>
    intro k i hi hk
    obtain ⟨k, rfl⟩ : ∃ m, k = m + 1 := ⟨k - 1, by omega⟩
    rw [agateref08_New.l0, if_neg (by rw [len_ofL]; omega), List.drop_of_length_le (by omega)]
    rfl
  | succ d ih =>
    intro k i hi hk
    obtain ⟨k, rfl⟩ : ∃ m, k = m + 1 := ⟨k - 1, by omega⟩
    have hil : i < l.length := by omega
    have hd : l.drop i = l[i] :: l.drop (i + 1) := List.drop_eq_getElem_cons hil
    have hk1 := hs l[i] (List.getElem_mem hil)
    have hk0 : d * 1002 + 1002 + c ≤ k + 1 := by rw [← Nat.succ_mul]; exact hk
    have hk2 : d * 1002 + c ≤ k - i - 1 := by
      have h1000 : i + 2 ≤ 1002 := by clear ih hd hk1 hs hk hk0; omega
      clear ih hd hk1 hs hk hi hl hil
      generalize d * 1002 = D at hk0 ⊢
      generalize 1002 = E at hk0 h1000
      omega
    have hi2 : i + 1 + d = l.length := by omega
    have hk3 : 2 * l[i].f0.size + 4 ≤ k := by have := hk1.1; clear ih hd hs hk hk2; omega
    have hk4 : i + 1 ≤ k := by clear ih hd hs hk hk2 hk3; omega
    clear hk hk0
    rw [agateref08_New.l0, if_pos (by rw [len_ofL]; omega), if_pos (by omega), rd_ofL l i hil, refKey_f _ hk1.2 k hk3, Option.bind_some, hd, newR]
    cases hb : keyB l[i].f0 with
    | false =>
      rw [if_neg (by simp), if_neg (by simp)]
    | true =>
      rw [if_pos rfl, if_pos rfl]
      have h := newIn_l l hl i hil i k 0 (Nat.zero_add _) hk4
      rw [List.drop_zero] at h
      rw [show (0 : Int) = ((0 : Nat) : Int) from rfl, h]
      cases hg : (getL (prs (l.take i)) l[i].f0).isSome with
      | true => rfl
      | false =>
        rw [if_neg (by simp), if_neg (by simp), ih (k - i - 1) (i + 1) hi2 hk2, prs_snoc l i hil]
theorem refNew_f (l : List S24) (hl : l.length ≤ 1000) (hs : ∀ f ∈ l, f.f0.size ≤ 10000) (k : Nat) (hk : 1100000 ≤ k) : agateref08_New.f k (ofL l) = some (newC l) := by
  unfold agateref08_New.f newC
  by_cases h : l.length > 64
  · rw [if_pos h, if_pos (by rw [len_ofL]; omega)]
  · rw [if_neg h, if_neg (by rw [len_ofL]; omega)]
    have h3 : l.length * 1002 + 20004 ≤ k := by omega
    have h4 := newOut_l l hl 20004 (by omega) (fun f hf => by have := hs f hf; omega) l.length k 0 (Nat.zero_add _) h3
    rw [List.drop_zero] at h4
    exact h4
theorem refRead_l (l : List S24) (key : ByteArray) (hl : l.length ≤ 1000) (off len : Int) (ho : 0 ≤ off ∧ off < 9223372036854775808) (hle : 0 ≤ len ∧ len < 9223372036854775808) (hs : ∀ f ∈ l, f.f1.size ≤ 140737488351232) (d : Nat) : ∀ (k i : Nat), i + d = l.length → d + 1 ≤ k →
    agateref08_Read.l0 k (ofL l) key off len (i : Int) = some (match getL (prs (l.drop i)) key with
      | none => ((⟨#[]⟩ : ByteArray), (18 : Int))
      | some b => if off > b.size ∨ len > b.size - off then (⟨#[]⟩, 1) else (b.extract off.toNat (off + len).toNat, 0)) := by
  induction d with
  | zero =>
    intro k i hi hk
    obtain ⟨k, rfl⟩ : ∃ m, k = m + 1 := ⟨k - 1, by omega⟩
    rw [agateref08_Read.l0, if_neg (by rw [len_ofL]; omega), List.drop_of_length_le (by omega)]
    rfl
  | succ d ih =>
    intro k i hi hk
    obtain ⟨k, rfl⟩ : ∃ m, k = m + 1 := ⟨k - 1, by omega⟩
    have hil : i < l.length := by omega
    have hd : l.drop i = l[i] :: l.drop (i + 1) := List.drop_eq_getElem_cons hil
    have hw : wrap64 ((i : Int) + 1) = ((i + 1 : Nat) : Int) := by unfold wrap64; omega
    have hb := hs l[i] (List.getElem_mem hil)
    rw [agateref08_Read.l0, if_pos (by rw [len_ofL]; omega), if_pos (by omega), rd_ofL l i hil, hd, hw]
    show (if l[i].f0.toList = key.toList then _ else _) = some (match getL ((l[i].f0, l[i].f1) :: prs (l.drop (i + 1))) key with
      | none => ((⟨#[]⟩ : ByteArray), (18 : Int))
      | some b => if off > b.size ∨ len > b.size - off then (⟨#[]⟩, 1) else (b.extract off.toNat (off + len).toNat, 0))
    rw [getL]
    by_cases hx : l[i].f0 = key
    · have hbq : (key == l[i].f0) = true := (MapKept.bytes_beq _ _).2 hx.symm
      rw [if_pos ((toList_iff _ _).2 hx), if_pos hbq]
      have hw1 : wrap64 ((l[i].f1.size : Int) - off) = (l[i].f1.size : Int) - off := by unfold wrap64; omega
      show (if off > (l[i].f1.size : Int) then _ else if len > wrap64 ((l[i].f1.size : Int) - off) then _ else _) = some (if off > (l[i].f1.size : Int) ∨ len > (l[i].f1.size : Int) - off then _ else _)
      rw [hw1]
      by_cases h1 : off > (l[i].f1.size : Int)
      · rw [if_pos h1, if_pos (.inl h1)]
      · rw [if_neg h1]
        by_cases h2 : len > (l[i].f1.size : Int) - off
        · rw [if_pos h2, if_pos (.inr h2)]
        · have hw2 : wrap64 (off + len) = off + len := by unfold wrap64; omega
          rw [if_neg h2, if_neg (show ¬ (off > (l[i].f1.size : Int) ∨ len > (l[i].f1.size : Int) - off) from fun h => h.elim h1 h2), hw2, if_pos ho.1, if_pos (by omega), if_pos (by show off + len ≤ (l[i].f1.size : Int); omega)]
    · have hbq : ¬ (key == l[i].f0) = true := fun h => hx ((MapKept.bytes_beq _ _).1 h).symm
      rw [if_neg (fun h => hx ((toList_iff _ _).1 h)), if_neg hbq]
      exact ih k (i + 1) (by omega) (by omega)
theorem refRead_f (l : List S24) (key : ByteArray) (hl : l.length ≤ 1000) (hkey : key.size ≤ 10000) (off len : Int) (ho : -9223372036854775808 ≤ off ∧ off < 9223372036854775808) (hle : -9223372036854775808 ≤ len ∧ len < 9223372036854775808) (hs : ∀ f ∈ l, f.f1.size ≤ 140737488351232) (k : Nat) (hk : 30000 ≤ k) :
    agateref08_Read.f k (ofL l) key off len = some (stRead (prs l) key off len) := by
  unfold agateref08_Read.f stRead
  rw [refKey_f key (by omega) k (by omega), Option.bind_some]
  cases hb : keyB key with
  | false => rfl
  | true =>
    rw [if_pos rfl, if_pos rfl]
    by_cases h1 : off < 0
    · obtain ⟨k, rfl⟩ : ∃ m, k = m + 1 := ⟨k - 1, by omega⟩
      rw [if_pos h1, if_pos (.inl h1)]; rfl
    · rw [if_neg h1]
      by_cases h2 : len < 0
      · obtain ⟨k, rfl⟩ : ∃ m, k = m + 1 := ⟨k - 1, by omega⟩
        rw [decide_eq_true h2, if_pos (.inr h2)]; rfl
      · rw [decide_eq_false h2, if_neg (fun h => h.elim h1 h2)]
        obtain ⟨k, rfl⟩ : ∃ m, k = m + 1 := ⟨k - 1, by omega⟩
        have h := refRead_l l key hl off len (by omega) (by omega) hs l.length k 0 (by omega) (by omega)
        rw [List.drop_zero] at h
        rw [agateref08_Read.j0, if_neg (by simp)]
        exact h
theorem bytesLe_eq : ∀ a b : List UInt8, (Op.bytesLess a b || a == b) = !Op.bytesLess b a
  | [], [] => rfl
  | [], _ :: _ => rfl
  | _ :: _, [] => rfl
  | a :: x, b :: y => by
    have ih := bytesLe_eq x y
    have h1 : Op.bytesLess (a :: x) (b :: y) = (decide (a < b) || (a == b && Op.bytesLess x y)) := rfl
    have h2 : Op.bytesLess (b :: y) (a :: x) = (decide (b < a) || (b == a && Op.bytesLess y x)) := rfl
    have h3 : ((a :: x) == (b :: y)) = (a == b && x == y) := rfl
    rw [h1, h2, h3]
    by_cases hab : a = b
    · subst hab
      have hn : decide (a < a) = false := decide_eq_false (UInt8.lt_irrefl a)
      rw [hn, beq_self_eq_true, Bool.false_or, Bool.true_and, Bool.true_and, Bool.false_or, Bool.true_and]
      exact ih
    · have e1 : (a == b) = false := beq_eq_false_iff_ne.2 hab
      have e2 : (b == a) = false := beq_eq_false_iff_ne.2 (fun h => hab h.symm)
      rw [e1, e2, Bool.false_and, Bool.false_and, Bool.false_and, Bool.or_false, Bool.or_false, Bool.or_false]
      rcases UInt8.lt_or_lt_of_ne hab with h | h
      · rw [decide_eq_true h, decide_eq_false (UInt8.lt_asymm h)]; rfl
      · rw [decide_eq_true h, decide_eq_false (UInt8.lt_asymm h)]; rfl
def sumF (l : List S24) : Nat := (l.map (fun f => f.f0.size + f.f1.size)).sum
theorem sumF_snoc (l : List S24) (i : Nat) (h : i < l.length) : sumF (l.take (i + 1)) = sumF (l.take i) + (l[i].f0.size + l[i].f1.size) := by
  unfold sumF
  rw [List.take_succ_eq_append_getElem h, List.map_append, List.sum_append]
  rfl
theorem sumF_mem {l : List S24} {f : S24} (h : f ∈ l) : f.f0.size + f.f1.size ≤ sumF l := by
  unfold sumF
  induction l with
  | nil => cases h
  | cons a t ih =>
    rw [List.map_cons, List.sum_cons]
    rcases List.mem_cons.1 h with rfl | h
    · omega
    · have := ih h; omega
structure Good (L : List S24) : Prop where
  few : L.length ≤ 100
  short : ∀ f ∈ L, f.f0.size + f.f1.size ≤ 10000
  keys : ∀ f ∈ L, keyB f.f0 = true
  apart : ((prs L).map (·.1)).Nodup
theorem getL_none (k : ByteArray) : ∀ l : List (ByteArray × ByteArray), getL l k = none → k ∉ l.map (·.1)
  | [], _ => by simp
  | p :: t, h => by
    rw [getL] at h
    cases hb : (k == p.1) with
    | true => rw [if_pos hb] at h; cases h
    | false =>
      rw [if_neg (by rw [hb]; simp)] at h
      rw [List.map_cons, List.mem_cons]
      rintro (e | e)
      · rw [(MapKept.bytes_beq k p.1).2 e] at hb; cases hb
      · exact getL_none k t h e
theorem getL_mem (k : ByteArray) : ∀ l : List (ByteArray × ByteArray), k ∈ l.map (·.1) → ∃ d, getL l k = some d ∧ (k, d) ∈ l
  | [], h => by cases h
  | p :: t, h => by
    rw [getL]
    cases hb : (k == p.1) with
    | true =>
      have := (MapKept.bytes_beq k p.1).1 hb
      exact ⟨p.2, if_pos rfl, by rw [this]; exact List.mem_cons_self ..⟩
    | false =>
      rw [List.map_cons, List.mem_cons] at h
      rcases h with h | h
      · rw [(MapKept.bytes_beq k p.1).2 h] at hb; cases hb
      · obtain ⟨d, h1, h2⟩ := getL_mem k t h
        exact ⟨d, by rw [if_neg (by simp)]; exact h1, List.mem_cons_of_mem _ h2⟩
theorem newR_good : ∀ (l : List S24) (met : List (ByteArray × ByteArray)), newR met l = 0 → (met.map (·.1)).Nodup → (∀ f ∈ l, keyB f.f0 = true) ∧ ((met ++ prs l).map (·.1)).Nodup
  | [], met, _, hm => ⟨by simp, by simpa [prs] using hm⟩
  | f :: t, met, h, hm => by
    rw [newR] at h
    by_cases hk : keyB f.f0 = true
    · rw [if_pos hk] at h
      cases hg : getL met f.f0 with
      | some d => rw [hg] at h; cases h
      | none =>
        rw [hg, if_neg (by simp)] at h
        have hnot := getL_none _ _ hg
        obtain ⟨h1, h2⟩ := newR_good t (met ++ [(f.f0, f.f1)]) h (by
          rw [List.map_append, List.nodup_append]
          refine ⟨hm, by simp, fun a ha b hb e => ?_⟩
          rw [List.map_cons, List.map_nil, List.mem_singleton] at hb
          rw [e, hb] at ha
          exact hnot ha)
        refine ⟨fun g hg' => ?_, by rw [List.append_assoc] at h2; exact h2⟩
        rcases List.mem_cons.1 hg' with rfl | hg'
        · exact hk
        · exact h1 g hg'
    · rw [if_neg hk] at h; cases h
theorem good_new {l : List S24} (h : newC l = 0) (hl : l.length ≤ 100) (hs : sumF l ≤ 10000) : Good l := by
  unfold newC at h
  by_cases h64 : l.length > 64
  · rw [if_pos h64] at h; cases h
  · rw [if_neg h64] at h
    obtain ⟨h1, h2⟩ := newR_good l [] h List.nodup_nil
    exact ⟨hl, fun f hf => Nat.le_trans (sumF_mem hf) hs, h1, h2⟩
theorem good_nil : Good [] := ⟨by simp, by simp, by simp, List.nodup_nil⟩
theorem Good.get {L : List S24} (h : Good L) {k b : ByteArray} (hg : getL (prs L) k = some b) : b.size ≤ 10000 := by
  have hk : k ∈ (prs L).map (·.1) := by
    by_cases c : k ∈ (prs L).map (·.1)
    · exact c
    · exfalso
      have key : ∀ l : List (ByteArray × ByteArray), k ∉ l.map (·.1) → getL l k = none := by
        intro l
        induction l with
        | nil => intro _; rfl
        | cons p t ih =>
          intro hn
          rw [List.map_cons, List.mem_cons, not_or] at hn
          rw [getL, if_neg (fun e => hn.1 ((MapKept.bytes_beq k p.1).1 e))]
          exact ih hn.2
      rw [key _ c] at hg; cases hg
  obtain ⟨d, h1, h2⟩ := getL_mem k _ hk
  rw [hg] at h1
  obtain rfl := Option.some.inj h1
  obtain ⟨f, hf, e⟩ := List.mem_map.1 h2
  have := h.short f hf
  injection e with e1 e2
  rw [← e2]; omega
theorem Good.read0 {L : List S24} (h : Good L) {k : ByteArray} (hk : k ∈ (prs L).map (·.1)) : ∃ t, stRead (prs L) k 0 0 = (t, 0) := by
  obtain ⟨d, h1, h2⟩ := getL_mem k _ hk
  obtain ⟨f, hf, e⟩ := List.mem_map.1 h2
  injection e with e1 e2
  have hkb : keyB k = true := by rw [← e1]; exact h.keys f hf
  unfold stRead
  rw [if_pos hkb, if_neg (by omega), h1]
  refine ⟨_, if_neg (by omega)⟩
theorem bytesLess_iff : ∀ a b : List UInt8, Op.bytesLess a b = true ↔ a < b
  | [], [] => by simp [Op.bytesLess]
  | [], b :: y => by simp [Op.bytesLess]
  | a :: x, [] => by simp [Op.bytesLess]
  | a :: x, b :: y => by
    have ih := bytesLess_iff x y
    have h1 : Op.bytesLess (a :: x) (b :: y) = (decide (a < b) || (a == b && Op.bytesLess x y)) := rfl
    rw [h1, List.cons_lt_cons_iff, Bool.or_eq_true, Bool.and_eq_true, decide_eq_true_eq, beq_iff_eq, ih]
theorem rising_at {l : List (ByteArray × ByteArray)} {ks : List ByteArray} (h : keysOf l ks) (hn : (l.map (·.1)).Nodup) (i : Nat) (hi : i + 1 < ks.length) : (Op.bytesLess ks[i + 1].toList ks[i].toList || ks[i + 1].toList == ks[i].toList) = false := by
  have h1 := List.pairwise_iff_getElem.1 h.2 i (i + 1) (by omega) hi (by omega)
  have h2 : ks.Nodup := h.1.nodup_iff.2 hn
  have h3 : ks[i] ≠ ks[i + 1] := fun e => by
    have := (List.pairwise_iff_getElem.1 h2) i (i + 1) (by omega) hi (by omega)
    exact this e
  rw [bytesLe_eq]
  have h4 : Op.bytesLess ks[i].toList ks[i + 1].toList = true := by
    rw [bytesLess_iff, ByteArray.toList_eq, ByteArray.toList_eq]
    rcases List.le_iff_lt_or_eq.1 h1 with h | h
    · exact h
    · exfalso
      apply h3
      exact (toList_iff _ _).1 (by rw [ByteArray.toList_eq, ByteArray.toList_eq]; exact h)
  rw [h4]; rfl
theorem rest8 {L : List S24} (hG : Good L) (m : Option Nat) (key : ByteArray) (off len : Int) (hkey : key.size ≤ 140737488351232) (ho : -9223372036854775808 ≤ off ∧ off < 9223372036854775808) (hle : -9223372036854775808 ≤ len ∧ len < 9223372036854775808) {R : ByteArray × Int} (hR : stRead (prs L) key off len = R) :
    ∀ W, StrMap W m (prs L) → Calls Tryd.prog 8 #[.agg #[.map m], .string key, .int .i64 off, .int .i64 len] W (ReadPost W R) := fun W hM => by
  rw [← hR]
  exact Read_any m (prs L) key off len W hM hkey (fun b hb => by have := hG.get hb; omega) ho hle
theorem rest9 {L : List S24} (hG : Good L) (A2 : Option Addr) (c2 : Nat) (hc : (ofL L).length ≤ c2) (key : ByteArray) (off len : Int) (hkey : key.size ≤ 10000) (ho : -9223372036854775808 ≤ off ∧ off < 9223372036854775808) (hle : -9223372036854775808 ≤ len ∧ len < 9223372036854775808) {R : ByteArray × Int} (hR : stRead (prs L) key off len = R) :
    ∀ W, Kd.C k43 W A2 (ofL L).length (ofL L) → Calls Tryd.prog 9 #[.slice A2 (ofL L).length c2, .string key, .int .i64 off, .int .i64 len] W fun e w' => e = .returned (.tuple #[.string R.1, .int .i64 R.2]) ∧ Drawn0 W w' := fun W hC =>
  agateref08_Read.calls 30000 A2 c2 (ofL L) key off len R.1 R.2 W hC hc (by rw [refRead_f L key (by have := hG.few; omega) hkey off len ho hle (fun f hf => by have := hG.short f hf; omega) 30000 (Nat.le_refl _), hR])
theorem rest0 {L : List S24} (hG : Good L) (A2 : Option Addr) (c2 : Nat) (hc : (ofL L).length ≤ c2) (x : ByteArray) (hx : x ∈ (prs L).map (·.1)) :
    ∃ t, ∀ W, Kd.C k43 W A2 (ofL L).length (ofL L) → Calls Tryd.prog 9 #[.slice A2 (ofL L).length c2, .string x, .int .i64 0, .int .i64 0] W fun e w' => e = .returned (.tuple #[.string t, .int .i64 0]) ∧ Drawn0 W w' := by
  obtain ⟨t, ht⟩ := hG.read0 hx
  have hxs : x.size ≤ 10000 := by
    obtain ⟨p, hp, e⟩ := List.mem_map.1 hx
    obtain ⟨f, hf, e2⟩ := List.mem_map.1 hp
    have := hG.short f hf
    rw [← e, ← e2]; dsimp only; omega
  exact ⟨t, rest9 hG A2 c2 hc x 0 0 hxs (by omega) (by omega) ht⟩
theorem restK {L : List S24} (hG : Good L) (m : Option Nat) : ∀ W, StrMap W m (prs L) → Calls Tryd.prog 10 #[.agg #[.map m]] W (KeysPost W (prs L)) := fun W hM =>
  Keys_any m (prs L) W hM (fun p hp => by
    obtain ⟨f, hf, e⟩ := List.mem_map.1 hp
    have := hG.short f hf
    rw [← e]; unfold maxLen; dsimp only; omega) hG.apart (by unfold prs; rw [List.length_map]; have := hG.few; omega)
def LawPost (w : World) (e : Ending) (w' : World) : Prop := e = .returned (.bool true) ∧ Below w.heap.size w w'
set_option maxHeartbeats 16000000 in
set_option maxRecDepth 100000 in
theorem storeLaw (A : Option Addr) (c : Nat) (l : List S24) (key : ByteArray) (off len : Int) (w : World) (hr : Kd.C k24 w A l.length l) (hc : l.length ≤ c) (hs : ∀ f ∈ l, f.f0.size ≤ 140737488351232 ∧ f.f1.size ≤ 140737488351232) (hkey : key.size ≤ 140737488351232) (ho : -9223372036854775808 ≤ off ∧ off < 9223372036854775808) (hle : -9223372036854775808 ≤ len ∧ len < 9223372036854775808) :
    Calls Tryd.prog 3 #[.slice A l.length c, .string key, .int .i64 off, .int .i64 len] w (LawPost w) := by
  have hu := Tryd.underlying30
  have hu2 := Tryd.underlying24
  have HR := Aside0.mk hr
  have HLc := Aside0.mk hc
  have HL := Aside0.mk hr.2.1
  have HSz := Aside0.mk hs
  have HKey := Aside0.mk hkey
  have HO := Aside0.mk ho
  have HLe := Aside0.mk hle
  have HB := Aside0.mk (Below.refl w.heap.size w)
  clear hr hc hs hkey ho hle
  go_enter Tryd.func3, Tryd.ntmps3
  go_wp2_with (first | fail)
  go_loopg [9, 26] l.length (fun kq v9 v26 w' => ∃ i : Nat, v26 = .int .i64 i ∧ v9 = .int .i64 ((sumF (l.take i) : Nat) : Int) ∧ Aside0 (i + kq = l.length) ∧ Aside0 (sumF (l.take i) ≤ 10000) ∧ Aside0 (Below w.heap.size w w'))
  case atStart => exact ⟨0, rfl, rfl, ⟨by omega⟩, ⟨Nat.zero_le _⟩, HB⟩
  case round =>
  clear HB
  obtain ⟨i, rfl, rfl, HN, HS, HB⟩ := hrel
  by_cases hlt : i < l.length
  · have hlt' : decide ((i : Int) < (l.length : Int)) = true := decide_eq_true (by omega)
    obtain ⟨kk, rfl⟩ : ∃ m, gk = m + 1 := ⟨gk - 1, by have := HN.out; omega⟩
    have p101 : 0 ≤ (i : Int) := Int.natCast_nonneg i
    have q101 : (i : Int) < (l.length : Int) := by omega
    obtain ⟨ad101, e101, hx101_0, hx101_1⟩ := at_T24 (Kd.C_below HR.out HB.out) (i : Int) p101 q101
    cases e101
    rw [Int.toNat_natCast] at hx101_0 hx101_1
    have hrd : rd_T24 l (i : Int) = l[i] := by simp [rd_T24, hlt]
    rw [hrd] at hx101_0 hx101_1
    have HSn := Aside0.mk (sumF_snoc l i hlt)
    have HZ := Aside0.mk (HSz.out l[i] (List.getElem_mem hlt))
    clear hrd
    generalize l[i] = x at hx101_0 hx101_1 HSn HZ
    obtain ⟨x0, x1⟩ := x
    have hz0 : x0.size ≤ 9223372036854775807 := by have := HZ.out.1; dsimp only at this; omega
    have hz1 : x1.size ≤ 9223372036854775807 := by have := HZ.out.2; dsimp only at this; omega
    have HI := Aside0.mk hlt
    have Hw : Aside0 (wrap64 ((i : Int) + 1) = (i : Int) + 1) := ⟨by have := HL.out; exact wrap64_id (by omega) (by omega)⟩
    obtain ⟨S, hS⟩ : ∃ S : Nat, sumF (l.take i) = S := ⟨_, rfl⟩
    rw [hS] at HSn HS ⊢
    have hw1 : IntKind.i64.wrap ((x0.size : Int) + (x1.size : Int)) = (x0.size : Int) + (x1.size : Int) := by rw [i64_w]; have := HZ.out; dsimp only at this; exact wrap64_id (by omega) (by omega)
    have hw2 : IntKind.i64.wrap ((S : Int) + ((x0.size : Int) + (x1.size : Int))) = (S : Int) + ((x0.size : Int) + (x1.size : Int)) := by rw [i64_w]; have h1 := HZ.out; have := HS.out; dsimp only at h1; exact wrap64_id (by omega) (by omega)
    clear hlt hS
    replace p101 := eq_true p101
    replace q101 := eq_true q101
    by_cases hg : S + (x0.size + x1.size) > 10000
    · have hg' : decide (10000 < (S : Int) + ((x0.size : Int) + (x1.size : Int))) = true := decide_eq_true (by omega)
      clear hg
      go_wp2_with (first | ((with_reducible refine gate_dst (N := 11) rfl ?_); refine boxE (N := 11) (cs := #[.string (⟨#[]⟩ : ByteArray), .string (⟨#[]⟩ : ByteArray)]) (t := 24) ?_; intro gb hg w6 hbox hb; have BK := mk0 hbox; have GW := gwS HB hg; replace HB := hbS HB hb; clear hb hbox hg; obtain ⟨hc60, hc61⟩ := cz2 BK; have hf60 := fz BK 0; have hf61 := fz BK 1))
      replace HB := mk0 (below_set (below_set HB.out GW.out (j := 0) (v := .string x0)) GW.out (j := 1) (v := .string x1))
      refine (Awake08_any _).mono ?_
      rintro e w8 ⟨rfl, hb⟩
      replace HB := hbS HB hb
      clear hb BK hc60 hc61 hf60 hf61
      go_wp2
      go_ret
      exact ⟨rfl, HB.out⟩
    · have hg' : decide (10000 < (S : Int) + ((x0.size : Int) + (x1.size : Int))) = false := decide_eq_false (by omega)
      have HG := Aside0.mk hg
      clear hg
      go_wp2_with (first | ((with_reducible refine gate_dst (N := 11) rfl ?_); refine boxE (N := 11) (cs := #[.string (⟨#[]⟩ : ByteArray), .string (⟨#[]⟩ : ByteArray)]) (t := 24) ?_; intro gb hg w6 hbox hb; have BK := mk0 hbox; have GW := gwS HB hg; replace HB := hbS HB hb; clear hb hbox hg; obtain ⟨hc60, hc61⟩ := cz2 BK; have hf60 := fz BK 0; have hf61 := fz BK 1))
      go_roundg kk
      case measure => omega
      case rel => exact ⟨i + 1, by rw [Hw.out]; rfl, by rw [HSn.out]; rfl, ⟨by have := HN.out; omega⟩, ⟨by rw [HSn.out]; have := HG.out; omega⟩, ⟨below_set (below_set HB.out GW.out) GW.out⟩⟩
  · have hge : decide ((i : Int) < (l.length : Int)) = false := decide_eq_false (by omega)
    have hi : i = l.length := by
      have := HN.out
      omega
    subst hi
    rw [List.take_length] at HS ⊢
    clear hlt HN
    by_cases hk4 : key.size > 400
    · have b4 : decide (400 < (key.size : Int)) = true := decide_eq_true (by omega)
      have hm : key.size ≤ 9223372036854775807 := by have := HKey.out; omega
      clear hk4
      go_wp2_with (first | fail)
      refine (Awake08_any _).mono ?_
      rintro e w8 ⟨rfl, hb⟩
      replace HB := hbS HB hb
      clear hb
      go_wp2
      go_ret
      exact ⟨rfl, HB.out⟩
    have b4 : decide (400 < (key.size : Int)) = false := decide_eq_false (by omega)
    have HK4 := Aside0.mk hk4
    have hm : key.size ≤ 9223372036854775807 := by have := HKey.out; omega
    clear hk4
    by_cases hl1 : l.length > 100
    · have b5 : decide (100 < (l.length : Int)) = true := decide_eq_true (by omega)
      clear hl1
      go_wp2_with (first | fail)
      refine (Awake08_any _).mono ?_
      rintro e w8 ⟨rfl, hb⟩
      replace HB := hbS HB hb
      clear hb
      go_wp2
      go_ret
      exact ⟨rfl, HB.out⟩
    have b5 : decide (100 < (l.length : Int)) = false := decide_eq_false (by omega)
    have HL1 := Aside0.mk hl1
    clear hl1
    go_wp2_with (first | fail)
    refine (agatelaw08_Of.calls (l.length + 1) A c l (ofL l) _ (Kd.C_below HR.out HB.out) HLc.out (of_f l (by have := HL1.out; omega))).mono ?_
    rintro e w1 ⟨v0_, rfl, hO, hb⟩
    obtain ⟨A1, c1, rfl⟩ := Kd.R_slice hO
    have HO1 := Aside0.mk hO
    replace HB := hbS HB hb
    clear hb hO
    go_wp2_with (first | fail)
    refine (New_any A c l _ (Kd.C_below HR.out HB.out) HLc.out (fun f hf => (HSz.out f hf).1)).mono ?_
    rintro e w2 ⟨m, rfl, hM, hb⟩
    replace HO1 := mk0 (Kd.R_below HO1.out hb)
    replace HB := hbS HB hb
    have HM := mk0 hM
    clear hb hM
    have HNf := Aside0.mk (refNew_f l (by have := HL1.out; omega) (fun f hf => by have h1 := sumF_mem hf; have h2 := HS.out; omega) 1100000 (Nat.le_refl _))
    have HGood := Aside0.mk (fun h : newC l = 0 => good_new h (by have := HL1.out; omega) HS.out)
    obtain ⟨C, hC⟩ : ∃ C, newC l = C := ⟨_, rfl⟩
    rw [hC] at HNf HGood HM ⊢
    clear hC
    go_wp2_with (first | ((with_reducible refine gate_dst (N := 13) rfl ?_); refine boxE (N := 13) (cs := #[.map none]) (t := 30) ?_; intro gb hg w3 hbox hb; have BK := mk0 hbox; have GW := gwS HB hg; replace HO1 := mk0 (Kd.R_below (Kd.R_elderB HO1.out gb (Nat.le_of_eq hg.symm)) hb); replace HM := mk0 (HM.out.kept hb); replace HB := hbS HB hb; clear hb hbox hg; have hc60 := cz1 BK; have hf60 := fz BK 0))
    obtain ⟨w4, hw4⟩ : ∃ w4, w4 = w3.setCell ⟨gb, 0, none⟩ (.map m) := ⟨_, rfl⟩
    rw [← hw4]
    replace HM := mk0 (show StrMap w4 m (if C = 0 then prs l else []) from by rw [hw4]; exact HM.out.set BK.out _)
    have BK4 := mk0 (show w4.heap[gb]? = some (.cells #[.map m] 30 (0, 0)) from by rw [hw4]; exact bkW BK)
    replace HB := mk0 (show Below w.heap.size w w4 from by rw [hw4]; exact below_set HB.out GW.out)
    have HO2 := Kd.R_far (p := ⟨gb, 0, none⟩) HO1.out (fun _ hk => hk.2) (.map m)
    rw [← hw4] at HO2
    have HC1 := Aside0.mk (Kd.R_reads' HO2).2.1
    have HOC := Aside0.mk (Kd.R_reads' HO2).2.2
    clear HO2 HO1 BK hc60 hf60 hw4 GW
    refine (agateref08_New.calls 1100000 A1 c1 (ofL l) C _ HOC.out HC1.out HNf.out).mono ?_
    rintro e w5 ⟨rfl, ⟨nd, rfl⟩⟩
    have hcc : (C == C) = true := beq_self_eq_true C
    have hcn : (C != C) = false := bne_self_eq_false C
    replace HM := mk0 (HM.out.drewN nd)
    replace BK4 := mk0 (blk_drewN BK4.out nd)
    replace HB := mk0 (pw_below_drewN HB.out nd)
    replace HOC := mk0 (Kd.C_drewN HOC.out nd)
    generalize w4.drewN nd = w5 at HM BK4 HB HOC ⊢
    clear HNf
    by_cases hC0 : C = 0
    have b0 : (C == 0) = true := beq_iff_eq.2 hC0
    have b1 : (C != 0) = false := bne_eq_false_iff_eq.2 hC0
    have HG := Aside0.mk (HGood.out hC0)
    replace HM := mk0 (show StrMap w5 m (prs l) from by have h := HM.out; rw [if_pos hC0] at h; exact h)
    have hcM := cz1 BK4
    obtain ⟨R, hR⟩ : ∃ R, stRead (prs l) key off len = R := ⟨_, rfl⟩
    have HR8 := Aside0.mk (rest8 HG.out m key off len HKey.out HO.out HLe.out hR)
    have HR9 := Aside0.mk (rest9 HG.out A1 c1 HC1.out key off len (by have := HK4.out; omega) HO.out HLe.out hR)
    have HR0 := Aside0.mk (rest0 HG.out A1 c1 HC1.out)
    have HRK := Aside0.mk (restK HG.out m)
    have HLn := Aside0.mk (show (ofL l).length = (prs l).length from by unfold ofL prs; rw [List.length_map, List.length_map])
    have HAp := Aside0.mk HG.out.apart
    clear HGood hC0 hR HG
    rotate_left
    have b0 : (C == 0) = false := beq_eq_false_iff_ne.2 hC0
    have b1 : (C != 0) = true := bne_iff_ne.2 hC0
    replace HM := mk0 (show StrMap w5 m (prs []) from by have h := HM.out; rw [if_neg hC0] at h; exact h)
    have hcM := cz1 BK4
    obtain ⟨R, hR⟩ : ∃ R, stRead (prs []) key off len = R := ⟨_, rfl⟩
    replace HC1 := mk0 (show (ofL []).length ≤ 0 from Nat.le_refl _)
    replace HOC := mk0 (show Kd.C k43 w5 none (ofL []).length (ofL []) from Kd.C_nil _ _)
    have HR8 := Aside0.mk (rest8 good_nil m key off len HKey.out HO.out HLe.out hR)
    have HR9 := Aside0.mk (rest9 good_nil none 0 HC1.out key off len (by have := HK4.out; omega) HO.out HLe.out hR)
    have HR0 := Aside0.mk (rest0 good_nil none 0 HC1.out)
    have HRK := Aside0.mk (restK good_nil m)
    have HLn := Aside0.mk (show (ofL []).length = (prs []).length from rfl)
    have HAp := Aside0.mk good_nil.apart
    clear HGood hC0 hR
    go_wp2_with (first | fail)
    all_goals
      refine (HR8.out _ HM.out).mono ?_
      rintro e w6 ⟨rfl, hb⟩
      replace HM := mk0 (HM.out.kept hb); replace BK4 := bkS BK4 hb; replace HOC := mk0 (Kd.C_below HOC.out hb); replace HB := hbS HB hb
      clear hb hcM HR8
      go_wp2_with (first | fail)
      refine (HR9.out _ HOC.out).mono ?_
      rintro e w7 ⟨rfl, ⟨nd, rfl⟩⟩
      replace HM := mk0 (HM.out.drewN nd)
      replace BK4 := mk0 (blk_drewN BK4.out nd)
      replace HB := mk0 (pw_below_drewN HB.out nd)
      replace HOC := mk0 (Kd.C_drewN HOC.out nd)
      generalize w6.drewN nd = w7 at HM BK4 HB HOC ⊢
      have hcM := cz1 BK4
      clear HR9
      go_wp2_with (first | fail)
      refine (HRK.out _ HM.out).mono ?_
      rintro e w8 ⟨v, ks, rfl, hks, hKR, hb⟩
      replace HM := mk0 (HM.out.kept hb); replace HOC := mk0 (Kd.C_below HOC.out hb); replace HB := hbS HB hb
      clear hb hcM HRK BK4
      obtain ⟨Ak, ck, rfl⟩ := Kd.R_slice hKR
      have HKC := Aside0.mk (Kd.R_reads' hKR).2.2
      have HKS := Aside0.mk hks
      clear hKR hks
      obtain ⟨R1, R2⟩ := R
      have e1 : (R1.toList == R1.toList) = true := beq_self_eq_true _
      have e2 : (R2 == R2) = true := beq_self_eq_true _
      have e3 : (R1.toList != R1.toList) = false := bne_self_eq_false _
      have e4 : (R2 != R2) = false := bne_self_eq_false _
      go_wp2_with (first | fail)
      refine (Key_any key HKey.out _).mono ?_
      rintro e w9 ⟨rfl, hb⟩
      replace HOC := mk0 (Kd.C_below HOC.out hb); replace HKC := mk0 (Kd.C_below HKC.out hb); replace HB := hbS HB hb
      clear hb
      go_wp2_with (first | fail)
      refine (agateref08_Key.calls 30000 key (keyB key) _ (refKey_f key HKey.out 30000 (by have := HK4.out; omega))).mono ?_
      rintro e w10 ⟨rfl, ⟨nd, rfl⟩⟩
      replace HB := mk0 (pw_below_drewN HB.out nd)
      replace HOC := mk0 (Kd.C_drewN HOC.out nd)
      replace HKC := mk0 (Kd.C_drewN HKC.out nd)
      generalize w9.drewN nd = w10 at HB HOC HKC ⊢
      have hln := HKS.out.1.length_eq.trans ((List.length_map ..).trans HLn.out.symm)
      try rw [show (ofL []).length = 0 from rfl] at hln
      have e7 := beq_iff_eq.2 (congrArg (fun n : Nat => (n : Int)) hln)
      have e8 := bne_eq_false_iff_eq.2 (congrArg (fun n : Nat => (n : Int)) hln)
      have e7n := beq_iff_eq.2 hln
      have e8n := bne_eq_false_iff_eq.2 hln
      try (have e9 : ((ks.length : Int) == 0) = true := by rw [hln]; rfl)
      try (have e10 : ((ks.length : Int) != 0) = false := by rw [hln]; rfl)
      obtain ⟨kb, hkb⟩ : ∃ kb, keyB key = kb := ⟨_, rfl⟩
      rw [hkb]
      have e5 : (kb == kb) = true := beq_self_eq_true kb
      have e6 : (kb != kb) = false := bne_self_eq_false kb
      have HLk := Aside0.mk HKC.out.2.1
      clear hln hkb HLn HM
      go_wp2_with (first | fail)
      clear e5 e6 e7 e8 e7n e8n
      try clear e9
      try clear e10
      have HB0 := mk0 (Below.refl w10.heap.size w10)
      go_loopg [108] ks.length (fun kq v108 w' => ∃ i : Nat, v108 = .int .i64 i ∧ Aside0 (i + kq = ks.length) ∧ Aside0 (Below w10.heap.size w10 w'))
      case atStart => exact ⟨0, rfl, ⟨by omega⟩, HB0⟩
      case round =>
      clear HB0
      obtain ⟨i, rfl, HN, HBi⟩ := hrel
      by_cases hlt : i < ks.length
      · have hlt' : decide ((i : Int) < (ks.length : Int)) = true := decide_eq_true (by omega)
        obtain ⟨kk, rfl⟩ : ∃ m, gk = m + 1 := ⟨gk - 1, by have := HN.out; omega⟩
        have p1 : 0 ≤ (i : Int) := Int.natCast_nonneg i
        have q1 : (i : Int) < (ks.length : Int) := by omega
        obtain ⟨ad, ea, hx⟩ := Kd.at_string (Kd.C_below HKC.out HBi.out) (i : Int) p1 q1
        cases ea
        have hrd : rdOf ByteArray.empty ks (i : Int) = ks[i] := by simp [rdOf, hlt]
        rw [hrd, Int.toNat_natCast] at hx
        have hmem : ks[i] ∈ _ := HKS.out.1.subset (List.getElem_mem hlt)
        obtain ⟨t, ht⟩ := HR0.out _ hmem
        have HT := Aside0.mk ht
        have Hw : Aside0 (wrap64 ((i : Int) + 1) = (i : Int) + 1) := ⟨by have := HLk.out; exact wrap64_id (by omega) (by omega)⟩
        have HI := Aside0.mk hlt
        clear hrd hmem ht
        by_cases h0 : 0 < i
        · have b0 : decide (0 < (i : Int)) = true := decide_eq_true (by omega)
          have b0n : decide (0 < i) = true := decide_eq_true h0
          have p2 : 0 ≤ (i : Int) - 1 := by omega
          have p3 : 1 ≤ (i : Int) := by omega
          have q2 : (i : Int) - 1 < (ks.length : Int) := by omega
          have hw2 : IntKind.i64.wrap ((i : Int) - 1) = (i : Int) - 1 := by rw [i64_w]; have := HLk.out; exact wrap64_id (by omega) (by omega)
          have hrs := rising_at HKS.out HAp.out (i - 1) (by omega)
          obtain ⟨ad2, ea2, hx2⟩ := Kd.at_string (Kd.C_below HKC.out HBi.out) ((i : Int) - 1) p2 q2
          cases ea2
          have hrd2 : rdOf ByteArray.empty ks ((i : Int) - 1) = ks[i - 1] := by
            have e : ((i : Int) - 1).toNat = i - 1 := by omega
            simp only [rdOf, e]
            rw [List.getD_eq_getElem?_getD, List.getElem?_eq_getElem (by omega)]; rfl
          rw [hrd2, show ((i : Int) - 1).toNat = i - 1 from by omega] at hx2
          have hi1 : i - 1 + 1 = i := by omega
          obtain ⟨x, hxx⟩ : ∃ x, ks[i] = x := ⟨_, rfl⟩
          obtain ⟨y, hyy⟩ : ∃ y, ks[i - 1] = y := ⟨_, rfl⟩
          have HRs := Aside0.mk (show (Op.bytesLess x.toList y.toList || x.toList == y.toList) = false from by
            rw [← hxx, ← hyy]
            simp only [hi1] at hrs
            exact hrs)
          rw [hxx] at HT hx
          rw [hyy] at hx2
          clear hrs hlt hxx hyy hrd2 hi1
          replace p1 := eq_true p1
          replace q1 := eq_true q1
          replace p2 := eq_true p2
          replace q2 := eq_true q2
          replace p3 := eq_true p3
          go_wp2_with (first | fail)
          refine (HT.out _ (Kd.C_below HOC.out HBi.out)).mono ?_
          rintro e w12 ⟨rfl, ⟨nd, rfl⟩⟩
          replace HBi := mk0 (pw_below_drewN HBi.out nd)
          have hbl := HRs.out
          go_wp2_with (first | fail)
          go_roundg kk
          case measure => omega
          case rel => exact ⟨i + 1, by rw [Hw.out]; rfl, ⟨by have := HN.out; omega⟩, HBi⟩
        · have b0 : decide (0 < (i : Int)) = false := decide_eq_false (by omega)
          have b0n : decide (0 < i) = false := decide_eq_false h0
          obtain ⟨x, hxx⟩ : ∃ x, ks[i] = x := ⟨_, rfl⟩
          rw [hxx] at HT hx
          clear hlt hxx h0
          replace p1 := eq_true p1
          replace q1 := eq_true q1
          go_wp2_with (first | fail)
          refine (HT.out _ (Kd.C_below HOC.out HBi.out)).mono ?_
          rintro e w12 ⟨rfl, ⟨nd, rfl⟩⟩
          replace HBi := mk0 (pw_below_drewN HBi.out nd)
          go_wp2_with (first | fail)
          go_roundg kk
          case measure => omega
          case rel => exact ⟨i + 1, by rw [Hw.out]; rfl, ⟨by have := HN.out; omega⟩, HBi⟩
      · have hge : decide ((i : Int) < (ks.length : Int)) = false := decide_eq_false (by omega)
        have hgen : decide (i < ks.length) = false := decide_eq_false hlt
        clear hlt
        go_wp2_with (first | fail)
        refine (Awake08_any _).mono ?_
        rintro e w13 ⟨rfl, hb⟩
        go_wp2
        go_ret
        exact ⟨rfl, below_step (below_step HB.out HBi.out) hb⟩
end Go.Proofs.YtgmggompdidcoaaDoor.X
