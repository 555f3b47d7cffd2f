import Derived.Test.YtgmggompdidcoaaGreatDoorMPbtensorWrites2
import Derived.Test.YtgmggompdidcoaaGreatDoorMPbtensorWrites18
import Derived.Test.YtgmggompdidcoaaGreatDoorMPbtensorWrites16
import Derived.Test.YtgmggompdidcoaaGreatDoorMPbtensorWrites17
import Derived.Test.YtgmggompdidcoaaGreatDoorMPbtensorWrites3
import Derived.Test.YtgmggompdidcoaaGreatDoorMPbtensorWrites11
import Derived.Test.YtgmggompdidcoaaGreatDoorMPbtensorWrites6
namespace Go.Proofs.YtgmggompdidcoaaGreatDoor.X
open Go.RowKit Go.Proofs.YtgmggompdidcoaaGreatDoorW.PrintWords Go.Proofs.YtgmggompdidcoaaGreatDoorW.PrintLast Go.Proofs.YtgmggompdidcoaaGreatDoorW.PrintMore
attribute [local go_sem] max2_int min2_int max_two min_two max_three min_three max_four min_four
set_option linter.unusedVariables false
set_option linter.unusedSimpArgs false
mutual
def agateref08_Read.j0 : Nat → List (S91) → ByteArray → Int → Int → Bool → Option (ByteArray × Int)
 | 0, _, _, _, _, _ => none
 | k + 1, x0, x1, x2, x3, x20 => if x20 = true then (some ((⟨#[]⟩ : ByteArray), 17)) else (agateref08_Read.l0 k x0 x1 x2 x3 0)
def agateref08_Read.l0 : Nat → List (S91) → ByteArray → Int → Int → Int → Option (ByteArray × Int)
 | 0, _, _, _, _, _ => none
 | k + 1, x0, x1, x2, x3, x10 => if x10 < (x0.length : Int) then (if 0 ≤ x10 then (if ((rd_T91 x0 x10).f0).toList = x1.toList then (if x2 > (((rd_T91 x0 x10).f1).size : Int) then (some ((⟨#[]⟩ : ByteArray), 1)) else (if x3 > (wrap64 ((((rd_T91 x0 x10).f1).size : Int) - x2)) then (some ((⟨#[]⟩ : ByteArray), 1)) else (if 0 ≤ x2 then (if x2 ≤ (wrap64 (x2 + x3)) then (if (wrap64 (x2 + x3)) ≤ (((rd_T91 x0 x10).f1).size : Int) then (some (((rd_T91 x0 x10).f1).extract (x2 : Int).toNat ((wrap64 (x2 + x3)) : Int).toNat, 0)) else (none)) else (none)) else (none)))) else (agateref08_Read.l0 k x0 x1 x2 x3 (wrap64 (x10 + 1)))) else (none)) else (some ((⟨#[]⟩ : ByteArray), 18))
end
end Go.Proofs.YtgmggompdidcoaaGreatDoor.X
namespace Go.Proofs.YtgmggompdidcoaaGreatDoor.X
open Go.RowKit Go.Proofs.YtgmggompdidcoaaGreatDoorW.PrintWords Go.Proofs.YtgmggompdidcoaaGreatDoorW.PrintLast Go.Proofs.YtgmggompdidcoaaGreatDoorW.PrintMore
attribute [local go_sem] max2_int min2_int max_two min_two max_three min_three max_four min_four
set_option linter.unusedVariables false
set_option linter.unusedSimpArgs false
theorem btEx (b : ByteArray) (i j : Nat) (m : Nat) (h : m < j - i) (hj : j ≤ b.size) : bt (b.extract i j) (m : Int) = bt b ((i + m : Nat) : Int) := by
  have h1 : m < (b.extract i j).size := by rw [ByteArray.size_extract, Nat.min_eq_left hj]; exact h
  rw [bt_ns _ _ h1, bt_ns _ _ (show i + m < b.size by omega)]
  have := ns_get (b.extract i j) m h1
  have e2 := ns_get b (i + m) (by omega)
  rw [← this, ← e2]
  have e3 : ns (b.extract i j) = ((ns b).drop i).take (j - i) := ns_extract b i j
  have : (((ns (b.extract i j))[m]'(by rw [ns_length]; exact h1) : Nat) : Int) = ((((ns b).drop i).take (j - i))[m]'(by rw [← e3, ns_length]; exact h1) : Nat) := by
    congr 1
    exact getElem_congr_coll e3
  rw [this, List.getElem_take, List.getElem_drop]
theorem btx (s : ByteArray) (a m : Nat) (h : a + m < s.size) : bt (s.extract a s.size) (m : Int) = bt s ((a + m : Nat) : Int) := btEx s a s.size m (by omega) (Nat.le_refl _)
theorem bt_get (s : ByteArray) (m : Nat) (h : m < s.size) : s.data.toList[m]? = some (s[m]'h) := by
  rw [List.getElem?_eq_getElem (by rw [Array.length_toList]; exact h)]; rfl
theorem bt47 (s : ByteArray) (m : Nat) (h : m < s.size) : bt s (m : Int) = 47 ↔ s.data.toList[m]? = some 47 := by
  rw [bt_get s m h, bt_ns s m h]
  constructor
  · intro e
    have : (s[m]'h).toNat = (47 : UInt8).toNat := by have e' : ((s[m]'h).toNat : Int) = 47 := e; have h2 : (47 : UInt8).toNat = 47 := rfl; omega
    rw [UInt8.toNat_inj.1 this]
  · intro e
    rw [Option.some.inj e]; rfl
theorem slashI_at {t : ByteArray} {q : Nat} (hq : q < t.size) (h1 : bt t (q : Int) = 47) (h2 : ∀ j, j < q → bt t (j : Int) ≠ 47) : slashI t = q := by
  have hge := Lib.indexByte_ge t.data.toList 47
  have hlt := slashI_lt t
  by_cases hn : slashI t = -1
  · exact absurd ((bt47 t q hq).1 h1) (Lib.indexByte_none hn q)
  · have hge' : -1 ≤ slashI t := hge
    obtain ⟨o, ho⟩ : ∃ o : Nat, slashI t = o := ⟨(slashI t).toNat, by omega⟩
    obtain ⟨e1, e2⟩ := Lib.indexByte_some ho
    rw [ho]
    have ho' : o < t.size := by omega
    rcases Nat.lt_trichotomy o q with h | h | h
    · exact absurd ((bt47 t o ho').2 e1) (h2 o h)
    · rw [h]
    · exact absurd ((bt47 t q hq).1 h1) (e2 q h)
theorem slashI_no {t : ByteArray} (h2 : ∀ j, j < t.size → bt t (j : Int) ≠ 47) : slashI t < 0 := by
  have hge : -1 ≤ slashI t := Lib.indexByte_ge t.data.toList 47
  have hlt := slashI_lt t
  by_cases hn : slashI t = -1
  · omega
  · obtain ⟨o, ho⟩ : ∃ o : Nat, slashI t = o := ⟨(slashI t).toNat, by omega⟩
    exact absurd ((bt47 t o (by omega)).2 (Lib.indexByte_some ho).1) (h2 o (by omega))
theorem slashI_past {t : ByteArray} {q : Nat} (h2 : ∀ j, j ≤ q → bt t (j : Int) ≠ 47) (h0 : 0 ≤ slashI t) : (q : Int) < slashI t := by
  have hlt := slashI_lt t
  obtain ⟨o, ho⟩ : ∃ o : Nat, slashI t = o := ⟨(slashI t).toNat, by omega⟩
  rw [ho]
  by_cases h : o ≤ q
  · exact absurd ((bt47 t o (by omega)).2 (Lib.indexByte_some ho).1) (h2 o h)
  · omega
theorem allOk_false {s : ByteArray} {q : Nat} (hq : okb (bt s (q : Int)) = false) : ∀ (d i : Nat), i ≤ q → q < i + d → allOk d s (i : Int) = false
  | 0, i, h1, h2 => by omega
  | d + 1, i, h1, h2 => by
    rw [allOk]
    by_cases e : i = q
    · subst e; rw [hq]; rfl
    · have := allOk_false hq d (i + 1) (by omega) (by omega)
      rw [show ((i : Int) + 1) = ((i + 1 : Nat) : Int) from rfl, this, Bool.and_false]
theorem allOk_true {s : ByteArray} : ∀ (d i : Nat), (∀ j, i ≤ j → j < i + d → okb (bt s (j : Int)) = true) → allOk d s (i : Int) = true
  | 0, i, h => rfl
  | d + 1, i, h => by
    rw [allOk, h i (Nat.le_refl _) (by omega), Bool.true_and]
    exact allOk_true d (i + 1) (fun j h1 h2 => h j (by omega) (by omega))
theorem partB_false {p : ByteArray} {q : Nat} (hq : q < p.size) (h : okb (bt p (q : Int)) = false) : partB p = false := by
  unfold partB
  rw [show (0 : Int) = ((0 : Nat) : Int) from rfl, allOk_false h p.size 0 (Nat.zero_le _) (by omega)]; rfl
theorem partB_all {p : ByteArray} (h : ∀ j, j < p.size → okb (bt p (j : Int)) = true) : partB p = endOk p := by
  unfold partB
  rw [show (0 : Int) = ((0 : Nat) : Int) from rfl, allOk_true p.size 0 (fun j _ h2 => h j (by omega)), Bool.true_and]
theorem extract_extract8 (s : ByteArray) (a q : Nat) (h : a + q ≤ s.size) : (s.extract a s.size).extract 0 q = s.extract a (a + q) := by
  rw [ByteArray.extract_extract]
  congr 1
  omega
theorem pieces_bad {s : ByteArray} {a i : Nat} (hai : a ≤ i) (hi : i < s.size) (hn : ∀ j, a ≤ j → j ≤ i → bt s (j : Int) ≠ 47) (hb : okb (bt s (i : Int)) = false) : (pieces (s.extract a s.size)).all partB = false := by
  have hsz : (s.extract a s.size).size = s.size - a := by rw [ByteArray.size_extract]; omega
  have hb' : okb (bt (s.extract a s.size) ((i - a : Nat) : Int)) = false := by rw [btx s a (i - a) (by omega), show a + (i - a) = i from by omega]; exact hb
  by_cases h : slashI (s.extract a s.size) < 0
  · rw [pieces_last h]
    simp only [List.all_cons, List.all_nil, Bool.and_true]
    exact partB_false (by omega) hb'
  · have hp := slashI_past (t := s.extract a s.size) (q := i - a) (fun j hj => by rw [btx s a j (by omega)]; exact hn (a + j) (by omega) (by omega)) (by omega)
    have hl := slashI_lt (s.extract a s.size)
    rw [pieces_cut (by omega), List.all_cons]
    obtain ⟨o, ho⟩ : ∃ o : Nat, slashI (s.extract a s.size) = o := ⟨(slashI (s.extract a s.size)).toNat, by omega⟩
    rw [ho, Int.toNat_natCast, extract_extract8 s a o (by omega)]
    have hb2 : okb (bt (s.extract a (a + o)) ((i - a : Nat) : Int)) = false := by rw [btEx s a (a + o) (i - a) (by omega) (by omega), show a + (i - a) = i from by omega]; exact hb
    rw [partB_false (q := i - a) (by rw [ByteArray.size_extract]; omega) hb2, Bool.false_and]
theorem pieces_slash {s : ByteArray} {a i : Nat} (hai : a ≤ i) (hi : i < s.size) (hn : ∀ j, a ≤ j → j < i → okb (bt s (j : Int)) = true) (hs : bt s (i : Int) = 47) : (pieces (s.extract a s.size)).all partB = (endOk (s.extract a i) && (pieces (s.extract (i + 1) s.size)).all partB) := by
  have hsz : (s.extract a s.size).size = s.size - a := by rw [ByteArray.size_extract]; omega
  have hq : slashI (s.extract a s.size) = ((i - a : Nat) : Int) := slashI_at (by omega) (by rw [btx s a (i - a) (by omega), show a + (i - a) = i from by omega]; exact hs) (fun j hj => by
    rw [btx s a j (by omega)]
    intro e
    have := hn (a + j) (by omega) (by omega)
    rw [e] at this; cases this)
  rw [pieces_cut (by rw [hq]; omega), List.all_cons, hq, Int.toNat_natCast, extract_extract8 s a (i - a) (by omega), show a + (i - a) = i from by omega]
  have e2 : (s.extract a s.size).extract (i - a + 1) (s.extract a s.size).size = s.extract (i + 1) s.size := by
    rw [ByteArray.extract_extract, hsz]
    congr 1 <;> omega
  rw [e2, partB_all]
  intro j hj
  rw [ByteArray.size_extract] at hj
  rw [btEx s a i j (by omega) (by omega)]
  exact hn (a + j) (by omega) (by omega)
theorem pieces_end {s : ByteArray} {a : Nat} (ha : a ≤ s.size) (hn : ∀ j, a ≤ j → j < s.size → okb (bt s (j : Int)) = true) : (pieces (s.extract a s.size)).all partB = endOk (s.extract a s.size) := by
  have hsz : (s.extract a s.size).size = s.size - a := by rw [ByteArray.size_extract]; omega
  have hl : slashI (s.extract a s.size) < 0 := slashI_no (fun j hj => by
    rw [btx s a j (by omega)]
    intro e
    have := hn (a + j) (by omega) (by omega)
    rw [e] at this; cases this)
  rw [pieces_last hl]
  simp only [List.all_cons, List.all_nil, Bool.and_true]
  exact partB_all (fun j hj => by rw [btx s a j (by omega)]; exact hn (a + j) (by omega) (by omega))
theorem letter_f (c : Int) : agateref08_letter.f c = some (okb c) := by
  unfold agateref08_letter.f
  cases h : okb c with
  | true =>
    have h' := of_decide_eq_true h
    repeat' first | rfl | (refine ite_all (fun _ => ?_) (fun _ => ?_))
    all_goals first | (exfalso; omega) | (congr 1; exact beq_iff_eq.2 (by omega))
  | false =>
    have h' := of_decide_eq_false h
    repeat' first | rfl | (refine ite_all (fun _ => ?_) (fun _ => ?_))
    all_goals first | (exfalso; omega) | (congr 1; exact beq_eq_false_iff_ne.2 (by omega))
theorem endOk_if {α : Type} (p : ByteArray) (x y : α) : (if p.toList = ([] : List UInt8) then x else if p.toList = ([46] : List UInt8) then x else if p.toList = ([46, 46] : List UInt8) then x else y) = if endOk p = true then y else x := by
  unfold endOk
  by_cases h1 : p.toList = []
  · rw [if_pos h1, if_pos h1]; rfl
  · rw [if_neg h1, if_neg h1]
    by_cases h2 : p.toList = [46]
    · rw [if_pos h2, if_pos h2]; rfl
    · rw [if_neg h2, if_neg h2]
      by_cases h3 : p.toList = [46, 46]
      · rw [if_pos h3, h3]; rfl
      · rw [if_neg h3, if_pos (by simpa using h3)]
theorem refKey_l (s : ByteArray) (hs : s.size ≤ 140737488351232) (d : Nat) : ∀ (k a i : Nat), a ≤ i → i + d = s.size → 2 * d + 4 ≤ k → (∀ j, a ≤ j → j < i → okb (bt s (j : Int)) = true) →
    agateref08_Key.l0 k s (a : Int) (i : Int) = some ((pieces (s.extract a s.size)).all partB && decide (s.size ≤ 255)) := by
  induction d with
  | zero =>
    intro k a i hai hi hk hn
    obtain ⟨k, rfl⟩ : ∃ m, k = m + 3 := ⟨k - 3, by omega⟩
    obtain rfl : i = s.size := by omega
    have hw : wrap64 ((s.size : Int) + 1) = (s.size : Int) + 1 := by unfold wrap64; omega
    rw [agateref08_Key.l0, if_pos (by omega), if_neg (by omega), agateref08_Key.j1, if_neg (by simp), if_pos (by omega), if_pos (by omega), if_pos (by omega), endOk_if, hw, Int.toNat_natCast, Int.toNat_natCast, pieces_end (by omega) hn]
    cases he : endOk (s.extract a s.size) with
    | false => rfl
    | true =>
      rw [if_pos rfl, agateref08_Key.l0, if_neg (by omega), Bool.true_and]
      congr 1
      exact decide_eq_decide.2 (by omega)
  | succ d ih =>
    intro k a i hai hi hk hn
    obtain ⟨k, rfl⟩ : ∃ m, k = m + 2 := ⟨k - 2, by omega⟩
    have hw : wrap64 ((i : Int) + 1) = ((i + 1 : Nat) : Int) := by unfold wrap64; omega
    rw [agateref08_Key.l0, if_pos (by omega), if_pos (by omega), if_pos (by omega), agateref08_Key.j1]
    by_cases h47 : bt s (i : Int) = 47
    · rw [if_neg (by rw [h47]; decide), if_pos (by omega), if_pos (by omega), if_pos (by omega), endOk_if, hw, Int.toNat_natCast, Int.toNat_natCast, pieces_slash hai (by omega) hn h47]
      cases he : endOk (s.extract a i) with
      | false => rfl
      | true =>
        rw [if_pos rfl, Bool.true_and]
        exact ih k (i + 1) (i + 1) (Nat.le_refl _) (by omega) (by omega) (fun j h1 h2 => by omega)
    · rw [if_pos (by simpa using h47), if_pos (by omega), if_pos (by omega), letter_f, Option.bind_some]
      cases ho : okb (bt s (i : Int)) with
      | false =>
        rw [if_neg (by simp), pieces_bad hai (by omega) (fun j h1 h2 => ?_) ho]
        · rfl
        · by_cases e : j = i
          · rw [e]; exact h47
          · intro e2
            have := hn j h1 (by omega)
            rw [e2] at this; cases this
      | true =>
        rw [if_pos rfl, hw]
        exact ih k a (i + 1) (by omega) (by omega) (by omega) (fun j h1 h2 => by
          by_cases e : j = i
          · rw [e]; exact ho
          · exact hn j h1 (by omega))
theorem refKey_f (s : ByteArray) (hs : s.size ≤ 140737488351232) (k : Nat) (hk : 2 * s.size + 4 ≤ k) : agateref08_Key.f k s = some (keyB s) := by
  have h := refKey_l s hs s.size k 0 0 (Nat.le_refl _) (by omega) hk (fun j h1 h2 => by omega)
  rw [ByteArray.extract_zero_size] at h
  exact h
def ofL (l : List S50) : List S91 := l.map (fun f => ⟨f.f0, f.f1⟩)
theorem toList_iff (a b : ByteArray) : a.toList = b.toList ↔ a = b := by
  constructor
  · intro h
    rw [ByteArray.toList_eq, ByteArray.toList_eq] at h
    cases a; cases b
    congr 1
    exact Array.toList_inj.1 h
  · rintro rfl; rfl
theorem rd_ofL (l : List S50) (i : Nat) (h : i < l.length) : rd_T91 (ofL l) (i : Int) = ⟨l[i].f0, l[i].f1⟩ := by
  unfold rd_T91 ofL
  rw [Int.toNat_natCast, List.getD_eq_getElem?_getD, List.getElem?_map, List.getElem?_eq_getElem h]; rfl
theorem len_ofL (l : List S50) : (ofL l).length = l.length := List.length_map ..
theorem of_l (l : List S50) (hl : l.length ≤ 4398046510976) (d : Nat) : ∀ (k i : Nat), i + d = l.length → d < k → agatelaw08_Of.l0 k (ofL (l.take i)) l (l.length : Int) (i : Int) = some (ofL l) := by
  induction d with
  | zero =>
    intro k i hi hk
    obtain ⟨k, rfl⟩ : ∃ m, k = m + 1 := ⟨k - 1, by omega⟩
    rw [agatelaw08_Of.l0, if_neg (by omega), List.take_of_length_le (by omega)]
  | succ d ih =>
    intro k i hi hk
    obtain ⟨k, rfl⟩ : ∃ m, k = m + 1 := ⟨k - 1, by omega⟩
    have hw : wrap64 ((i : Int) + 1) = ((i + 1 : Nat) : Int) := by unfold wrap64; omega
    have hr : rd_T50 l (i : Int) = l[i] := by
      unfold rd_T50
      rw [Int.toNat_natCast, List.getD_eq_getElem?_getD, List.getElem?_eq_getElem (by omega)]; rfl
    have hlen : (ofL (l.take i)).length < 4398046511104 := by rw [len_ofL, List.length_take]; omega
    have hn : ofL (l.take i) ++ [(⟨l[i].f0, l[i].f1⟩ : S91)] = ofL (l.take (i + 1)) := by
      unfold ofL
      rw [List.take_succ_eq_append_getElem (by omega), List.map_append]; rfl
    rw [agatelaw08_Of.l0, if_pos (by omega), if_pos (by omega), if_pos (by omega), if_pos hlen, hr, hw, hn]
    exact ih k (i + 1) (by omega) (by omega)
theorem of8_f (l : List S50) (hl : l.length ≤ 4398046510976) : agatelaw08_Of.f (l.length + 1) l = some (ofL l) := of_l l hl l.length (l.length + 1) 0 (by omega) (by omega)
theorem newIn_l (l : List S50) (hl : l.length ≤ 1000) (i : Nat) (hi : i < l.length) (e : Nat) : ∀ (k j : Nat), j + e = i → e + 1 ≤ k →
    agateref08_New.l1 k (ofL l) (i : Int) (j : Int) = if (getL (prs ((l.take i).drop j)) l[i].f0).isSome = true then some 14 else agateref08_New.l0 (k - e - 1) (ofL l) ((i + 1 : Nat) : Int) := by
  induction e with
  | zero =>
    intro k j hj hk
    obtain ⟨k, rfl⟩ : ∃ m, k = m + 1 := ⟨k - 1, by omega⟩
    obtain rfl : j = i := by omega
    have hw : wrap64 ((j : Int) + 1) = ((j + 1 : Nat) : Int) := by unfold wrap64; omega
    rw [agateref08_New.l1, if_neg (by omega), hw, List.drop_of_length_le (by rw [List.length_take]; omega)]
    rfl
  | succ e ih =>
    intro k j hj hk
    obtain ⟨k, rfl⟩ : ∃ m, k = m + 1 := ⟨k - 1, by omega⟩
    have hw : wrap64 ((j : Int) + 1) = ((j + 1 : Nat) : Int) := by unfold wrap64; omega
    have hd : (l.take i).drop j = l[j] :: (l.take i).drop (j + 1) := by
      rw [List.drop_eq_getElem_cons (by rw [List.length_take]; omega)]
      congr 1
      exact List.getElem_take
    rw [agateref08_New.l1, if_pos (by omega), if_pos (by omega), if_pos (by rw [len_ofL]; omega), if_pos (by omega), if_pos (by rw [len_ofL]; omega), rd_ofL l j (by omega), rd_ofL l i hi, hw, hd]
    show (if l[j].f0.toList = l[i].f0.toList then _ else _) = (if (getL ((l[j].f0, l[j].f1) :: prs ((l.take i).drop (j + 1))) l[i].f0).isSome = true then _ else _)
    rw [getL]
    by_cases hx : l[j].f0 = l[i].f0
    · have hb : (l[i].f0 == l[j].f0) = true := (MapKept.bytes_beq _ _).2 hx.symm
      rw [if_pos ((toList_iff _ _).2 hx), if_pos hb]; rfl
    · have hb : ¬ (l[i].f0 == l[j].f0) = true := fun h => hx ((MapKept.bytes_beq _ _).1 h).symm
      rw [if_neg (fun h => hx ((toList_iff _ _).1 h)), if_neg hb, ih k (j + 1) (by omega) (by omega), show k + 1 - (e + 1) - 1 = k - e - 1 from by omega]
theorem newOut_l (l : List S50) (hl : l.length ≤ 1000) (c : Nat) (hc : 1 ≤ c) (hs : ∀ f ∈ l, 2 * f.f0.size + 4 ≤ c ∧ f.f0.size ≤ 140737488351232) (d : Nat) : ∀ (k i : Nat), i + d = l.length → d * 1002 + c ≤ k →
    agateref08_New.l0 k (ofL l) (i : Int) = some (newR (prs (l.take i)) (l.drop i)) := by
  induction d with
  | zero =>
    intro k i hi hk
    obtain ⟨k, rfl⟩ : ∃ m, k = m + 1 := ⟨k - 1, by omega⟩
    rw [agateref08_New.l0, if_neg (by rw [len_ofL]; omega), List.drop_of_length_le (by omega)]
    rfl
  | succ d ih =>
    intro k i hi hk
    obtain ⟨k, rfl⟩ : ∃ m, k = m + 1 := ⟨k - 1, by omega⟩
    have hil : i < l.length := by omega
    have hd : l.drop i = l[i] :: l.drop (i + 1) := List.drop_eq_getElem_cons hil
    have hk1 := hs l[i] (List.getElem_mem hil)
    have hk0 : d * 1002 + 1002 + c ≤ k + 1 := by rw [← Nat.succ_mul]; exact hk
    have hk2 : d * 1002 + c ≤ k - i - 1 := by
      have h1000 : i + 2 ≤ 1002 := by clear ih hd hk1 hs hk hk0; omega
      clear ih hd hk1 hs hk hi hl hil
      generalize d * 1002 = D at hk0 ⊢
      generalize 1002 = E at hk0 h1000
      omega
    have hi2 : i + 1 + d = l.length := by omega
    have hk3 : 2 * l[i].f0.size + 4 ≤ k := by have := hk1.1; clear ih hd hs hk hk2; omega
    have hk4 : i + 1 ≤ k := by clear ih hd hs hk hk2 hk3; omega
    clear hk hk0
    rw [agateref08_New.l0, if_pos (by rw [len_ofL]; omega), if_pos (by omega), rd_ofL l i hil, refKey_f _ hk1.2 k hk3, Option.bind_some, hd, newR]
    cases hb : keyB l[i].f0 with
    | false =>
      rw [if_neg (by simp), if_neg (by simp)]
    | true =>
      rw [if_pos rfl, if_pos rfl]
      have h := newIn_l l hl i hil i k 0 (Nat.zero_add _) hk4
      rw [List.drop_zero] at h
      rw [show (0 : Int) = ((0 : Nat) : Int) from rfl, h]
      cases hg : (getL (prs (l.take i)) l[i].f0).isSome with
      | true => rfl
      | false =>
        rw [if_neg (by simp), if_neg (by simp), ih (k - i - 1) (i + 1) hi2 hk2, prs_snoc l i hil]
theorem refNew_f (l : List S50) (hl : l.length ≤ 1000) (hs : ∀ f ∈ l, f.f0.size ≤ 10000) (k : Nat) (hk : 1100000 ≤ k) : agateref08_New.f k (ofL l) = some (newC l) := by
  unfold agateref08_New.f newC
  by_cases h : l.length > 64
  · rw [if_pos h, if_pos (by rw [len_ofL]; omega)]
  · rw [if_neg h, if_neg (by rw [len_ofL]; omega)]
    have h3 : l.length * 1002 + 20004 ≤ k := by omega
    have h4 := newOut_l l hl 20004 (by omega) (fun f hf => by have := hs f hf; omega) l.length k 0 (Nat.zero_add _) h3
    rw [List.drop_zero] at h4
    exact h4
def LaidPost (l : List S50) (w : World) (e : Ending) (w' : World) : Prop :=
  ∃ (m : Option Nat) (A : Option Addr) (n c : Nat) (ok : Bool), e = .returned (.tuple #[.agg #[.map m], .slice A n c, .bool ok]) ∧ Below w.heap.size w w' ∧
    (ok = true → newC l = 0 ∧ sumF l ≤ 10000 ∧ l.length ≤ 64 ∧ StrMap w' m (prs l) ∧ n = (ofL l).length ∧ n ≤ c ∧ Kd.C k91 w' A (ofL l).length (ofL l))
structure LdR (w w' : World) (gr gs : Nat) (m : Option Nat) (A : Option Addr) (l : List S50) (L : List (ByteArray × ByteArray)) : Prop where
  b : Below w.heap.size w w'
  s : w'.heap[gs]? = some (.cells #[.map m] 25 (0, 0))
  ne : gs ≠ gr
  g : w.heap.size ≤ gr
  gl : gr < w'.heap.size
  sm : StrMap w' m L
  l0 : Kd.C k50 w A l.length l
theorem LdR.l {w w' : World} {gr gs : Nat} {m : Option Nat} {A : Option Addr} {l : List S50} {L : List (ByteArray × ByteArray)} (h : LdR w w' gr gs m A l L) : Kd.C k50 w' A l.length l := Kd.C_below h.l0 h.b
theorem LdR.step {w w' V : World} {gr gs : Nat} {m : Option Nat} {A : Option Addr} {l : List S50} {L : List (ByteArray × ByteArray)} (h : LdR w w' gr gs m A l L) (hB : Below w'.heap.size w' V) : LdR w V gr gs m A l L :=
  ⟨below_step h.b hB, blk_below h.s hB, h.ne, h.g, Nat.lt_of_lt_of_le h.gl hB.size, h.sm.kept hB, h.l0⟩
theorem newC_few {l : List S50} (h : newC l = 0) : l.length ≤ 64 := by
  unfold newC at h
  by_cases c : l.length > 64
  · rw [if_pos c] at h; exact absurd h (by decide)
  · omega
theorem LdR.put {w w' : World} {gr gs : Nat} {m : Option Nat} {A : Option Addr} {l : List S50} {L : List (ByteArray × ByteArray)} (h : LdR w w' gr gs m A l L) {cs : Array Value} {t : Nat} (hg : w'.heap[gr]? = some (.cells cs t (0, 0))) : LdR w (w'.setCell ⟨gr, 0, none⟩ (.map m)) gr gs m A l L :=
  ⟨below_set h.b h.g, blk_far h.s h.ne _, h.ne, h.g, blk_lt (blk_set hg 0 (.map m)), h.sm.set hg _, h.l0⟩
def laid9.T10 : Bool × List (List Nat × List Nat) := (true, [([], []), ([], []), ([1], [1]), ([], []), ([3], [3]), ([4, 2], [4]), ([5], [5]), ([6, 5, 5], [5, 6]), ([7, 7, 5], [5, 7]), ([8, 5], [5, 8]), ([5, 9], [5, 9]), ([0, 8, 0], [0]), ([2, 11, 0, 1, 2, 11], [2]), ([10, 12, 0, 1, 2, 3, 4, 5, 6, 7, 8, 9, 10, 11, 12], [10])])
def laid9.B10 : List Nat := [0, 0, 2, 0, 8, 30, 62, 126, 254, 510, 1022, 511, 2559, 8191]
theorem laid9.tab10 : rtab .any (opsOf Tryz.f5 10) = laid9.T10 := by kernel_rfl
theorem laid9.bits10 : waitsOk laid9.T10.2 laid9.B10 = true := by kernel_rfl
set_option maxHeartbeats 4000000 in
set_option maxRecDepth 100000 in
theorem Laid_any (A : Option Addr) (c : Nat) (l : List S50) (w : World) (hr : Kd.C k50 w A l.length l) (hc : l.length ≤ c) (hl : l.length ≤ 4398046510976) (hs : ∀ f ∈ l, f.f0.size ≤ 140737488351232 ∧ f.f1.size ≤ 140737488351232) :
    Calls Tryz.prog 5 #[.slice A l.length c] w (LaidPost l w) := by
  have hu := Tryz.underlying25
  have hu2 := Tryz.underlying50
  have HR := Aside0.mk hr
  have HLc := Aside0.mk hc
  have HL := Aside0.mk hl
  have HSz := Aside0.mk hs
  have HB := Aside0.mk (Below.refl w.heap.size w)
  clear hr hc hs hl
  go_enter Tryz.func5, Tryz.ntmps5
  go_wp2_with (first | ((with_reducible refine gate_dst (N := 2) rfl ?_); refine boxE (N := 2) (cs := #[.map none]) (t := 25) ?_; intro gr hg w1 hbox hb; have BR := mk0 hbox; have GR := gwS HB hg; replace HB := hbS HB hb; clear hb hbox hg))
  go_loopg [5, 7, 12] l.length (fun kq v5 v7 v12 w' => ∃ i : Nat, v12 = .int .i64 i ∧ v5 = .int .i64 ((sumF (l.take i) : Nat) : Int) ∧ Aside0 (i + kq = l.length) ∧ Aside0 (sumF (l.take i) ≤ 10000) ∧ Aside0 (Below w.heap.size w w') ∧ Aside0 (w'.heap[gr]? = some (.cells #[.map none] 25 (0, 0))))
  case atStart => exact ⟨0, rfl, rfl, ⟨by omega⟩, ⟨Nat.zero_le _⟩, HB, BR⟩
  case round =>
  clear HB BR
  obtain ⟨i, rfl, rfl, HN, HS, HB, BR⟩ := hrel
  by_cases hlt : i < l.length
  · have hlt' : decide ((i : Int) < (l.length : Int)) = true := decide_eq_true (by omega)
    obtain ⟨kk, rfl⟩ : ∃ m, gk = m + 1 := ⟨gk - 1, by have := HN.out; omega⟩
    have p101 : 0 ≤ (i : Int) := Int.natCast_nonneg i
    have q101 : (i : Int) < (l.length : Int) := by omega
    obtain ⟨ad101, e101, hx101_0, hx101_1⟩ := at_T50 (Kd.C_below HR.out HB.out) (i : Int) p101 q101
    cases e101
    rw [Int.toNat_natCast] at hx101_0 hx101_1
    have hrd : rd_T50 l (i : Int) = l[i] := by simp [rd_T50, hlt]
    rw [hrd] at hx101_0 hx101_1
    have HSn := Aside0.mk (sumF_snoc l i hlt)
    have HZ := Aside0.mk (HSz.out l[i] (List.getElem_mem hlt))
    clear hrd
    generalize l[i] = x at hx101_0 hx101_1 HSn HZ
    obtain ⟨x0, x1⟩ := x
    have hz0 : x0.size ≤ 9223372036854775807 := by have := HZ.out.1; dsimp only at this; omega
    have hz1 : x1.size ≤ 9223372036854775807 := by have := HZ.out.2; dsimp only at this; omega
    have HI := Aside0.mk hlt
    have Hw : Aside0 (wrap64 ((i : Int) + 1) = (i : Int) + 1) := ⟨by have := HL.out; exact wrap64_id (by omega) (by omega)⟩
    obtain ⟨S, hS⟩ : ∃ S : Nat, sumF (l.take i) = S := ⟨_, rfl⟩
    rw [hS] at HSn HS ⊢
    have hw1 : IntKind.i64.wrap ((x0.size : Int) + (x1.size : Int)) = (x0.size : Int) + (x1.size : Int) := by rw [i64_w]; have := HZ.out; dsimp only at this; exact wrap64_id (by omega) (by omega)
    have hw2 : IntKind.i64.wrap ((S : Int) + ((x0.size : Int) + (x1.size : Int))) = (S : Int) + ((x0.size : Int) + (x1.size : Int)) := by rw [i64_w]; have h1 := HZ.out; have := HS.out; dsimp only at h1; exact wrap64_id (by omega) (by omega)
    clear hlt hS
    replace p101 := eq_true p101
    replace q101 := eq_true q101
    by_cases hg : S + (x0.size + x1.size) > 10000
    · have hg' : decide (10000 < (S : Int) + ((x0.size : Int) + (x1.size : Int))) = true := decide_eq_true (by omega)
      clear hg
      have NB : True := trivial
      go_wp2_with (first | ((with_reducible refine gate_dst (N := 7) rfl ?_); refine boxE (N := 7) (cs := #[.string (⟨#[]⟩ : ByteArray), .string (⟨#[]⟩ : ByteArray)]) (t := 50) ?_; intro gb hg w6 hbox hb; have BK := mk0 hbox; have GW := gwS HB hg; have NRK := neS BR hg; replace BR := bkS BR hb; replace HB := hbS HB hb; clear hb hbox hg; obtain ⟨hc60, hc61⟩ := cz2 BK; have hf60 := fz BK 0; have hf61 := fz BK 1; have hr0 := cz1 BR; have fr0 := fz BR 0; have n1 := NRK.out; have n2 := Ne.symm NRK.out))
      refine bodyPost_ret (results_ctt rfl _ _ gr 25 #[.map none] (0, 0) _ rfl (bkW BR) hu rfl (by kernel_rfl)) rfl ?_
      exact ⟨none, none, 0, 0, false, rfl, below_set (below_set (below_set HB.out GW.out) GW.out) GR.out, fun h => by cases h⟩
    · have hg' : decide (10000 < (S : Int) + ((x0.size : Int) + (x1.size : Int))) = false := decide_eq_false (by omega)
      have HG := Aside0.mk hg
      clear hg
      go_wp2_with (first | ((with_reducible refine gate_dst (N := 7) rfl ?_); refine boxE (N := 7) (cs := #[.string (⟨#[]⟩ : ByteArray), .string (⟨#[]⟩ : ByteArray)]) (t := 50) ?_; intro gb hg w6 hbox hb; have BK := mk0 hbox; have GW := gwS HB hg; have NRK := neS BR hg; replace BR := bkS BR hb; replace HB := hbS HB hb; clear hb hbox hg; obtain ⟨hc60, hc61⟩ := cz2 BK; have hf60 := fz BK 0; have hf61 := fz BK 1))
      go_roundg kk
      case measure => omega
      case rel => exact ⟨i + 1, by rw [Hw.out]; rfl, by rw [HSn.out]; rfl, ⟨by have := HN.out; omega⟩, ⟨by rw [HSn.out]; have := HG.out; omega⟩, ⟨below_set (below_set HB.out GW.out) GW.out⟩, ⟨bkW BR⟩⟩
  · have hge : decide ((i : Int) < (l.length : Int)) = false := decide_eq_false (by omega)
    have hi : i = l.length := by
      have := HN.out
      omega
    subst hi
    rw [List.take_length] at HS ⊢
    clear hlt HN
    go_wp2_with (first | fail)
    refine (New_any A c l _ (Kd.C_below HR.out HB.out) HLc.out (fun f hf => by have := (HSz.out f hf).1; omega)).mono ?_
    rintro e w2 ⟨m, rfl, hM, hb⟩
    replace BR := bkS BR hb
    replace HB := hbS HB hb
    have HM := mk0 hM
    clear hb hM
    obtain ⟨C, hC⟩ : ∃ C, newC l = C := ⟨_, rfl⟩
    have HCe := Aside0.mk hC
    rw [hC] at HM ⊢
    clear hC
    by_cases hC0 : C = 0
    · subst hC0
      have HF := Aside0.mk (newC_few HCe.out)
      have HNf := Aside0.mk (show agateref08_New.f 1100000 (ofL l) = some 0 from by rw [refNew_f l (by have := HF.out; omega) (fun f hf => by have h1 := sumF_mem hf; have h2 := HS.out; omega) 1100000 (Nat.le_refl _), HCe.out])
      rw [if_pos rfl] at HM
      go_wp2_with (first | ((with_reducible refine gate_dst (N := 8) rfl ?_); refine boxE (N := 8) (cs := #[.map none]) (t := 25) ?_; intro gs hg w3a hbox hb; have BS := mk0 hbox; have GS := gwS HB hg; have NRS := neS BR hg; have NSR := neT BR hg; replace BR := bkS BR hb; replace HM := mk0 (HM.out.kept hb); replace HB := hbS HB hb; clear hb hbox hg; have hs0 := cz1 BS; have fs0 := fz BS 0))
      obtain ⟨w3, hw⟩ : ∃ wb, wb = w3a.setCell ⟨gs, 0, none⟩ (.map m) := ⟨_, rfl⟩
      rw [← hw]
      replace BR := mk0 (show w3.drew.heap[gr]? = some _ from by rw [hw]; exact blk_drew (bkW BR))
      have hrl := blk_lt BR.out
      rw [hw] at hrl
      have HLd := mk0 (show LdR w w3.drew gr gs m A l (prs l) from by rw [hw]; exact ⟨below_drew1 (below_set HB.out GS.out), blk_drew (bkW BS), NSR.out, GR.out, hrl, HM.out.set BS.out _, HR.out⟩)
      have HOf := Aside0.mk (of8_f l (by have := HL.out; omega))
      clear hw HM HB hs0 fs0 BS GS NRS NSR
      refine start_ (n := 14) (S := fun w' => True) (ds := []) #[false, false, false, false, false, false, false, false, false, false, false, false, false, false] (by kernel_rfl) rfl rfl trivial (fun hHeld => ?_)
      refine with_tabW laid9.tab10 laid9.bits10 (fun HT_ HW_ => ?_)
      generalize w3.drew = wd at HLd BR hHeld ⊢
      refine inv_at [0, 1, 2, 3, 4, 5, 6, 7, 8, 9, 10, 11, 12, 13] (fun a0_ b a w' => ∃ (p1 : Option Addr) (q1 : Nat) (p7 : Option Addr) (q7 : Nat) (m2_ : Value) (m7_ : Value) (m12_ : Value), a = putSel a0_ b [(0, 34, .agg #[.map m]), (1, 35, .slice A l.length c), (2, 36, m2_), (3, 37, .int .i64 0), (4, 38, .bool true), (5, 39, .bool true), (6, 40, .slice A l.length c), (7, 41, m7_), (8, 42, .int .i64 0), (9, 43, .bool true), (10, 44, .bool true), (12, 3, m12_), (13, 4, .bool true)] ∧ (LdR w w' gr gs m A l (prs l)) ∧ (b 11 = false → w'.heap[gr]? = some (.cells #[.map none] 25 (0, 0))) ∧ (b 11 = true → w'.heap[gr]? = some (.cells #[.map m] 25 (0, 0))) ∧ (b 2 = true → (ofL l).length ≤ q1 ∧ Kd.F k91 w' (fun k => k ≠ gr) p1 (ofL l).length (ofL l)) ∧ (b 7 = true → (ofL l).length ≤ q7 ∧ Kd.F k91 w' (fun k => k ≠ gr) p7 (ofL l).length (ofL l)) ∧ (b 2 = true → (m2_ : Value) = .slice p1 (ofL l).length q1) ∧ (b 7 = true → (m7_ : Value) = .slice p7 (ofL l).length q7) ∧ (b 12 = true → (m12_ : Value) = .slice p1 (ofL l).length q1)) HT_.out HW_.out (by kernel_rfl) (by kernel_rfl) ?_ ?_ ?_
      · exact ⟨none, 0, none, 0, .bool false, .bool false, .bool false, by simp only [putSel, Bool.false_eq_true, if_false], HLd.out, fun _ => BR.out, fun h_ => absurd h_ (by decide), fun h_ => absurd h_ (by decide), fun h_ => absurd h_ (by decide), fun h_ => absurd h_ (by decide), fun h_ => absurd h_ (by decide), fun h_ => absurd h_ (by decide)⟩
      · skip
        skip
        refine steps_cons ?_ ?_
        · rintro b a w' ⟨p1, q1, p7, q7, m2_, m7_, m12_, ha, Q_R, Q_G0, Q_G1, Q_O, Q_P, Q_X2_, Q_X7_, Q_X12_⟩ hb_ hon hoff
          refine ⟨_, rfl, fun K hK => ?_⟩
          have e8 : a.tmps[8]? = some (.pointer (some ⟨gs, 0, none⟩)) := by rw [ha]; exact (putSel_off rfl).trans rfl
          replace ha := Aside0.mk ha
          have R := Aside0.mk Q_R
          have G0 := Aside0.mk (Q_G0 (hoff 11 (by kernel_rfl)))
          have s0_ : w'.cell? ⟨gs, 0, none⟩ = some (.map m) := blk_cell R.out.s 0
          refine value_ (w1 := w') (v := .agg #[.map m]) (by rfl) rfl ?_ ?_
          · go_simp
            (try simp only [i64_w])
            try rfl
          refine hK.out _ _ ⟨p1, q1, p7, q7, m2_, m7_, m12_, (by rw [ha.out]; exact putSel_upk 0 hb_ rfl rfl rfl), Q_R, Q_G0, fun h0_ => absurd ((hoff 11 (by kernel_rfl)).symm.trans h0_) (by decide), Q_O, Q_P, Q_X2_, Q_X7_, fun h0_ => absurd ((hoff 12 (by kernel_rfl)).symm.trans h0_) (by decide)⟩
        refine steps_cons ?_ ?_
        · rintro b a w' ⟨p1, q1, p7, q7, m2_, m7_, m12_, ha, Q_R, Q_G0, Q_G1, Q_O, Q_P, Q_X2_, Q_X7_, Q_X12_⟩ hb_ hon hoff
          refine ⟨_, rfl, fun K hK => ?_⟩
          have e0 : a.tmps[0]? = some (.slice A l.length c) := by rw [ha]; exact (putSel_off rfl).trans rfl
          replace ha := Aside0.mk ha
          have R := Aside0.mk Q_R
          have G0 := Aside0.mk (Q_G0 (hoff 11 (by kernel_rfl)))
          refine value_ (w1 := w') (v := .slice A l.length c) (by rfl) rfl ?_ ?_
          · go_simp
            (try simp only [i64_w])
            try rfl
          refine hK.out _ _ ⟨p1, q1, p7, q7, m2_, m7_, m12_, (by rw [ha.out]; exact putSel_upk 1 hb_ rfl rfl rfl), Q_R, Q_G0, fun h0_ => absurd ((hoff 11 (by kernel_rfl)).symm.trans h0_) (by decide), fun h0_ => absurd ((hoff 2 (by kernel_rfl)).symm.trans h0_) (by decide), fun h0_ => absurd ((hoff 7 (by kernel_rfl)).symm.trans h0_) (by decide), fun h0_ => absurd ((hoff 2 (by kernel_rfl)).symm.trans h0_) (by decide), fun h0_ => absurd ((hoff 7 (by kernel_rfl)).symm.trans h0_) (by decide), fun h0_ => absurd ((hoff 12 (by kernel_rfl)).symm.trans h0_) (by decide)⟩
        refine steps_cons ?_ ?_
        · rintro b a w' ⟨p1, q1, p7, q7, m2_, m7_, m12_, ha, Q_R, Q_G0, Q_G1, Q_O, Q_P, Q_X2_, Q_X7_, Q_X12_⟩ hb_ hon hoff
          refine ⟨_, rfl, fun K hK => ?_⟩
          have e35 : a.tmps[35]? = some (.slice A l.length c) := by rw [ha]; exact putSel_on (e := (1, 35, .slice A l.length c)) 1 rfl rfl (hon 1 (by kernel_rfl)) rfl
          replace ha := Aside0.mk ha
          have R := Aside0.mk Q_R
          have G0 := Aside0.mk (Q_G0 (hoff 11 (by kernel_rfl)))
          refine call_ 15 #[.slice A l.length c] (by rfl) rfl (by go_simp; try rfl) ?_
          refine (agatelaw08_Of.calls (l.length + 1) A c l (ofL l) w' R.out.l HLc.out HOf.out).mono ?_
          rintro e w1 ⟨v0, rfl, hO, hB⟩
          obtain ⟨r1, s1, rfl⟩ := Kd.R_slice hO
          refine ⟨_, rfl, ?_⟩
          refine hK.out _ _ ⟨r1, s1, p7, q7, (.slice r1 (ofL l).length s1), m7_, m12_, (by rw [ha.out]; exact putSel_upk 2 hb_ rfl rfl rfl), R.out.step hB, fun _ => blk_below G0.out hB, fun h0_ => absurd ((hoff 11 (by kernel_rfl)).symm.trans h0_) (by decide), fun _ => ⟨(Kd.R_reads' hO).2.1, Kd.R_F (Kd.R_mono (Kd.R_bound hO) (fun k hk => by have := R.out.gl; have := hk.2.1; omega))⟩, fun h0_ => absurd ((hoff 7 (by kernel_rfl)).symm.trans h0_) (by decide), fun _ => rfl, fun h0_ => absurd ((hoff 7 (by kernel_rfl)).symm.trans h0_) (by decide), fun h0_ => absurd ((hoff 12 (by kernel_rfl)).symm.trans h0_) (by decide)⟩
        refine steps_cons ?_ ?_
        · rintro b a w' ⟨p1, q1, p7, q7, m2_, m7_, m12_, ha, Q_R, Q_G0, Q_G1, Q_O, Q_P, Q_X2_, Q_X7_, Q_X12_⟩ hb_ hon hoff
          refine ⟨_, rfl, fun K hK => ?_⟩
          have e9 : a.tmps[9]? = some (.int .i64 0) := by rw [ha]; exact (putSel_off rfl).trans rfl
          replace ha := Aside0.mk ha
          have R := Aside0.mk Q_R
          have G0 := Aside0.mk (Q_G0 (hoff 11 (by kernel_rfl)))
          refine value_ (w1 := w') (v := .int .i64 0) (by rfl) rfl ?_ ?_
          · go_simp
            (try simp only [i64_w])
            try rfl
          refine hK.out _ _ ⟨p1, q1, p7, q7, m2_, m7_, m12_, (by rw [ha.out]; exact putSel_upk 3 hb_ rfl rfl rfl), Q_R, Q_G0, fun h0_ => absurd ((hoff 11 (by kernel_rfl)).symm.trans h0_) (by decide), Q_O, fun h0_ => absurd ((hoff 7 (by kernel_rfl)).symm.trans h0_) (by decide), Q_X2_, fun h0_ => absurd ((hoff 7 (by kernel_rfl)).symm.trans h0_) (by decide), fun h0_ => absurd ((hoff 12 (by kernel_rfl)).symm.trans h0_) (by decide)⟩
        refine steps_cons ?_ ?_
        · rintro b a w' ⟨p1, q1, p7, q7, m2_, m7_, m12_, ha, Q_R, Q_G0, Q_G1, Q_O, Q_P, Q_X2_, Q_X7_, Q_X12_⟩ hb_ hon hoff
          refine ⟨_, rfl, fun K hK => ?_⟩
          have e37 : a.tmps[37]? = some (.int .i64 0) := by rw [ha]; exact putSel_on (e := (3, 37, .int .i64 0)) 3 rfl rfl (hon 3 (by kernel_rfl)) rfl
          replace ha := Aside0.mk ha
          have R := Aside0.mk Q_R
          have G0 := Aside0.mk (Q_G0 (hoff 11 (by kernel_rfl)))
          refine value_ (w1 := w') (v := .bool true) (by rfl) rfl ?_ ?_
          · go_simp
            (try simp only [i64_w])
            try rfl
          refine hK.out _ _ ⟨p1, q1, p7, q7, m2_, m7_, m12_, (by rw [ha.out]; exact putSel_upk 4 hb_ rfl rfl rfl), Q_R, Q_G0, fun h0_ => absurd ((hoff 11 (by kernel_rfl)).symm.trans h0_) (by decide), Q_O, fun h0_ => absurd ((hoff 7 (by kernel_rfl)).symm.trans h0_) (by decide), Q_X2_, fun h0_ => absurd ((hoff 7 (by kernel_rfl)).symm.trans h0_) (by decide), fun h0_ => absurd ((hoff 12 (by kernel_rfl)).symm.trans h0_) (by decide)⟩
        refine steps_cons ?_ ?_
        · rintro b a w' ⟨p1, q1, p7, q7, m2_, m7_, m12_, ha, Q_R, Q_G0, Q_G1, Q_O, Q_P, Q_X2_, Q_X7_, Q_X12_⟩ hb_ hon hoff
          refine ⟨_, rfl, fun K hK => ?_⟩
          have e38 : a.tmps[38]? = some (.bool true) := by rw [ha]; exact putSel_on (e := (4, 38, .bool true)) 4 rfl rfl (hon 4 (by kernel_rfl)) rfl
          replace ha := Aside0.mk ha
          have R := Aside0.mk Q_R
          have G0 := Aside0.mk (Q_G0 (hoff 11 (by kernel_rfl)))
          have O := Aside0.mk (Q_O (hon 2 (by kernel_rfl)))
          refine value_ (w1 := w') (v := .bool true) (by rfl) rfl ?_ ?_
          · go_simp
            (try simp only [i64_w])
            try rfl
          refine hK.out _ _ ⟨p1, q1, p7, q7, m2_, m7_, m12_, (by rw [ha.out]; exact putSel_upk 5 hb_ rfl rfl rfl), Q_R, Q_G0, fun h0_ => absurd ((hoff 11 (by kernel_rfl)).symm.trans h0_) (by decide), Q_O, fun h0_ => absurd ((hoff 7 (by kernel_rfl)).symm.trans h0_) (by decide), Q_X2_, fun h0_ => absurd ((hoff 7 (by kernel_rfl)).symm.trans h0_) (by decide), fun h0_ => absurd ((hoff 12 (by kernel_rfl)).symm.trans h0_) (by decide)⟩
        refine steps_cons ?_ ?_
        · rintro b a w' ⟨p1, q1, p7, q7, m2_, m7_, m12_, ha, Q_R, Q_G0, Q_G1, Q_O, Q_P, Q_X2_, Q_X7_, Q_X12_⟩ hb_ hon hoff
          refine ⟨_, rfl, fun K hK => ?_⟩
          have e0 : a.tmps[0]? = some (.slice A l.length c) := by rw [ha]; exact (putSel_off rfl).trans rfl
          have e39 : a.tmps[39]? = some (.bool true) := by rw [ha]; exact putSel_on (e := (5, 39, .bool true)) 5 rfl rfl (hon 5 (by kernel_rfl)) rfl
          replace ha := Aside0.mk ha
          have R := Aside0.mk Q_R
          have G0 := Aside0.mk (Q_G0 (hoff 11 (by kernel_rfl)))
          have O := Aside0.mk (Q_O (hon 2 (by kernel_rfl)))
          refine value_ (w1 := w') (v := .slice A l.length c) (wanted_on rfl rfl rfl (e39.trans (by first | rfl | (simp [*]; done)))) rfl ?_ ?_
          · go_simp
            (try simp only [i64_w])
            try rfl
          refine hK.out _ _ ⟨p1, q1, p7, q7, m2_, m7_, m12_, (by rw [ha.out]; exact putSel_upk 6 hb_ rfl rfl rfl), Q_R, Q_G0, fun h0_ => absurd ((hoff 11 (by kernel_rfl)).symm.trans h0_) (by decide), Q_O, fun h0_ => absurd ((hoff 7 (by kernel_rfl)).symm.trans h0_) (by decide), Q_X2_, fun h0_ => absurd ((hoff 7 (by kernel_rfl)).symm.trans h0_) (by decide), fun h0_ => absurd ((hoff 12 (by kernel_rfl)).symm.trans h0_) (by decide)⟩
        refine steps_cons ?_ ?_
        · rintro b a w' ⟨p1, q1, p7, q7, m2_, m7_, m12_, ha, Q_R, Q_G0, Q_G1, Q_O, Q_P, Q_X2_, Q_X7_, Q_X12_⟩ hb_ hon hoff
          refine ⟨_, rfl, fun K hK => ?_⟩
          have e40 : a.tmps[40]? = some (.slice A l.length c) := by rw [ha]; exact putSel_on (e := (6, 40, .slice A l.length c)) 6 rfl rfl (hon 6 (by kernel_rfl)) rfl
          have e39 : a.tmps[39]? = some (.bool true) := by rw [ha]; exact putSel_on (e := (5, 39, .bool true)) 5 rfl rfl (hon 5 (by kernel_rfl)) rfl
          replace ha := Aside0.mk ha
          have R := Aside0.mk Q_R
          have G0 := Aside0.mk (Q_G0 (hoff 11 (by kernel_rfl)))
          have O := Aside0.mk (Q_O (hon 2 (by kernel_rfl)))
          refine call_ 15 #[.slice A l.length c] (wanted_on rfl rfl rfl (e39.trans rfl)) rfl (by go_simp; try rfl) ?_
          refine (agatelaw08_Of.calls (l.length + 1) A c l (ofL l) w' R.out.l HLc.out HOf.out).mono ?_
          rintro e w1 ⟨v0, rfl, hO, hB⟩
          obtain ⟨r1, s1, rfl⟩ := Kd.R_slice hO
          refine ⟨_, rfl, ?_⟩
          refine hK.out _ _ ⟨p1, q1, r1, s1, m2_, (.slice r1 (ofL l).length s1), m12_, (by rw [ha.out]; exact putSel_upk 7 hb_ rfl rfl rfl), R.out.step hB, fun _ => blk_below G0.out hB, fun h0_ => absurd ((hoff 11 (by kernel_rfl)).symm.trans h0_) (by decide), fun _ => ⟨O.out.1, F_below O.out.2 hB⟩, fun _ => ⟨(Kd.R_reads' hO).2.1, Kd.R_F (Kd.R_mono (Kd.R_bound hO) (fun k hk => by have := R.out.gl; have := hk.2.1; omega))⟩, Q_X2_, fun _ => rfl, fun h0_ => absurd ((hoff 12 (by kernel_rfl)).symm.trans h0_) (by decide)⟩
        refine steps_cons ?_ ?_
        · rintro b a w' ⟨p1, q1, p7, q7, m2_, m7_, m12_, ha, Q_R, Q_G0, Q_G1, Q_O, Q_P, Q_X2_, Q_X7_, Q_X12_⟩ hb_ hon hoff
          refine ⟨_, rfl, fun K hK => ?_⟩
          have e41 : a.tmps[41]? = some (m7_) := by rw [ha]; exact putSel_on (e := (7, 41, m7_)) 7 rfl rfl (hon 7 (by kernel_rfl)) rfl
          rw [Q_X7_ (hon 7 (by kernel_rfl))] at e41
          have e39 : a.tmps[39]? = some (.bool true) := by rw [ha]; exact putSel_on (e := (5, 39, .bool true)) 5 rfl rfl (hon 5 (by kernel_rfl)) rfl
          replace ha := Aside0.mk ha
          have R := Aside0.mk Q_R
          have G0 := Aside0.mk (Q_G0 (hoff 11 (by kernel_rfl)))
          have O := Aside0.mk (Q_O (hon 2 (by kernel_rfl)))
          have P := Aside0.mk (Q_P (hon 7 (by kernel_rfl)))
          refine call_ 16 #[.slice p7 (ofL l).length q7] (wanted_on rfl rfl rfl (e39.trans rfl)) rfl (by go_simp; try rfl) ?_
          refine (agateref08_New.calls 1100000 p7 q7 (ofL l) 0 w' (Kd.F_now P.out.2) P.out.1 HNf.out).mono ?_
          rintro e w1 ⟨rfl, ⟨nd, rfl⟩⟩
          have hB := pw_below_drewN (Below.refl w'.heap.size w') nd
          refine ⟨_, rfl, ?_⟩
          refine hK.out _ _ ⟨p1, q1, p7, q7, m2_, m7_, m12_, (by rw [ha.out]; exact putSel_upk 8 hb_ rfl rfl rfl), R.out.step hB, fun _ => blk_below G0.out hB, fun h0_ => absurd ((hoff 11 (by kernel_rfl)).symm.trans h0_) (by decide), fun _ => ⟨O.out.1, F_below O.out.2 hB⟩, fun _ => ⟨P.out.1, F_below P.out.2 hB⟩, Q_X2_, Q_X7_, fun h0_ => absurd ((hoff 12 (by kernel_rfl)).symm.trans h0_) (by decide)⟩
        refine steps_cons ?_ ?_
        · rintro b a w' ⟨p1, q1, p7, q7, m2_, m7_, m12_, ha, Q_R, Q_G0, Q_G1, Q_O, Q_P, Q_X2_, Q_X7_, Q_X12_⟩ hb_ hon hoff
          refine ⟨_, rfl, fun K hK => ?_⟩
          have e42 : a.tmps[42]? = some (.int .i64 0) := by rw [ha]; exact putSel_on (e := (8, 42, .int .i64 0)) 8 rfl rfl (hon 8 (by kernel_rfl)) rfl
          have e39 : a.tmps[39]? = some (.bool true) := by rw [ha]; exact putSel_on (e := (5, 39, .bool true)) 5 rfl rfl (hon 5 (by kernel_rfl)) rfl
          replace ha := Aside0.mk ha
          have R := Aside0.mk Q_R
          have O := Aside0.mk (Q_O (hon 2 (by kernel_rfl)))
          have P := Aside0.mk (Q_P (hon 7 (by kernel_rfl)))
          refine value_ (w1 := w') (v := .bool true) (wanted_on rfl rfl rfl (e39.trans (by first | rfl | (simp [*]; done)))) rfl ?_ ?_
          · go_simp
            (try simp only [i64_w])
            try rfl
          refine hK.out _ _ ⟨p1, q1, p7, q7, m2_, m7_, m12_, (by rw [ha.out]; exact putSel_upk 9 hb_ rfl rfl rfl), Q_R, Q_G0, Q_G1, Q_O, Q_P, Q_X2_, Q_X7_, Q_X12_⟩
        refine steps_cons ?_ ?_
        · rintro b a w' ⟨p1, q1, p7, q7, m2_, m7_, m12_, ha, Q_R, Q_G0, Q_G1, Q_O, Q_P, Q_X2_, Q_X7_, Q_X12_⟩ hb_ hon hoff
          refine ⟨_, rfl, fun K hK => ?_⟩
          have e39 : a.tmps[39]? = some (.bool true) := by rw [ha]; exact putSel_on (e := (5, 39, .bool true)) 5 rfl rfl (hon 5 (by kernel_rfl)) rfl
          have e43 : a.tmps[43]? = some (.bool true) := by rw [ha]; exact putSel_on (e := (9, 43, .bool true)) 9 rfl rfl (hon 9 (by kernel_rfl)) rfl
          replace ha := Aside0.mk ha
          have R := Aside0.mk Q_R
          have O := Aside0.mk (Q_O (hon 2 (by kernel_rfl)))
          have P := Aside0.mk (Q_P (hon 7 (by kernel_rfl)))
          refine value_ (w1 := w') (v := .bool true) (by rfl) rfl ?_ ?_
          · go_simp
            (try simp only [i64_w])
            try rfl
          refine hK.out _ _ ⟨p1, q1, p7, q7, m2_, m7_, m12_, (by rw [ha.out]; exact putSel_upk 10 hb_ rfl rfl rfl), Q_R, Q_G0, Q_G1, Q_O, Q_P, Q_X2_, Q_X7_, Q_X12_⟩
        refine steps_cons ?_ ?_
        · rintro b a w' ⟨p1, q1, p7, q7, m2_, m7_, m12_, ha, Q_R, Q_G0, Q_G1, Q_O, Q_P, Q_X2_, Q_X7_, Q_X12_⟩ hb_ hon hoff
          refine ⟨_, rfl, fun K hK => ?_⟩
          have e2 : a.tmps[2]? = some (.pointer (some ⟨gr, 0, none⟩)) := by rw [ha]; exact (putSel_off rfl).trans rfl
          have e34 : a.tmps[34]? = some (.agg #[.map m]) := by rw [ha]; exact putSel_on (e := (0, 34, .agg #[.map m])) 0 rfl rfl (hon 0 (by kernel_rfl)) rfl
          replace ha := Aside0.mk ha
          have R := Aside0.mk Q_R
          have G0 := Aside0.mk (Q_G0 hb_)
          have O := Aside0.mk (Q_O (hon 2 (by kernel_rfl)))
          have P := Aside0.mk (Q_P (hon 7 (by kernel_rfl)))
          have h0_ := blk_cell G0.out 0
          have f0_ := blk_frozen G0.out 0
          refine skip_ (w1 := w'.setCell ⟨gr, 0, none⟩ (.map m)) (by rfl) rfl ?_ ?_
          · go_simp
            try rfl
          refine hK.out _ _ ⟨p1, q1, p7, q7, m2_, m7_, m12_, (by rw [ha.out]; exact putSel_none (v := undef) rfl), R.out.put G0.out, fun h0_ => absurd ((up_self b 11).symm.trans h0_) (by decide), fun _ => blk_put (cs := #[.map none]) G0.out 0 _ rfl, fun _ => ⟨O.out.1, Kd.F_far O.out.2 (p := ⟨gr, 0, none⟩) (fun _ hk => hk) _⟩, fun _ => ⟨P.out.1, Kd.F_far P.out.2 (p := ⟨gr, 0, none⟩) (fun _ hk => hk) _⟩, Q_X2_, Q_X7_, fun h0_ => absurd ((hoff 12 (by kernel_rfl)).symm.trans h0_) (by decide)⟩
        refine steps_cons ?_ ?_
        · rintro b a w' ⟨p1, q1, p7, q7, m2_, m7_, m12_, ha, Q_R, Q_G0, Q_G1, Q_O, Q_P, Q_X2_, Q_X7_, Q_X12_⟩ hb_ hon hoff
          refine ⟨_, rfl, fun K hK => ?_⟩
          have e36 : a.tmps[36]? = some (m2_) := by rw [ha]; exact putSel_on (e := (2, 36, m2_)) 2 rfl rfl (hon 2 (by kernel_rfl)) rfl
          rw [Q_X2_ (hon 2 (by kernel_rfl))] at e36
          replace ha := Aside0.mk ha
          have R := Aside0.mk Q_R
          have G1 := Aside0.mk (Q_G1 (hon 11 (by kernel_rfl)))
          have O := Aside0.mk (Q_O (hon 2 (by kernel_rfl)))
          have P := Aside0.mk (Q_P (hon 7 (by kernel_rfl)))
          refine value_ (w1 := w') (v := .slice p1 (ofL l).length q1) (by rfl) rfl ?_ ?_
          · go_simp
            (try simp only [i64_w])
            try rfl
          refine hK.out _ _ ⟨p1, q1, p7, q7, m2_, m7_, (.slice p1 (ofL l).length q1), (by rw [ha.out]; exact putSel_upk 11 hb_ rfl rfl rfl), Q_R, fun h0_ => absurd ((hon 11 (by kernel_rfl)).symm.trans h0_) (by decide), Q_G1, Q_O, Q_P, Q_X2_, Q_X7_, fun _ => rfl⟩
        refine steps_cons ?_ ?_
        · rintro b a w' ⟨p1, q1, p7, q7, m2_, m7_, m12_, ha, Q_R, Q_G0, Q_G1, Q_O, Q_P, Q_X2_, Q_X7_, Q_X12_⟩ hb_ hon hoff
          refine ⟨_, rfl, fun K hK => ?_⟩
          have e44 : a.tmps[44]? = some (.bool true) := by rw [ha]; exact putSel_on (e := (10, 44, .bool true)) 10 rfl rfl (hon 10 (by kernel_rfl)) rfl
          replace ha := Aside0.mk ha
          have R := Aside0.mk Q_R
          have G1 := Aside0.mk (Q_G1 (hon 11 (by kernel_rfl)))
          have O := Aside0.mk (Q_O (hon 2 (by kernel_rfl)))
          have P := Aside0.mk (Q_P (hon 7 (by kernel_rfl)))
          refine value_ (w1 := w') (v := .bool true) (by rfl) rfl ?_ ?_
          · go_simp
            (try simp only [i64_w])
            try rfl
          refine hK.out _ _ ⟨p1, q1, p7, q7, m2_, m7_, m12_, (by rw [ha.out]; exact putSel_upk 12 hb_ rfl rfl rfl), Q_R, fun h0_ => absurd ((hon 11 (by kernel_rfl)).symm.trans h0_) (by decide), Q_G1, Q_O, Q_P, Q_X2_, Q_X7_, Q_X12_⟩
        exact steps_nil
      · rintro b a w' hall ⟨p1, q1, p7, q7, m2_, m7_, m12_, ha, Q_R, Q_G0, Q_G1, Q_O, Q_P, Q_X2_, Q_X7_, Q_X12_⟩
        skip
        have hb0_ := hall 0 (by kernel_rfl)
        have hb1_ := hall 1 (by kernel_rfl)
        have hb2_ := hall 2 (by kernel_rfl)
        have hb3_ := hall 3 (by kernel_rfl)
        have hb4_ := hall 4 (by kernel_rfl)
        have hb5_ := hall 5 (by kernel_rfl)
        have hb6_ := hall 6 (by kernel_rfl)
        have hb7_ := hall 7 (by kernel_rfl)
        have hb8_ := hall 8 (by kernel_rfl)
        have hb9_ := hall 9 (by kernel_rfl)
        have hb10_ := hall 10 (by kernel_rfl)
        have hb11_ := hall 11 (by kernel_rfl)
        have hb12_ := hall 12 (by kernel_rfl)
        have hb13_ := hall 13 (by kernel_rfl)
        subst ha
        obtain rfl := Q_X2_ hb2_
        obtain rfl := Q_X7_ hb7_
        obtain rfl := Q_X12_ hb12_
        simp only [putSel, hb0_, hb1_, hb2_, hb3_, hb4_, hb5_, hb6_, hb7_, hb8_, hb9_, hb10_, hb11_, hb12_, hb13_, if_true, Act.put, List.setIfInBounds_toArray, List.set_cons_zero, List.set_cons_succ]
        have R := Aside0.mk Q_R
        clear Q_R
        clear Q_G0
        have G1 := Aside0.mk (Q_G1 hb11_)
        clear Q_G1
        have O := Aside0.mk (Q_O hb2_)
        clear Q_O
        have P := Aside0.mk (Q_P hb7_)
        clear Q_P
        clear hall hb0_ hb1_ hb2_ hb3_ hb4_ hb5_ hb6_ hb7_ hb8_ hb9_ hb10_ hb11_ hb12_ hb13_
        go_wp2
        refine bodyPost_ret (results_ctt rfl _ _ gr 25 #[.map m] (0, 0) _ rfl G1.out hu rfl (by kernel_rfl)) rfl ?_
        exact ⟨m, p1, _, q1, true, rfl, R.out.b, fun _ => ⟨HCe.out, HS.out, HF.out, R.out.sm, rfl, O.out.1, Kd.F_now O.out.2⟩⟩
    · have b0 : (C == 0) = false := beq_eq_false_iff_ne.2 hC0
      rw [if_neg hC0] at HM
      go_wp2_with (first | ((with_reducible refine gate_dst (N := 8) rfl ?_); refine boxE (N := 8) (cs := #[.map none]) (t := 25) ?_; intro gs hg w3a hbox hb; have BS := mk0 hbox; have GS := gwS HB hg; have NRS := neS BR hg; have NSR := neT BR hg; replace BR := bkS BR hb; replace HM := mk0 (HM.out.kept hb); replace HB := hbS HB hb; clear hb hbox hg; have hs0 := cz1 BS; have fs0 := fz BS 0))
      obtain ⟨w3, hw⟩ : ∃ wb, wb = w3a.setCell ⟨gs, 0, none⟩ (.map m) := ⟨_, rfl⟩
      rw [← hw]
      replace BR := mk0 (show w3.drew.heap[gr]? = some _ from by rw [hw]; exact blk_drew (bkW BR))
      have hrl := blk_lt BR.out
      rw [hw] at hrl
      have HLd := mk0 (show LdR w w3.drew gr gs m A l [] from by rw [hw]; exact ⟨below_drew1 (below_set HB.out GS.out), blk_drew (bkW BS), NSR.out, GR.out, hrl, HM.out.set BS.out _, HR.out⟩)
      have HOf := Aside0.mk (of8_f l (by have := HL.out; omega))
      clear hw HM HB hs0 fs0 BS GS NRS NSR
      refine start_ (n := 14) (S := fun w' => True) (ds := []) #[false, false, false, false, false, false, false, false, false, false, false, false, false, false] (by kernel_rfl) rfl rfl trivial (fun hHeld => ?_)
      refine with_tabW laid9.tab10 laid9.bits10 (fun HT_ HW_ => ?_)
      generalize w3.drew = wd at HLd BR hHeld ⊢
      refine inv_at [0, 1, 2, 3, 4, 5, 6, 7, 8, 9, 10, 11, 12, 13] (fun a0_ b a w' => ∃ (p1 : Option Addr) (q1 : Nat) (m2_ : Value) (m12_ : Value), a = putSel a0_ b [(0, 34, .agg #[.map m]), (1, 35, .slice A l.length c), (2, 36, m2_), (3, 37, .int .i64 C), (4, 38, .bool false), (5, 39, .bool false), (6, 40, undef), (7, 41, undef), (8, 42, undef), (9, 43, undef), (10, 44, .bool false), (12, 3, m12_), (13, 4, .bool false)] ∧ (LdR w w' gr gs m A l []) ∧ (b 11 = false → w'.heap[gr]? = some (.cells #[.map none] 25 (0, 0))) ∧ (b 11 = true → w'.heap[gr]? = some (.cells #[.map m] 25 (0, 0))) ∧ (b 2 = true → (ofL l).length ≤ q1 ∧ Kd.F k91 w' (fun k => k ≠ gr) p1 (ofL l).length (ofL l)) ∧ (b 2 = true → (m2_ : Value) = .slice p1 (ofL l).length q1) ∧ (b 12 = true → (m12_ : Value) = .slice p1 (ofL l).length q1)) HT_.out HW_.out (by kernel_rfl) (by kernel_rfl) ?_ ?_ ?_
      · exact ⟨none, 0, .bool false, .bool false, by simp only [putSel, Bool.false_eq_true, if_false], HLd.out, fun _ => BR.out, fun h_ => absurd h_ (by decide), fun h_ => absurd h_ (by decide), fun h_ => absurd h_ (by decide), fun h_ => absurd h_ (by decide)⟩
      · skip
        skip
        refine steps_cons ?_ ?_
        · rintro b a w' ⟨p1, q1, m2_, m12_, ha, Q_R, Q_G0, Q_G1, Q_O, Q_X2_, Q_X12_⟩ hb_ hon hoff
          refine ⟨_, rfl, fun K hK => ?_⟩
          have e8 : a.tmps[8]? = some (.pointer (some ⟨gs, 0, none⟩)) := by rw [ha]; exact (putSel_off rfl).trans rfl
          replace ha := Aside0.mk ha
          have R := Aside0.mk Q_R
          have G0 := Aside0.mk (Q_G0 (hoff 11 (by kernel_rfl)))
          have s0_ : w'.cell? ⟨gs, 0, none⟩ = some (.map m) := blk_cell R.out.s 0
          refine value_ (w1 := w') (v := .agg #[.map m]) (by rfl) rfl ?_ ?_
          · go_simp
            (try simp only [i64_w])
            try rfl
          refine hK.out _ _ ⟨p1, q1, m2_, m12_, (by rw [ha.out]; exact putSel_upk 0 hb_ rfl rfl rfl), Q_R, Q_G0, fun h0_ => absurd ((hoff 11 (by kernel_rfl)).symm.trans h0_) (by decide), Q_O, Q_X2_, fun h0_ => absurd ((hoff 12 (by kernel_rfl)).symm.trans h0_) (by decide)⟩
        refine steps_cons ?_ ?_
        · rintro b a w' ⟨p1, q1, m2_, m12_, ha, Q_R, Q_G0, Q_G1, Q_O, Q_X2_, Q_X12_⟩ hb_ hon hoff
          refine ⟨_, rfl, fun K hK => ?_⟩
          have e0 : a.tmps[0]? = some (.slice A l.length c) := by rw [ha]; exact (putSel_off rfl).trans rfl
          replace ha := Aside0.mk ha
          have R := Aside0.mk Q_R
          have G0 := Aside0.mk (Q_G0 (hoff 11 (by kernel_rfl)))
          refine value_ (w1 := w') (v := .slice A l.length c) (by rfl) rfl ?_ ?_
          · go_simp
            (try simp only [i64_w])
            try rfl
          refine hK.out _ _ ⟨p1, q1, m2_, m12_, (by rw [ha.out]; exact putSel_upk 1 hb_ rfl rfl rfl), Q_R, Q_G0, fun h0_ => absurd ((hoff 11 (by kernel_rfl)).symm.trans h0_) (by decide), fun h0_ => absurd ((hoff 2 (by kernel_rfl)).symm.trans h0_) (by decide), fun h0_ => absurd ((hoff 2 (by kernel_rfl)).symm.trans h0_) (by decide), fun h0_ => absurd ((hoff 12 (by kernel_rfl)).symm.trans h0_) (by decide)⟩
        refine steps_cons ?_ ?_
        · rintro b a w' ⟨p1, q1, m2_, m12_, ha, Q_R, Q_G0, Q_G1, Q_O, Q_X2_, Q_X12_⟩ hb_ hon hoff
          refine ⟨_, rfl, fun K hK => ?_⟩
          have e35 : a.tmps[35]? = some (.slice A l.length c) := by rw [ha]; exact putSel_on (e := (1, 35, .slice A l.length c)) 1 rfl rfl (hon 1 (by kernel_rfl)) rfl
          replace ha := Aside0.mk ha
          have R := Aside0.mk Q_R
          have G0 := Aside0.mk (Q_G0 (hoff 11 (by kernel_rfl)))
          refine call_ 15 #[.slice A l.length c] (by rfl) rfl (by go_simp; try rfl) ?_
          refine (agatelaw08_Of.calls (l.length + 1) A c l (ofL l) w' R.out.l HLc.out HOf.out).mono ?_
          rintro e w1 ⟨v0, rfl, hO, hB⟩
          obtain ⟨r1, s1, rfl⟩ := Kd.R_slice hO
          refine ⟨_, rfl, ?_⟩
          refine hK.out _ _ ⟨r1, s1, (.slice r1 (ofL l).length s1), m12_, (by rw [ha.out]; exact putSel_upk 2 hb_ rfl rfl rfl), R.out.step hB, fun _ => blk_below G0.out hB, fun h0_ => absurd ((hoff 11 (by kernel_rfl)).symm.trans h0_) (by decide), fun _ => ⟨(Kd.R_reads' hO).2.1, Kd.R_F (Kd.R_mono (Kd.R_bound hO) (fun k hk => by have := R.out.gl; have := hk.2.1; omega))⟩, fun _ => rfl, fun h0_ => absurd ((hoff 12 (by kernel_rfl)).symm.trans h0_) (by decide)⟩
        refine steps_cons ?_ ?_
        · rintro b a w' ⟨p1, q1, m2_, m12_, ha, Q_R, Q_G0, Q_G1, Q_O, Q_X2_, Q_X12_⟩ hb_ hon hoff
          refine ⟨_, rfl, fun K hK => ?_⟩
          have e9 : a.tmps[9]? = some (.int .i64 C) := by rw [ha]; exact (putSel_off rfl).trans rfl
          replace ha := Aside0.mk ha
          have R := Aside0.mk Q_R
          have G0 := Aside0.mk (Q_G0 (hoff 11 (by kernel_rfl)))
          refine value_ (w1 := w') (v := .int .i64 C) (by rfl) rfl ?_ ?_
          · go_simp
            (try simp only [i64_w])
            try rfl
          refine hK.out _ _ ⟨p1, q1, m2_, m12_, (by rw [ha.out]; exact putSel_upk 3 hb_ rfl rfl rfl), Q_R, Q_G0, fun h0_ => absurd ((hoff 11 (by kernel_rfl)).symm.trans h0_) (by decide), Q_O, Q_X2_, fun h0_ => absurd ((hoff 12 (by kernel_rfl)).symm.trans h0_) (by decide)⟩
        refine steps_cons ?_ ?_
        · rintro b a w' ⟨p1, q1, m2_, m12_, ha, Q_R, Q_G0, Q_G1, Q_O, Q_X2_, Q_X12_⟩ hb_ hon hoff
          refine ⟨_, rfl, fun K hK => ?_⟩
          have e37 : a.tmps[37]? = some (.int .i64 C) := by rw [ha]; exact putSel_on (e := (3, 37, .int .i64 C)) 3 rfl rfl (hon 3 (by kernel_rfl)) rfl
          replace ha := Aside0.mk ha
          have R := Aside0.mk Q_R
          have G0 := Aside0.mk (Q_G0 (hoff 11 (by kernel_rfl)))
          refine value_ (w1 := w') (v := .bool false) (by rfl) rfl ?_ ?_
          · go_simp
            (try simp only [i64_w])
            try rfl
          refine hK.out _ _ ⟨p1, q1, m2_, m12_, (by rw [ha.out]; exact putSel_upk 4 hb_ rfl rfl rfl), Q_R, Q_G0, fun h0_ => absurd ((hoff 11 (by kernel_rfl)).symm.trans h0_) (by decide), Q_O, Q_X2_, fun h0_ => absurd ((hoff 12 (by kernel_rfl)).symm.trans h0_) (by decide)⟩
        refine steps_cons ?_ ?_
        · rintro b a w' ⟨p1, q1, m2_, m12_, ha, Q_R, Q_G0, Q_G1, Q_O, Q_X2_, Q_X12_⟩ hb_ hon hoff
          refine ⟨_, rfl, fun K hK => ?_⟩
          have e38 : a.tmps[38]? = some (.bool false) := by rw [ha]; exact putSel_on (e := (4, 38, .bool false)) 4 rfl rfl (hon 4 (by kernel_rfl)) rfl
          replace ha := Aside0.mk ha
          have R := Aside0.mk Q_R
          have G0 := Aside0.mk (Q_G0 (hoff 11 (by kernel_rfl)))
          have O := Aside0.mk (Q_O (hon 2 (by kernel_rfl)))
          refine value_ (w1 := w') (v := .bool false) (by rfl) rfl ?_ ?_
          · go_simp
            (try simp only [i64_w])
            try rfl
          refine hK.out _ _ ⟨p1, q1, m2_, m12_, (by rw [ha.out]; exact putSel_upk 5 hb_ rfl rfl rfl), Q_R, Q_G0, fun h0_ => absurd ((hoff 11 (by kernel_rfl)).symm.trans h0_) (by decide), Q_O, Q_X2_, fun h0_ => absurd ((hoff 12 (by kernel_rfl)).symm.trans h0_) (by decide)⟩
        refine steps_cons ?_ ?_
        · rintro b a w' ⟨p1, q1, m2_, m12_, ha, Q_R, Q_G0, Q_G1, Q_O, Q_X2_, Q_X12_⟩ hb_ hon hoff
          refine ⟨_, rfl, fun K hK => ?_⟩
          have e39 : a.tmps[39]? = some (.bool false) := by rw [ha]; exact putSel_on (e := (5, 39, .bool false)) 5 rfl rfl (hon 5 (by kernel_rfl)) rfl
          replace ha := Aside0.mk ha
          have R := Aside0.mk Q_R
          have G0 := Aside0.mk (Q_G0 (hoff 11 (by kernel_rfl)))
          have O := Aside0.mk (Q_O (hon 2 (by kernel_rfl)))
          refine off_ (wanted_off rfl rfl rfl (e39.trans (by first | rfl | (simp [*]; done)))) ?_
          refine hK.out _ _ ⟨p1, q1, m2_, m12_, (by rw [ha.out]; exact putSel_upk 6 hb_ rfl rfl rfl), Q_R, Q_G0, fun h0_ => absurd ((hoff 11 (by kernel_rfl)).symm.trans h0_) (by decide), Q_O, Q_X2_, fun h0_ => absurd ((hoff 12 (by kernel_rfl)).symm.trans h0_) (by decide)⟩
        refine steps_cons ?_ ?_
        · rintro b a w' ⟨p1, q1, m2_, m12_, ha, Q_R, Q_G0, Q_G1, Q_O, Q_X2_, Q_X12_⟩ hb_ hon hoff
          refine ⟨_, rfl, fun K hK => ?_⟩
          have e39 : a.tmps[39]? = some (.bool false) := by rw [ha]; exact putSel_on (e := (5, 39, .bool false)) 5 rfl rfl (hon 5 (by kernel_rfl)) rfl
          replace ha := Aside0.mk ha
          have R := Aside0.mk Q_R
          have G0 := Aside0.mk (Q_G0 (hoff 11 (by kernel_rfl)))
          have O := Aside0.mk (Q_O (hon 2 (by kernel_rfl)))
          refine off_ (wanted_off rfl rfl rfl (e39.trans (by first | rfl | (simp [*]; done)))) ?_
          refine hK.out _ _ ⟨p1, q1, m2_, m12_, (by rw [ha.out]; exact putSel_upk 7 hb_ rfl rfl rfl), Q_R, Q_G0, fun h0_ => absurd ((hoff 11 (by kernel_rfl)).symm.trans h0_) (by decide), Q_O, Q_X2_, fun h0_ => absurd ((hoff 12 (by kernel_rfl)).symm.trans h0_) (by decide)⟩
        refine steps_cons ?_ ?_
        · rintro b a w' ⟨p1, q1, m2_, m12_, ha, Q_R, Q_G0, Q_G1, Q_O, Q_X2_, Q_X12_⟩ hb_ hon hoff
          refine ⟨_, rfl, fun K hK => ?_⟩
          have e39 : a.tmps[39]? = some (.bool false) := by rw [ha]; exact putSel_on (e := (5, 39, .bool false)) 5 rfl rfl (hon 5 (by kernel_rfl)) rfl
          replace ha := Aside0.mk ha
          have R := Aside0.mk Q_R
          have G0 := Aside0.mk (Q_G0 (hoff 11 (by kernel_rfl)))
          have O := Aside0.mk (Q_O (hon 2 (by kernel_rfl)))
          refine off_ (wanted_off rfl rfl rfl (e39.trans (by first | rfl | (simp [*]; done)))) ?_
          refine hK.out _ _ ⟨p1, q1, m2_, m12_, (by rw [ha.out]; exact putSel_upk 8 hb_ rfl rfl rfl), Q_R, Q_G0, fun h0_ => absurd ((hoff 11 (by kernel_rfl)).symm.trans h0_) (by decide), Q_O, Q_X2_, fun h0_ => absurd ((hoff 12 (by kernel_rfl)).symm.trans h0_) (by decide)⟩
        refine steps_cons ?_ ?_
        · rintro b a w' ⟨p1, q1, m2_, m12_, ha, Q_R, Q_G0, Q_G1, Q_O, Q_X2_, Q_X12_⟩ hb_ hon hoff
          refine ⟨_, rfl, fun K hK => ?_⟩
          have e39 : a.tmps[39]? = some (.bool false) := by rw [ha]; exact putSel_on (e := (5, 39, .bool false)) 5 rfl rfl (hon 5 (by kernel_rfl)) rfl
          replace ha := Aside0.mk ha
          have R := Aside0.mk Q_R
          have O := Aside0.mk (Q_O (hon 2 (by kernel_rfl)))
          refine off_ (wanted_off rfl rfl rfl (e39.trans (by first | rfl | (simp [*]; done)))) ?_
          refine hK.out _ _ ⟨p1, q1, m2_, m12_, (by rw [ha.out]; exact putSel_upk 9 hb_ rfl rfl rfl), Q_R, Q_G0, Q_G1, Q_O, Q_X2_, Q_X12_⟩
        refine steps_cons ?_ ?_
        · rintro b a w' ⟨p1, q1, m2_, m12_, ha, Q_R, Q_G0, Q_G1, Q_O, Q_X2_, Q_X12_⟩ hb_ hon hoff
          refine ⟨_, rfl, fun K hK => ?_⟩
          have e39 : a.tmps[39]? = some (.bool false) := by rw [ha]; exact putSel_on (e := (5, 39, .bool false)) 5 rfl rfl (hon 5 (by kernel_rfl)) rfl
          have e43 : a.tmps[43]? = some (undef) := by rw [ha]; exact putSel_on (e := (9, 43, undef)) 9 rfl rfl (hon 9 (by kernel_rfl)) rfl
          replace ha := Aside0.mk ha
          have R := Aside0.mk Q_R
          have O := Aside0.mk (Q_O (hon 2 (by kernel_rfl)))
          refine value_ (w1 := w') (v := .bool false) (by rfl) rfl ?_ ?_
          · go_simp
            (try simp only [i64_w])
            try rfl
          refine hK.out _ _ ⟨p1, q1, m2_, m12_, (by rw [ha.out]; exact putSel_upk 10 hb_ rfl rfl rfl), Q_R, Q_G0, Q_G1, Q_O, Q_X2_, Q_X12_⟩
        refine steps_cons ?_ ?_
        · rintro b a w' ⟨p1, q1, m2_, m12_, ha, Q_R, Q_G0, Q_G1, Q_O, Q_X2_, Q_X12_⟩ hb_ hon hoff
          refine ⟨_, rfl, fun K hK => ?_⟩
          have e2 : a.tmps[2]? = some (.pointer (some ⟨gr, 0, none⟩)) := by rw [ha]; exact (putSel_off rfl).trans rfl
          have e34 : a.tmps[34]? = some (.agg #[.map m]) := by rw [ha]; exact putSel_on (e := (0, 34, .agg #[.map m])) 0 rfl rfl (hon 0 (by kernel_rfl)) rfl
          replace ha := Aside0.mk ha
          have R := Aside0.mk Q_R
          have G0 := Aside0.mk (Q_G0 hb_)
          have O := Aside0.mk (Q_O (hon 2 (by kernel_rfl)))
          have h0_ := blk_cell G0.out 0
          have f0_ := blk_frozen G0.out 0
          refine skip_ (w1 := w'.setCell ⟨gr, 0, none⟩ (.map m)) (by rfl) rfl ?_ ?_
          · go_simp
            try rfl
          refine hK.out _ _ ⟨p1, q1, m2_, m12_, (by rw [ha.out]; exact putSel_none (v := undef) rfl), R.out.put G0.out, fun h0_ => absurd ((up_self b 11).symm.trans h0_) (by decide), fun _ => blk_put (cs := #[.map none]) G0.out 0 _ rfl, fun _ => ⟨O.out.1, Kd.F_far O.out.2 (p := ⟨gr, 0, none⟩) (fun _ hk => hk) _⟩, Q_X2_, fun h0_ => absurd ((hoff 12 (by kernel_rfl)).symm.trans h0_) (by decide)⟩
        refine steps_cons ?_ ?_
        · rintro b a w' ⟨p1, q1, m2_, m12_, ha, Q_R, Q_G0, Q_G1, Q_O, Q_X2_, Q_X12_⟩ hb_ hon hoff
          refine ⟨_, rfl, fun K hK => ?_⟩
          have e36 : a.tmps[36]? = some (m2_) := by rw [ha]; exact putSel_on (e := (2, 36, m2_)) 2 rfl rfl (hon 2 (by kernel_rfl)) rfl
          rw [Q_X2_ (hon 2 (by kernel_rfl))] at e36
          replace ha := Aside0.mk ha
          have R := Aside0.mk Q_R
          have G1 := Aside0.mk (Q_G1 (hon 11 (by kernel_rfl)))
          have O := Aside0.mk (Q_O (hon 2 (by kernel_rfl)))
          refine value_ (w1 := w') (v := .slice p1 (ofL l).length q1) (by rfl) rfl ?_ ?_
          · go_simp
            (try simp only [i64_w])
            try rfl
          refine hK.out _ _ ⟨p1, q1, m2_, (.slice p1 (ofL l).length q1), (by rw [ha.out]; exact putSel_upk 11 hb_ rfl rfl rfl), Q_R, fun h0_ => absurd ((hon 11 (by kernel_rfl)).symm.trans h0_) (by decide), Q_G1, Q_O, Q_X2_, fun _ => rfl⟩
        refine steps_cons ?_ ?_
        · rintro b a w' ⟨p1, q1, m2_, m12_, ha, Q_R, Q_G0, Q_G1, Q_O, Q_X2_, Q_X12_⟩ hb_ hon hoff
          refine ⟨_, rfl, fun K hK => ?_⟩
          have e44 : a.tmps[44]? = some (.bool false) := by rw [ha]; exact putSel_on (e := (10, 44, .bool false)) 10 rfl rfl (hon 10 (by kernel_rfl)) rfl
          replace ha := Aside0.mk ha
          have R := Aside0.mk Q_R
          have G1 := Aside0.mk (Q_G1 (hon 11 (by kernel_rfl)))
          have O := Aside0.mk (Q_O (hon 2 (by kernel_rfl)))
          refine value_ (w1 := w') (v := .bool false) (by rfl) rfl ?_ ?_
          · go_simp
            (try simp only [i64_w])
            try rfl
          refine hK.out _ _ ⟨p1, q1, m2_, m12_, (by rw [ha.out]; exact putSel_upk 12 hb_ rfl rfl rfl), Q_R, fun h0_ => absurd ((hon 11 (by kernel_rfl)).symm.trans h0_) (by decide), Q_G1, Q_O, Q_X2_, Q_X12_⟩
        exact steps_nil
      · rintro b a w' hall ⟨p1, q1, m2_, m12_, ha, Q_R, Q_G0, Q_G1, Q_O, Q_X2_, Q_X12_⟩
        skip
        have hb0_ := hall 0 (by kernel_rfl)
        have hb1_ := hall 1 (by kernel_rfl)
        have hb2_ := hall 2 (by kernel_rfl)
        have hb3_ := hall 3 (by kernel_rfl)
        have hb4_ := hall 4 (by kernel_rfl)
        have hb5_ := hall 5 (by kernel_rfl)
        have hb6_ := hall 6 (by kernel_rfl)
        have hb7_ := hall 7 (by kernel_rfl)
        have hb8_ := hall 8 (by kernel_rfl)
        have hb9_ := hall 9 (by kernel_rfl)
        have hb10_ := hall 10 (by kernel_rfl)
        have hb11_ := hall 11 (by kernel_rfl)
        have hb12_ := hall 12 (by kernel_rfl)
        have hb13_ := hall 13 (by kernel_rfl)
        subst ha
        obtain rfl := Q_X2_ hb2_
        obtain rfl := Q_X12_ hb12_
        simp only [putSel, hb0_, hb1_, hb2_, hb3_, hb4_, hb5_, hb6_, hb7_, hb8_, hb9_, hb10_, hb11_, hb12_, hb13_, if_true, Act.put, List.setIfInBounds_toArray, List.set_cons_zero, List.set_cons_succ]
        have R := Aside0.mk Q_R
        clear Q_R
        clear Q_G0
        have G1 := Aside0.mk (Q_G1 hb11_)
        clear Q_G1
        have O := Aside0.mk (Q_O hb2_)
        clear Q_O
        clear hall hb0_ hb1_ hb2_ hb3_ hb4_ hb5_ hb6_ hb7_ hb8_ hb9_ hb10_ hb11_ hb12_ hb13_
        go_wp2
        refine bodyPost_ret (results_ctt rfl _ _ gr 25 #[.map m] (0, 0) _ rfl G1.out hu rfl (by kernel_rfl)) rfl ?_
        exact ⟨m, p1, _, q1, false, rfl, R.out.b, fun h => by cases h⟩
end Go.Proofs.YtgmggompdidcoaaGreatDoor.X
