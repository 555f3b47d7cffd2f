import Derived.Test.YtpojamikfcmnoaaMShapePlaces0
-- by xprint.py, a program of this session, over the kit's print.py
namespace Go.Proofs.Ytpojamikfcmnoaa.X
open Go.RowKit Go.Proofs.YtpojamikfcmnoaaW.PrintWords Go.Proofs.YtpojamikfcmnoaaW.PrintLast Go.Proofs.YtpojamikfcmnoaaW.PrintMore
attribute [local go_sem] max2_int min2_int max_two min_two max_three min_three max_four min_four   -- for this text's walks alone
set_option linter.unusedVariables false
set_option linter.unusedSimpArgs false

/-! Shapes: plain Lean -/
def sizeL : List Int → Int → Bool → Int × Int
  | [], n, z => if z = true then (0, 0) else if n > 65536 then (0, 7) else (n, 0)
  | d :: l, n, z => if d > 65536 then (0, 7) else if d = 0 then sizeL l n true else sizeL l (if 65537 < n * d then 65537 else n * d) z
def sizeS (l : List Int) : Int × Int := if l.length > 8 then (0, 6) else if l.any (fun x => decide (x < 0)) then (0, 6) else sizeL l 1 false
theorem mul_cap {n d : Int} (h0 : 0 ≤ n) (h1 : n ≤ 65537) (h2 : 0 ≤ d) (h3 : d ≤ 65536) : 0 ≤ n * d ∧ n * d ≤ 4295032832 := by
  refine ⟨Int.mul_nonneg h0 h2, ?_⟩
  have := Int.mul_le_mul h1 h3 h2 (by omega : (0 : Int) ≤ 65537)
  omega
theorem sizeL_zero (l : List Int) : ∀ (n : Int) (z : Bool), (∀ x ∈ l, x ≤ 65536) → (z = true ∨ ∃ x ∈ l, x = 0) → sizeL l n z = (0, 0) := by
  induction l with
  | nil =>
    intro n z _ h
    rcases h with h | ⟨x, hx, _⟩
    · rw [sizeL, if_pos h]
    · cases hx
  | cons d l ih =>
    intro n z hg h
    have hd := hg d (List.mem_cons_self ..)
    have hl : ∀ x ∈ l, x ≤ 65536 := fun x hx => hg x (List.mem_cons_of_mem _ hx)
    rw [sizeL, if_neg (by omega)]
    by_cases h0 : d = 0
    · rw [if_pos h0]; exact ih n true hl (Or.inl rfl)
    · rw [if_neg h0]
      refine ih _ z hl ?_
      rcases h with h | ⟨x, hx, e⟩
      · exact Or.inl h
      · rcases List.mem_cons.1 hx with rfl | hx
        · exact absurd e h0
        · exact Or.inr ⟨x, hx, e⟩
theorem sizeL_great (l : List Int) : ∀ (n : Int) (z : Bool), (∃ x ∈ l, x > 65536) → sizeL l n z = (0, 7) := by
  induction l with
  | nil => intro n z h; obtain ⟨x, hx, _⟩ := h; cases hx
  | cons d l ih =>
    intro n z h
    rw [sizeL]
    by_cases hd : d > 65536
    · rw [if_pos hd]
    · rw [if_neg hd]
      have : ∃ x ∈ l, x > 65536 := by
        obtain ⟨x, hx, e⟩ := h
        rcases List.mem_cons.1 hx with rfl | hx
        · exact absurd e hd
        · exact ⟨x, hx, e⟩
      split
      · exact ih _ _ this
      · exact ih _ _ this
theorem sizeL_full (l : List Int) : (∀ x ∈ l, 0 < x ∧ x ≤ 65536) → sizeL l 65537 false = (0, 7) := by
  induction l with
  | nil => intro _; rfl
  | cons d l ih =>
    intro h
    have hd := h d (List.mem_cons_self ..)
    rw [sizeL, if_neg (by omega), if_neg (by omega)]
    have : (if 65537 < 65537 * d then 65537 else 65537 * d) = 65537 := by split <;> omega
    rw [this]
    exact ih (fun x hx => h x (List.mem_cons_of_mem _ hx))
theorem any_take (p : Int → Bool) (l : List Int) (i : Nat) (h : i < l.length) : (l.take (i + 1)).any p = ((l.take i).any p || p l[i]) := by
  rw [List.take_succ_eq_append_getElem h, List.any_append]; simp
def zipB : List Int → List Int → Option (List Int)
  | x :: xs, y :: ys => if x = y ∨ y = 1 then (zipB xs ys).map (fun l => x :: l) else if x = 1 then (zipB xs ys).map (fun l => y :: l) else none
  | _, _ => some []
def endB (o : Option (List Int)) : List Int × Int := o.elim ([], 6) fun out => if (sizeS out).2 = 0 then (out, 0) else ([], (sizeS out).2)
def wideL (l : List Int) (n : Nat) : List Int := List.replicate (n - l.length) 1 ++ l
def broadS (a b : List Int) : List Int × Int := if (sizeS a).2 = 0 then (if (sizeS b).2 = 0 then endB (zipB (wideL a (max a.length b.length)) (wideL b (max a.length b.length))) else ([], (sizeS b).2)) else ([], (sizeS a).2)
theorem sizeS_len {l : List Int} (h : (sizeS l).2 = 0) : l.length ≤ 8 := by
  unfold sizeS at h
  split at h
  · cases h
  · omega
theorem zipB_none (xs ys : List Int) {p q : List Int} (hl : p.length = q.length) (h : zipB xs ys = none) : zipB (p ++ xs) (q ++ ys) = none := by
  induction p generalizing q with
  | nil =>
    rw [List.eq_nil_of_length_eq_zero hl.symm]; exact h
  | cons a p ih =>
    cases q with
    | nil => cases hl
    | cons b q =>
      have := ih (q := q) (Nat.succ.inj hl)
      rw [List.cons_append, List.cons_append, zipB, this]
      split
      · rfl
      · split <;> rfl
theorem zipB_comm (xs : List Int) : ∀ ys, zipB xs ys = zipB ys xs := by
  induction xs with
  | nil => intro ys; cases ys <;> rfl
  | cons x xs ih =>
    intro ys
    cases ys with
    | nil => rfl
    | cons y ys =>
      rw [zipB, zipB, ih ys]
      by_cases h : x = y
      · subst h; rfl
      · by_cases h1 : y = 1
        · rw [if_pos (Or.inr h1), if_pos h1]
          by_cases h2 : x = 1
          · exact absurd (h2.trans h1.symm) h
          · rw [if_neg (by omega)]
        · rw [if_neg (by omega), if_neg h1]
          by_cases h2 : x = 1
          · rw [if_pos h2, if_pos (Or.inr h2)]
          · rw [if_neg h2, if_neg (by omega)]
theorem zipB_self (xs : List Int) : zipB xs xs = some xs := by
  induction xs with
  | nil => rfl
  | cons x xs ih => rw [zipB, if_pos (Or.inl rfl), ih]; rfl
theorem zipB_cons {x y : Int} {xs ys zs : List Int} (h : zipB (x :: xs) (y :: ys) = some zs) : ∃ z l, zs = z :: l ∧ zipB xs ys = some l ∧ ((x = y ∨ y = 1) ∧ z = x ∨ x = 1 ∧ z = y) := by
  rw [zipB] at h
  split at h
  · rename_i hc
    obtain ⟨l, hl, rfl⟩ := Option.map_eq_some_iff.1 h
    exact ⟨x, l, rfl, hl, Or.inl ⟨hc, rfl⟩⟩
  · split at h
    · rename_i hc
      obtain ⟨l, hl, rfl⟩ := Option.map_eq_some_iff.1 h
      exact ⟨y, l, rfl, hl, Or.inr ⟨hc, rfl⟩⟩
    · cases h
theorem zipB_len (xs : List Int) : ∀ ys zs, xs.length = ys.length → zipB xs ys = some zs → zs.length = xs.length := by
  induction xs with
  | nil => intro ys zs _ h; cases h; rfl
  | cons x xs ih =>
    intro ys zs hl h
    cases ys with
    | nil => cases hl
    | cons y ys =>
      obtain ⟨z, l, rfl, h, _⟩ := zipB_cons h
      rw [List.length_cons, List.length_cons, ih ys l (Nat.succ.inj hl) h]
theorem zipB_assoc (aa : List Int) : ∀ bs cs xs us ls : List Int, aa.length = bs.length → bs.length = cs.length → zipB aa bs = some xs → zipB bs cs = some us → zipB xs cs = some ls → zipB aa us = some ls := by
  induction aa with
  | nil =>
    intro bs cs xs us ls h1 h2 hx hu hl
    cases bs with
    | nil => cases hx; cases hu; cases hl; rfl
    | cons b bs => cases h1
  | cons a aa ih =>
    intro bs cs xs us ls h1 h2 hx hu hl
    cases bs with
    | nil => cases h1
    | cons b bs =>
      cases cs with
      | nil => cases h2
      | cons c cs =>
        obtain ⟨x, xt, rfl, hx, ex⟩ := zipB_cons hx
        obtain ⟨u, ut, rfl, hu, eu⟩ := zipB_cons hu
        obtain ⟨l, lt, rfl, hl, el⟩ := zipB_cons hl
        rw [zipB, ih bs cs xt ut lt (Nat.succ.inj h1) (Nat.succ.inj h2) hx hu hl]
        by_cases hc : a = u ∨ u = 1
        · rw [if_pos hc]
          show some (a :: lt) = some (l :: lt)
          congr 2; omega
        · rw [if_neg hc, if_pos (by omega)]
          show some (u :: lt) = some (l :: lt)
          congr 2; omega
theorem zipB_ones (n : Nat) (xs ys : List Int) : zipB (List.replicate n 1 ++ xs) (List.replicate n 1 ++ ys) = (zipB xs ys).map (fun l => List.replicate n 1 ++ l) := by
  induction n with
  | zero => cases h : zipB xs ys <;> simp [h]
  | succ n ih =>
    rw [List.replicate_succ, List.cons_append, List.cons_append, zipB, if_pos (Or.inl rfl), ih]
    cases zipB xs ys <;> rfl
theorem wideL_len (l : List Int) (n : Nat) (h : l.length ≤ n) : (wideL l n).length = n := by
  unfold wideL; rw [List.length_append, List.length_replicate]; omega
theorem wideL_more (l : List Int) (n m : Nat) (h : l.length ≤ n) (hm : n ≤ m) : wideL l m = List.replicate (m - n) 1 ++ wideL l n := by
  unfold wideL
  rw [← List.append_assoc, List.replicate_append_replicate, show m - n + (n - l.length) = m - l.length by omega]
theorem wideL_id (l : List Int) : wideL l l.length = l := by
  unfold wideL; rw [Nat.sub_self]; rfl
/-- the outcome at any width -/
theorem zipB_wide {a b x : List Int} {n m : Nat} (ha : a.length ≤ n) (hb : b.length ≤ n) (hm : n ≤ m) (h : zipB (wideL a n) (wideL b n) = some x) : zipB (wideL a m) (wideL b m) = some (wideL x m) := by
  have hx : x.length = n := by rw [zipB_len _ _ _ (by rw [wideL_len _ _ ha, wideL_len _ _ hb]) h, wideL_len _ _ ha]
  rw [wideL_more a n m ha hm, wideL_more b n m hb hm, zipB_ones, h]
  show some (List.replicate (m - n) 1 ++ x) = some (wideL x m)
  unfold wideL; rw [hx]
theorem broadS_ok {a b x : List Int} (h : broadS a b = (x, 0)) : (sizeS a).2 = 0 ∧ (sizeS b).2 = 0 ∧ (sizeS x).2 = 0 ∧ zipB (wideL a (max a.length b.length)) (wideL b (max a.length b.length)) = some x := by
  unfold broadS at h
  by_cases ha : (sizeS a).2 = 0
  · rw [if_pos ha] at h
    by_cases hb : (sizeS b).2 = 0
    · rw [if_pos hb] at h
      refine ⟨ha, hb, ?_⟩
      cases hz : zipB (wideL a (max a.length b.length)) (wideL b (max a.length b.length)) with
      | none => rw [hz] at h; cases h
      | some y =>
        rw [hz] at h
        have h' : (if (sizeS y).2 = 0 then (y, (0 : Int)) else ([], (sizeS y).2)) = (x, 0) := h
        by_cases hy : (sizeS y).2 = 0
        · rw [if_pos hy] at h'; cases h'; exact ⟨hy, rfl⟩
        · rw [if_neg hy] at h'; exact absurd (congrArg Prod.snd h') hy
    · rw [if_neg hb] at h; exact absurd (congrArg Prod.snd h) hb
  · rw [if_neg ha] at h; exact absurd (congrArg Prod.snd h) ha
theorem broadS_of {a b x : List Int} (ha : (sizeS a).2 = 0) (hb : (sizeS b).2 = 0) (hx : (sizeS x).2 = 0) (h : zipB (wideL a (max a.length b.length)) (wideL b (max a.length b.length)) = some x) : broadS a b = (x, 0) := by
  unfold broadS; rw [if_pos ha, if_pos hb, h]
  show (if (sizeS x).2 = 0 then (x, (0 : Int)) else ([], (sizeS x).2)) = (x, 0)
  rw [if_pos hx]
theorem endB_cases (o : Option (List Int)) : (endB o).2 = 0 ∨ (endB o).1 = [] := by
  cases o with
  | none => exact Or.inr rfl
  | some y =>
    show (if (sizeS y).2 = 0 then (y, (0 : Int)) else ([], (sizeS y).2)).2 = 0 ∨ (if (sizeS y).2 = 0 then (y, (0 : Int)) else ([], (sizeS y).2)).1 = []
    split
    · exact Or.inl rfl
    · exact Or.inr rfl
theorem broadS_bad {a b : List Int} (h : (broadS a b).2 ≠ 0) : (broadS a b).1 = [] := by
  unfold broadS at h ⊢
  split
  · split
    · rename_i h1 h2
      rw [if_pos h1, if_pos h2] at h
      exact (endB_cases _).resolve_left h
    · rfl
  · rfl
theorem broadS_turn (a b : List Int) : ((broadS a b).2 = 0 ↔ (broadS b a).2 = 0) ∧ (broadS a b).1 = (broadS b a).1 := by
  have key : ∀ a b : List Int, (broadS a b).2 = 0 → broadS b a = broadS a b := by
    intro a b h
    have h0 : broadS a b = ((broadS a b).1, 0) := Prod.ext rfl h
    obtain ⟨h1, h2, h3, h4⟩ := broadS_ok h0
    rw [h0]
    exact broadS_of h2 h1 h3 (by rw [zipB_comm, Nat.max_comm]; exact h4)
  refine ⟨⟨fun h => by rw [key a b h]; exact h, fun h => by rw [key b a h]; exact h⟩, ?_⟩
  by_cases h : (broadS a b).2 = 0
  · rw [key a b h]
  · by_cases g : (broadS b a).2 = 0
    · rw [key b a g]
    · rw [broadS_bad h, broadS_bad g]
theorem broadS_self (a x : List Int) (h : broadS a a = (x, 0)) : x = a := by
  obtain ⟨_, _, _, h4⟩ := broadS_ok h
  rw [Nat.max_self, wideL_id, zipB_self] at h4
  exact (Option.some.inj h4).symm
theorem broadS_three {a b c x u l : List Int} (hx : broadS a b = (x, 0)) (hl : broadS x c = (l, 0)) (hu : broadS b c = (u, 0)) : broadS a u = (l, 0) := by
  obtain ⟨a1, b1, x1, z1⟩ := broadS_ok hx
  obtain ⟨_, c1, l1, z2⟩ := broadS_ok hl
  obtain ⟨_, _, u1, z3⟩ := broadS_ok hu
  refine broadS_of a1 u1 l1 ?_
  have lx : x.length = max a.length b.length := by
    rw [zipB_len _ _ _ (by rw [wideL_len _ _ (by omega), wideL_len _ _ (by omega)]) z1, wideL_len _ _ (by omega)]
  have lu : u.length = max b.length c.length := by
    rw [zipB_len _ _ _ (by rw [wideL_len _ _ (by omega), wideL_len _ _ (by omega)]) z3, wideL_len _ _ (by omega)]
  have em : max a.length u.length = max x.length c.length := by omega
  rw [em]
  have y1 := zipB_wide (m := max x.length c.length) (by omega) (by omega) (by omega) z1
  have y3 := zipB_wide (m := max x.length c.length) (by omega) (by omega) (by omega) z3
  exact zipB_assoc _ _ _ _ _ _ (by rw [wideL_len _ _ (by omega), wideL_len _ _ (by omega)]) (by rw [wideL_len _ _ (by omega), wideL_len _ _ (by omega)]) y1 y3 z2

end Go.Proofs.Ytpojamikfcmnoaa.X
-- by xprint.py, a program of this session, over the kit's print.py
namespace Go.Proofs.Ytpojamikfcmnoaa.X
open Go.RowKit Go.Proofs.YtpojamikfcmnoaaW.PrintWords Go.Proofs.YtpojamikfcmnoaaW.PrintLast Go.Proofs.YtpojamikfcmnoaaW.PrintMore
attribute [local go_sem] max2_int min2_int max_two min_two max_three min_three max_four min_four   -- for this text's walks alone
set_option linter.unusedVariables false
set_option linter.unusedSimpArgs false

/-! Places of a shape: plain Lean -/
theorem wrap64_nat {n : Nat} (h : n < 9223372036854775808) : wrap64 (n : Int) = (n : Int) := wrap64_id (by omega) (by omega)
theorem rd_mid (pre : List Int) (d : Int) (ds : List Int) (i : Int) (h : i = (pre.length : Int)) : rd (pre ++ d :: ds) i = d := by
  subst h; unfold rd; simp
theorem set_mid (pre : List Int) (d e : Int) (ds : List Int) (i : Int) (h : i = (pre.length : Int)) : (pre ++ d :: ds).set i.toNat e = pre ++ e :: ds := by
  subst h; simp
def backL : List Int → List Int → List Int
  | d :: ds, p :: ps => (if d = 1 then 0 else p) :: backL ds ps
  | [], ps => ps
  | _, [] => []
def placeR : List Int → Int → List Int → List Int
  | [], _, acc => acc
  | d :: ds, v, acc => if d > 0 then placeR ds (wrap64 (Int.tdiv v d)) (Int.tmod v d :: acc) else placeR ds v (0 :: acc)
def countL : List Int → List Int → Int → Int
  | d :: ds, p :: ps, n => countL ds ps (wrap64 (wrap64 (n * d) + p))
  | _, _, n => n
def prodL : List Int → List (List Int)
  | [] => [[]]
  | d :: ds => (List.range d.toNat).flatMap fun (i : Nat) => (prodL ds).map (fun p => (i : Int) :: p)
def numL : List Int → Nat
  | [] => 1
  | d :: ds => d.toNat * numL ds
def placesS (l : List Int) : List (List Int) := if 0 ∈ l then [] else prodL l
theorem numL_pos {l : List Int} (h : ∀ x ∈ l, 0 < x) : 0 < numL l := by
  induction l with
  | nil => exact Nat.one_pos
  | cons d ds ih =>
    have := h d (List.mem_cons_self ..)
    exact Nat.mul_pos (by omega) (ih fun x hx => h x (List.mem_cons_of_mem _ hx))
theorem flat_len {α : Type} (f : Nat → List α) (P : Nat) (hf : ∀ j, (f j).length = P) (n : Nat) : ((List.range n).flatMap f).length = n * P := by
  induction n with
  | zero => simp
  | succ n ih => rw [List.range_succ, List.flatMap_append, List.length_append, ih, List.flatMap_singleton, hf, Nat.succ_mul]
theorem flat_get {α : Type} (f : Nat → List α) (P : Nat) (hP : 0 < P) (hf : ∀ j, (f j).length = P) (n : Nat) : ∀ i, i < n * P → ((List.range n).flatMap f)[i]? = (f (i / P))[i % P]? := by
  induction n with
  | zero => intro i hi; omega
  | succ n ih =>
    intro i hi
    rw [Nat.succ_mul] at hi
    rw [List.range_succ, List.flatMap_append, List.flatMap_singleton]
    by_cases h : i < n * P
    · rw [List.getElem?_append_left (by rw [flat_len f P hf]; exact h), ih i h]
    · rw [List.getElem?_append_right (by rw [flat_len f P hf]; omega), flat_len f P hf]
      have e : i = (i - n * P) + P * n := by rw [Nat.mul_comm P n]; omega
      have hd : i / P = n := by rw [e, Nat.add_mul_div_left _ _ hP, Nat.div_eq_of_lt (by omega)]; omega
      have hm : i % P = i - n * P := by
        have := Nat.div_add_mod i P
        rw [hd, Nat.mul_comm] at this; omega
      rw [hd, hm]
theorem prodL_len (l : List Int) : (prodL l).length = numL l := by
  induction l with
  | nil => rfl
  | cons d ds ih =>
    rw [prodL, numL]
    exact flat_len _ _ (fun j => by rw [List.length_map, ih]) _
theorem prodL_get (d : Int) (ds : List Int) (h : ∀ x ∈ ds, 0 < x) (i : Nat) (hi : i < d.toNat * numL ds) : (prodL (d :: ds))[i]? = ((prodL ds)[i % numL ds]?).map (fun p => ((i / numL ds : Nat) : Int) :: p) := by
  rw [prodL, flat_get _ (numL ds) (numL_pos h) (fun j => by rw [List.length_map, prodL_len]) _ i hi, List.getElem?_map]
theorem prodL_width (l : List Int) : ∀ p ∈ prodL l, p.length = l.length := by
  induction l with
  | nil => intro p hp; rw [prodL, List.mem_singleton] at hp; subst hp; rfl
  | cons d ds ih =>
    intro p hp
    rw [prodL, List.mem_flatMap] at hp
    obtain ⟨i, _, hp⟩ := hp
    obtain ⟨q, hq, rfl⟩ := List.mem_map.1 hp
    rw [List.length_cons, List.length_cons, ih q hq]
/-- the place of a number, from behind -/
theorem placeR_prodL (ds : List Int) : (∀ x ∈ ds, 0 < x) → ∀ (rs : List Int) (v : Nat) (acc : List Int), v < 9223372036854775808 →
    ∃ p, (prodL ds)[v % numL ds]? = some p ∧ placeR (ds.reverse ++ rs) (v : Int) acc = placeR rs ((v / numL ds : Nat) : Int) (p ++ acc) := by
  induction ds with
  | nil =>
    intro _ rs v acc _
    refine ⟨[], ?_, ?_⟩
    · rw [numL, Nat.mod_one]; rfl
    · rw [numL, Nat.div_one]; rfl
  | cons d ds ih =>
    intro h rs v acc hv
    have hd := h d (List.mem_cons_self ..)
    have hds : ∀ x ∈ ds, 0 < x := fun x hx => h x (List.mem_cons_of_mem _ hx)
    have hP := numL_pos hds
    obtain ⟨p, e1, e2⟩ := ih hds (d :: rs) v acc hv
    obtain ⟨m, rfl⟩ : ∃ m : Nat, d = (m : Int) := ⟨d.toNat, by omega⟩
    have hm : 0 < m := by omega
    refine ⟨((v / numL ds % m : Nat) : Int) :: p, ?_, ?_⟩
    · have hlt : v % (m * numL ds) < m * numL ds := Nat.mod_lt _ (Nat.mul_pos hm hP)
      rw [numL, Int.toNat_natCast, prodL_get _ _ hds _ (by rw [Int.toNat_natCast]; exact hlt), Nat.mod_mul_left_mod, e1, Nat.mul_comm m, Nat.mod_mul_right_div_self]
      rfl
    · rw [List.reverse_cons, List.append_assoc, List.singleton_append, e2, placeR, if_pos hd]
      have hq : v / numL ds ≤ v := Nat.div_le_self _ _
      have hq2 : v / numL ds / m ≤ v / numL ds := Nat.div_le_self _ _
      have t1 : Int.tdiv ((v / numL ds : Nat) : Int) (m : Int) = ((v / numL ds / m : Nat) : Int) := rfl
      have t2 : Int.tmod ((v / numL ds : Nat) : Int) (m : Int) = ((v / numL ds % m : Nat) : Int) := rfl
      have t3 : wrap64 ((v / numL ds / m : Nat) : Int) = ((v / numL ds / m : Nat) : Int) := wrap64_nat (by omega)
      rw [t1, t2, t3, numL, Int.toNat_natCast, Nat.div_div_eq_div_mul, Nat.mul_comm m]
      rfl
/-- the number of a place -/
theorem countL_prodL (ds : List Int) : (∀ x ∈ ds, 0 < x) → ∀ (n r : Nat) (p : List Int), (prodL ds)[r]? = some p → n * numL ds + numL ds ≤ 1000000000 → countL ds p (n : Int) = ((n * numL ds + r : Nat) : Int) := by
  induction ds with
  | nil =>
    intro _ n r p hp _
    cases r with
    | zero =>
      obtain rfl : [] = p := by simpa [prodL] using hp
      rw [numL, Nat.mul_one]; rfl
    | succ r => simp [prodL] at hp
  | cons d ds ih =>
    intro h n r p hp hb
    have hd := h d (List.mem_cons_self ..)
    have hds : ∀ x ∈ ds, 0 < x := fun x hx => h x (List.mem_cons_of_mem _ hx)
    have hP := numL_pos hds
    obtain ⟨m, rfl⟩ : ∃ m : Nat, d = (m : Int) := ⟨d.toNat, by omega⟩
    have hr : r < m * numL ds := by
      have := (List.getElem?_eq_some_iff.1 hp).1
      rwa [prodL_len, numL, Int.toNat_natCast] at this
    rw [prodL_get _ _ hds _ (by rw [Int.toNat_natCast]; exact hr)] at hp
    obtain ⟨q, hq, rfl⟩ := Option.map_eq_some_iff.1 hp
    rw [numL, Int.toNat_natCast] at hb
    have hj : r / numL ds < m := Nat.div_lt_of_lt_mul (by rw [Nat.mul_comm]; exact hr)
    have h1 : (n * m + r / numL ds) * numL ds + numL ds ≤ n * (m * numL ds) + m * numL ds := by
      have : (r / numL ds + 1) * numL ds ≤ m * numL ds := Nat.mul_le_mul_right _ hj
      rw [Nat.add_mul, Nat.mul_assoc]; rw [Nat.add_mul, Nat.one_mul] at this; omega
    have h2 : n * m + r / numL ds ≤ (n * m + r / numL ds) * numL ds := Nat.le_mul_of_pos_right _ hP
    have h4 : n * (m * numL ds) + m * numL ds ≤ 1000000000 := hb
    have h3 : n * m + r / numL ds ≤ 1000000000 := Nat.le_trans h2 (Nat.le_trans (Nat.le_add_right _ _) (Nat.le_trans h1 h4))
    have h5 : n * m ≤ 1000000000 := Nat.le_trans (Nat.le_add_right _ _) h3
    have w1 : wrap64 ((n : Int) * (m : Int)) = ((n * m : Nat) : Int) := by rw [← Int.natCast_mul]; exact wrap64_nat (Nat.lt_of_le_of_lt h5 (by decide))
    have w2 : wrap64 (((n * m : Nat) : Int) + ((r / numL ds : Nat) : Int)) = ((n * m + r / numL ds : Nat) : Int) := by rw [← Int.natCast_add]; exact wrap64_nat (Nat.lt_of_le_of_lt h3 (by decide))
    rw [countL, w1, w2, ih hds _ _ _ hq (Nat.le_trans h1 h4), numL, Int.toNat_natCast]
    have := Nat.div_add_mod r (numL ds)
    rw [Nat.mul_comm] at this
    congr 1
    rw [Nat.add_mul, Nat.mul_assoc]; omega
theorem sizeL_num (l : List Int) : ∀ n : Int, (∀ x ∈ l, 0 < x ∧ x ≤ 65536) → 0 ≤ n → n ≤ 65537 → (sizeL l n false).2 = 0 → (sizeL l n false).1 = n * (numL l : Int) := by
  induction l with
  | nil =>
    intro n _ _ _ h
    rw [sizeL, if_neg (by simp)] at h ⊢
    by_cases hn : n > 65536
    · rw [if_pos hn] at h; cases h
    · rw [if_neg hn, numL]; simp
  | cons d l ih =>
    intro n hx h0 h1 h
    have hd := hx d (List.mem_cons_self ..)
    have hl : ∀ x ∈ l, 0 < x ∧ x ≤ 65536 := fun x g => hx x (List.mem_cons_of_mem _ g)
    have hb := (mul_cap h0 h1 (by omega) hd.2).1
    rw [sizeL, if_neg (by omega), if_neg (by omega)] at h ⊢
    by_cases hc : 65537 < n * d
    · rw [if_pos hc, sizeL_full l hl] at h; cases h
    · rw [if_neg hc] at h ⊢
      rw [ih (n * d) hl hb (by omega) h, numL, Int.natCast_mul, Int.mul_assoc]
      congr 2; omega
theorem sizeS_good {l : List Int} (h : (sizeS l).2 = 0) : l.length ≤ 8 ∧ (∀ x ∈ l, 0 ≤ x ∧ x ≤ 65536) ∧ (0 ∈ l ∨ (sizeS l).1 = (numL l : Int)) := by
  have h8 := sizeS_len h
  unfold sizeS at h ⊢
  rw [if_neg (by omega)] at h ⊢
  by_cases ha : l.any (fun x => decide (x < 0)) = true
  · rw [if_pos ha] at h; cases h
  · rw [if_neg ha] at h ⊢
    have h0 : ∀ x ∈ l, 0 ≤ x := by
      intro x hx
      by_cases g : x < 0
      · exact absurd (List.any_eq_true.2 ⟨x, hx, decide_eq_true g⟩) ha
      · omega
    have h1 : ∀ x ∈ l, x ≤ 65536 := by
      intro x hx
      by_cases g : x > 65536
      · rw [sizeL_great l 1 false ⟨x, hx, g⟩] at h; cases h
      · omega
    refine ⟨h8, fun x hx => ⟨h0 x hx, h1 x hx⟩, ?_⟩
    by_cases hz : 0 ∈ l
    · exact Or.inl hz
    · refine Or.inr ?_
      have := sizeL_num l 1 (fun x hx => ⟨by
        have := h0 x hx
        have : ¬ x = 0 := fun e => hz (e ▸ hx)
        omega, h1 x hx⟩) (by decide) (by decide) h
      rw [this, Int.one_mul]
theorem broadS_len {a b x : List Int} (h : broadS a b = (x, 0)) : x.length = max a.length b.length := by
  obtain ⟨_, _, _, z1⟩ := broadS_ok h
  rw [zipB_len _ _ _ (by rw [wideL_len _ _ (by omega), wideL_len _ _ (by omega)]) z1, wideL_len _ _ (by omega)]
theorem placesS_width {l : List Int} : ∀ p ∈ placesS l, p.length = l.length := by
  intro p hp
  unfold placesS at hp
  split at hp
  · cases hp
  · exact prodL_width l p hp
theorem placesS_at {l : List Int} (hp : ∀ x ∈ l, 0 ≤ x) (hn : 0 ∈ l ∨ numL l ≤ 400) (i : Nat) (p : List Int) (h : (placesS l)[i]? = some p) : placeR l.reverse (i : Int) [] = p ∧ countL l p 0 = (i : Int) ∧ i < 400 := by
  unfold placesS at h
  by_cases hz : 0 ∈ l
  · rw [if_pos hz] at h; cases h
  · rw [if_neg hz] at h
    have hn : numL l ≤ 400 := hn.resolve_left hz
    have hx : ∀ x ∈ l, 0 < x := fun x hx => by
      have := hp x hx
      have : ¬ x = 0 := fun e => hz (e ▸ hx)
      omega
    have hi : i < numL l := by
      have := (List.getElem?_eq_some_iff.1 h).1
      rwa [prodL_len] at this
    obtain ⟨q, h1, h2⟩ := placeR_prodL l hx [] i [] (by omega)
    rw [Nat.mod_eq_of_lt hi, h] at h1
    cases h1
    rw [List.append_nil] at h2
    refine ⟨by rw [h2, placeR, List.append_nil], ?_, by omega⟩
    have := countL_prodL l hx 0 i p h (by omega)
    rw [Nat.zero_mul, Nat.zero_add] at this
    exact this
theorem placesS_len {l : List Int} (hn : 0 ∈ l ∨ numL l ≤ 400) : (placesS l).length ≤ 400 := by
  unfold placesS
  by_cases hz : 0 ∈ l
  · rw [if_pos hz]; simp
  · rw [if_neg hz, prodL_len]; exact hn.resolve_left hz

end Go.Proofs.Ytpojamikfcmnoaa.X
