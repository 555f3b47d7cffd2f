import Derived.Test.YtgmggompdidcoaaGreatDoorMPbtensorWrites2
import Derived.Test.YtgmggompdidcoaaGreatDoorMPbtensorWrites13
import Derived.Test.YtgmggompdidcoaaGreatDoorMPbtensorWrites5
import Derived.Test.YtgmggompdidcoaaGreatDoorMPbtensorWrites4
import Derived.Test.YtgmggompdidcoaaGreatDoorMPbtensorWrites11
import Derived.Test.YtgmggompdidcoaaGreatDoorMPbtensorWrites8
import Derived.Test.YtgmggompdidcoaaGreatDoorMPbtensorWrites14
import Derived.Test.YtgmggompdidcoaaGreatDoorMPbtensorWrites3
import Derived.Test.YtgmggompdidcoaaGreatDoorMPbtensorWrites9
import Derived.WalkLawsBesides
import Derived.Shelf.Strings.Builder1
import Derived.Deep.RegionHeld3
namespace Go.Proofs.YtgmggompdidcoaaGreatDoor.X
open Go.RowKit Go.Proofs.YtgmggompdidcoaaGreatDoorW.PrintWords Go.Proofs.YtgmggompdidcoaaGreatDoorW.PrintLast Go.Proofs.YtgmggompdidcoaaGreatDoorW.PrintMore
attribute [local go_sem] max2_int min2_int max_two min_two max_three min_three max_four min_four
set_option linter.unusedVariables false
set_option linter.unusedSimpArgs false
def fldsT (name : ByteArray) (kind : Int) (dims : List Int) (data : ByteArray) : List S95 :=
  (if dims = [] then [] else [⟨1, 2, 0, catS dims⟩]) ++ [⟨2, 0, kind, ⟨#[]⟩⟩, ⟨8, 2, 0, name⟩, ⟨9, 2, 0, data⟩]
structure TenOk (name : ByteArray) (kind : Int) (dims : List Int) (data : ByteArray) : Prop where
  chk : chkR name kind dims data = 0
  n : name.size ≤ 1000
  d : data.size ≤ 10000
  l : dims.length ≤ 100
  r : ∀ x ∈ dims, inRc x
theorem TenOk.name {a : ByteArray} {k : Int} {l : List Int} {d : ByteArray} (h : TenOk a k l d) : nameR a = true := by
  have h1 := h.chk
  unfold chkR at h1
  by_cases c : nameR a = true
  · exact c
  · rw [if_neg c] at h1; exact absurd h1 (by decide)
theorem TenOk.kind {a : ByteArray} {k : Int} {l : List Int} {d : ByteArray} (h : TenOk a k l d) : sizeK k ≠ 0 := by
  have h1 := h.chk
  unfold chkR at h1
  rw [if_pos h.name] at h1
  intro c
  rw [if_pos c] at h1
  exact absurd h1 (by decide)
theorem TenOk.kindR {a : ByteArray} {k : Int} {l : List Int} {d : ByteArray} (h : TenOk a k l d) : 0 ≤ k ∧ k ≤ 14 := by
  have h1 := h.kind
  unfold sizeK at h1
  by_cases c1 : k = 1
  · omega
  · by_cases c2 : k = 2
    · omega
    · by_cases c3 : k = 7
      · omega
      · by_cases c4 : k = 9
        · omega
        · by_cases c5 : k = 14
          · omega
          · rw [if_neg c1, if_neg c2, if_neg c3, if_neg c4, if_neg c5] at h1; exact absurd rfl h1
theorem TenOk.size {a : ByteArray} {k : Int} {l : List Int} {d : ByteArray} (h : TenOk a k l d) : (sizeS l).2 = 0 := by
  have h1 := h.chk
  unfold chkR at h1
  rw [if_pos h.name, if_neg h.kind] at h1
  by_cases c : (sizeS l).2 = 0
  · exact c
  · rw [if_neg c] at h1; exact h1
theorem mayT (num : Int) (h0 : 1 ≤ num) (h1 : num ≤ 100) (s : ByteArray) (hs : s.size ≤ 140737488351232) : mayF (⟨num, 2, 0, s⟩ : S95) ∧ (0 : Int) ≤ 0 ∧ (0 : Int) < 18446744073709551616 ∧ s.size ≤ 140737488351232 :=
  ⟨⟨h0, by show num ≤ _; omega, .inr (.inr (.inl rfl)), fun g => absurd (show (2 : Int) = 5 from g) (by decide)⟩, Int.le_refl 0, by decide, hs⟩
theorem mayN (num k : Int) (h0 : 1 ≤ num) (h1 : num ≤ 100) (hk : 0 ≤ k ∧ k ≤ 14) : mayF (⟨num, 0, k, ⟨#[]⟩⟩ : S95) ∧ 0 ≤ k ∧ k < 18446744073709551616 ∧ (⟨#[]⟩ : ByteArray).size ≤ 140737488351232 :=
  ⟨⟨h0, by show num ≤ _; omega, .inl rfl, fun g => absurd (show (0 : Int) = 5 from g) (by decide)⟩, hk.1, by omega, by show (0 : Nat) ≤ _; decide⟩
theorem catS_few : ∀ (part : List Int), part.length ≤ (catS part).size
  | [] => Nat.le_refl 0
  | n :: l => by
    have := catS_few l
    have hp := vSize_pos (IntKind.u64.wrap n).toNat
    rw [catS, ByteArray.size_append, vStr_size, List.length_cons]
    omega
theorem flds_may {a : ByteArray} {k : Int} {l : List Int} {d : ByteArray} (h : TenOk a k l d) : ∀ x ∈ fldsT a k l d, mayF x ∧ 0 ≤ x.f2 ∧ x.f2 < 18446744073709551616 ∧ x.f3.size ≤ 140737488351232 := by
  have hk := h.kindR
  have hn := h.n
  have hd := h.d
  have hc := catS_size l
  have hl := h.l
  have h0 : (⟨#[]⟩ : ByteArray).size = 0 := rfl
  intro x hx
  unfold fldsT at hx
  rcases List.mem_append.1 hx with hx | hx
  · by_cases e : l = []
    · rw [if_pos e] at hx; cases hx
    · rw [if_neg e] at hx
      obtain rfl := List.mem_singleton.1 hx
      exact mayT 1 (by decide) (by decide) _ (by omega)
  · rcases List.mem_cons.1 hx with e | hx
    · subst e; exact mayN 2 k (by decide) (by decide) hk
    · rcases List.mem_cons.1 hx with e | hx
      · subst e; exact mayT 8 (by decide) (by decide) _ (by omega)
      · obtain rfl := List.mem_singleton.1 hx
        exact mayT 9 (by decide) (by decide) _ (by omega)
theorem flds_back {a : ByteArray} {k : Int} {l : List Int} {d : ByteArray} : ((fldsT a k l d).map fieldOf).map toP = fldsT a k l d := by
  unfold fldsT
  by_cases e : l = []
  · rw [if_pos e]; rfl
  · rw [if_neg e]; rfl
theorem laidF_size {l : List S95} (h : ∀ x ∈ l, mayF x ∧ 0 ≤ x.f2 ∧ x.f2 < 18446744073709551616 ∧ x.f3.size ≤ 140737488351232) (B : Nat) (hB : ∀ x ∈ l, x.f3.size ≤ B) : (laidF l).size ≤ l.length * (20 + B) := by
  induction l with
  | nil => exact Nat.zero_le _
  | cons x l ih =>
    have h1 := h x (List.mem_cons_self ..)
    have h2 := bytes_size x h1.2.1 h1.2.2.1 h1.2.2.2
    have h3 := ih (fun y hy => h y (List.mem_cons_of_mem _ hy)) (fun y hy => hB y (List.mem_cons_of_mem _ hy))
    have h4 := hB x (List.mem_cons_self ..)
    rw [laidF, ByteArray.size_append, List.length_cons, Nat.succ_mul]
    omega
theorem flds_size {a : ByteArray} {k : Int} {l : List Int} {d : ByteArray} (h : TenOk a k l d) : (laidF (fldsT a k l d)).size ≤ 100000 := by
  have h1 := laidF_size (flds_may h) 10000 (by
    have hn := h.n
    have hd := h.d
    have hc := catS_size l
    have hl := h.l
    have h0 : (⟨#[]⟩ : ByteArray).size = 0 := rfl
    intro x hx
    unfold fldsT at hx
    rcases List.mem_append.1 hx with hx | hx
    · by_cases e : l = []
      · rw [if_pos e] at hx; cases hx
      · rw [if_neg e] at hx
        obtain rfl := List.mem_singleton.1 hx
        show (catS l).size ≤ _; omega
    · rcases List.mem_cons.1 hx with e | hx
      · subst e; show (⟨#[]⟩ : ByteArray).size ≤ _; omega
      · rcases List.mem_cons.1 hx with e | hx
        · subst e; show a.size ≤ _; omega
        · obtain rfl := List.mem_singleton.1 hx
          show d.size ≤ _; omega)
  have h2 : (fldsT a k l d).length ≤ 4 := by
    unfold fldsT
    by_cases e : l = []
    · rw [if_pos e]; show 3 ≤ 4; decide
    · rw [if_neg e]; exact Nat.le_refl 4
  have h3 := Nat.mul_le_mul_right (20 + 10000) h2
  omega
theorem flds_read {a : ByteArray} {k : Int} {l : List Int} {d : ByteArray} (h : TenOk a k l d) : fieldsS (laidF (fldsT a k l d)) = ((fldsT a k l d).map fieldOf, 0) := by
  have hs := flds_size h
  unfold fieldsS
  rw [if_neg (by omega)]
  exact fieldsF_laid _ (flds_may h) _ (laidF_len _ (fun x hx => (flds_may h x hx).1))
theorem apart_laid {a : ByteArray} {k : Int} {l : List Int} {d : ByteArray} (h : TenOk a k l d) : apartS (laidF (fldsT a k l d)) = (⟨a, k, l, d, [], [], true, [], 0, (sizeS l).1⟩, 0) := by
  have hk := h.kindR
  have hw : wrap64 k = k := by unfold wrap64; omega
  unfold apartS
  rw [flds_read h, if_neg (by simp), flds_back]
  have e2 : ((fldsT a k l d).filter fun x => x.f0 == 2).getLast? = some ⟨2, 0, k, ⟨#[]⟩⟩ := by
    unfold fldsT; by_cases e : l = []
    · rw [if_pos e]; rfl
    · rw [if_neg e]; rfl
  have e8 : ((fldsT a k l d).filter fun x => x.f0 == 8).getLast? = some ⟨8, 2, 0, a⟩ := by
    unfold fldsT; by_cases e : l = []
    · rw [if_pos e]; rfl
    · rw [if_neg e]; rfl
  have e9 : ((fldsT a k l d).filter fun x => x.f0 == 9).getLast? = some ⟨9, 2, 0, d⟩ := by
    unfold fldsT; by_cases e : l = []
    · rw [if_pos e]; rfl
    · rw [if_neg e]; rfl
  have e14 : ((fldsT a k l d).filter fun x => x.f0 == 14).getLast? = none := by
    unfold fldsT; by_cases e : l = []
    · rw [if_pos e]; rfl
    · rw [if_neg e]; rfl
  have i5 : ((fldsT a k l d).filter fun x => x.f0 == 5) = [] := by
    unfold fldsT; by_cases e : l = []
    · rw [if_pos e]; rfl
    · rw [if_neg e]; rfl
  have i7 : ((fldsT a k l d).filter fun x => x.f0 == 7) = [] := by
    unfold fldsT; by_cases e : l = []
    · rw [if_pos e]; rfl
    · rw [if_neg e]; rfl
  have i13 : ((fldsT a k l d).filter fun x => x.f0 == 13) = [] := by
    unfold fldsT; by_cases e : l = []
    · rw [if_pos e]; rfl
    · rw [if_neg e]; rfl
  have i1 : intsL (((fldsT a k l d).filter fun x => x.f0 == 1).map flP) [] = (l, 0) := by
    unfold fldsT; by_cases e : l = []
    · rw [if_pos e, e]; rfl
    · rw [if_neg e]
      show intsL [((1 : Int), (2 : Int), (0 : Int), catS l)] [] = _
      have hl := h.l
      have hp : packedF (catS l).size [] (catS l) = ([] ++ l, 0) := packed_catc l _ [] (catS_few l) (by simp; omega) h.r
      rw [intsL, if_neg (show ¬ (2 : Int) = 0 from by decide), if_pos (show (2 : Int) = 2 from rfl)]
      show (if (packedF (catS l).size [] (catS l)).2 ≠ 0 then _ else intsL [] (packedF (catS l).size [] (catS l)).1) = _
      rw [hp, if_neg (by simp), intsL]; rfl
  rw [e2, e8, e9, e14]
  unfold apartU
  simp only [lastTup, lastE, if_true, if_false]
  unfold apartV
  rw [i1, i5, i7, i13]
  unfold apartW
  simp only [List.map_nil, intsL, textsL, rowsE]
  unfold apartY
  simp only [Int.natCast_zero, if_true, ne_eq, not_true_eq_false, if_false]
  rw [if_pos (show k ≤ 1048576 by omega), hw]
  unfold apartX
  rw [if_neg (by decide), h.name, if_neg (by simp), if_neg h.kind, h.size]
  exact if_neg (by simp)
theorem putS_size (l : List Int) (h : l.length ≤ 100) : (putS 1 l).size ≤ 1100 := by
  have hc := catS_size l
  unfold putS
  by_cases e : l = []
  · rw [if_pos e]; exact Nat.zero_le _
  · rw [if_neg e]
    have := bytes_size (⟨1, 2, 0, catS l⟩ : S95) (Int.le_refl 0) (show (0 : Int) < 18446744073709551616 by decide) (by show (catS l).size ≤ _; omega)
    dsimp only at this
    omega
theorem flds_put (a : ByteArray) (k : Int) (l : List Int) (d : ByteArray) : putS 1 l ++ bytesS 2 0 k ⟨#[]⟩ ++ bytesS 8 2 0 a ++ bytesS 9 2 0 d = laidF (fldsT a k l d) := by
  have hn : ∀ x : ByteArray, x ++ (⟨#[]⟩ : ByteArray) = x := fun x => ns_inj (by rw [ns_append]; exact List.append_nil _)
  have hz : ∀ x : ByteArray, (⟨#[]⟩ : ByteArray) ++ x = x := fun x => ns_inj (by rw [ns_append]; rfl)
  unfold fldsT putS
  by_cases e : l = []
  · rw [if_pos e, if_pos e, hz, List.nil_append, laidF, laidF, laidF, laidF]
    dsimp only
    rw [hn, ByteArray.append_assoc]
  · rw [if_neg e, if_neg e, List.cons_append, List.nil_append, laidF, laidF, laidF, laidF, laidF]
    dsimp only
    rw [hn, ByteArray.append_assoc, ByteArray.append_assoc]
structure PutB (a : ByteArray) (k : Int) (l : List Int) (d : ByteArray) : Prop where
  w : IntKind.u64.wrap k = k
  p : (putS 1 l).size ≤ 1100
  n : (bytesS 2 0 k ⟨#[]⟩).size ≤ 20
  t : (bytesS 8 2 0 a).size ≤ 1020
  r : (bytesS 9 2 0 d).size ≤ 10020
theorem putB {a : ByteArray} {k : Int} {l : List Int} {d : ByteArray} (h : TenOk a k l d) : PutB a k l d := by
  have hk := h.kindR
  have hn := h.n
  have hd := h.d
  have h0 : (⟨#[]⟩ : ByteArray).size = 0 := rfl
  refine ⟨by rw [u64_wrap]; omega, putS_size l h.l, ?_, ?_, ?_⟩
  · have := bytes_size (⟨2, 0, k, ⟨#[]⟩⟩ : S95) hk.1 (by show k < _; omega) (by show (0 : Nat) ≤ _; decide)
    dsimp only at this; omega
  · have := bytes_size (⟨8, 2, 0, a⟩ : S95) (Int.le_refl 0) (show (0 : Int) < 18446744073709551616 by decide) (by show a.size ≤ _; omega)
    dsimp only at this; omega
  · have := bytes_size (⟨9, 2, 0, d⟩ : S95) (Int.le_refl 0) (show (0 : Int) < 18446744073709551616 by decide) (by show d.size ≤ _; omega)
    dsimp only at this; omega
theorem tput_f {a : ByteArray} {k : Int} {l : List Int} {d : ByteArray} (h : TenOk a k l d) : pbtensor_Put.f a k l d = some (laidF (fldsT a k l d), 0) := by
  have hB := putB h
  have hk := h.kindR
  have hn := h.n
  have hd := h.d
  have hl := h.l
  have h0 : (⟨#[]⟩ : ByteArray).size = 0 := rfl
  have c1 : tensor_Tensor_Check_s.f a k l d = some 0 := (if_pos ⟨by omega, by omega⟩).trans (by rw [h.chk])
  have c2 : pack_Put.f 1 l = some (putS 1 l) := if_pos ⟨by decide, by decide, by omega⟩
  have c3 : wire_Number_s.f 2 k = some (bytesS 2 0 k ⟨#[]⟩) := if_pos ⟨by decide, by decide, by decide, by decide, hk.1, by omega, by omega⟩
  have c4 : wire_Text_s.f 8 a = some (bytesS 8 2 0 a) := if_pos ⟨by decide, by decide, by decide, by decide, by decide, by decide, by omega⟩
  have c5 : wire_Text_s.f 9 d = some (bytesS 9 2 0 d) := if_pos ⟨by decide, by decide, by decide, by decide, by decide, by decide, by omega⟩
  obtain ⟨b0, b1, b2, b3, b4⟩ := hB
  unfold pbtensor_Put.f
  rw [c1, Option.bind_some, if_pos rfl, c2, Option.bind_some, b0, c3, Option.bind_some, if_pos (by omega), c4, Option.bind_some, if_pos (by rw [ByteArray.size_append]; omega), c5, Option.bind_some, if_pos (by rw [ByteArray.size_append, ByteArray.size_append]; omega), flds_put]
theorem refPut_f {a : ByteArray} {k : Int} {l : List Int} {d : ByteArray} (h : TenOk a k l d) : agateref09_Put.f a k l d = some (laidF (fldsT a k l d)) := by
  have hB := putB h
  have hk := h.kindR
  have hn := h.n
  have hd := h.d
  have hl := h.l
  have h0 : (⟨#[]⟩ : ByteArray).size = 0 := rfl
  have c2 : agateref03_Put_s.f 1 l = some (putS 1 l) := if_pos ⟨by decide, by decide, by omega⟩
  have c3 : agateref02_Number_s.f 2 k = some (bytesS 2 0 k ⟨#[]⟩) := if_pos ⟨by decide, by decide, by decide, by decide, hk.1, by omega, by omega⟩
  have c4 : agateref02_Text_s.f 8 a = some (bytesS 8 2 0 a) := if_pos ⟨by decide, by decide, by decide, by decide, by decide, by decide, by omega⟩
  have c5 : agateref02_Text_s.f 9 d = some (bytesS 9 2 0 d) := if_pos ⟨by decide, by decide, by decide, by decide, by decide, by decide, by omega⟩
  obtain ⟨b0, b1, b2, b3, b4⟩ := hB
  unfold agateref09_Put.f
  rw [c2, Option.bind_some, b0, c3, Option.bind_some, if_pos (by omega), c4, Option.bind_some, if_pos (by rw [ByteArray.size_append]; omega), c5, Option.bind_some, if_pos (by rw [ByteArray.size_append, ByteArray.size_append]; omega), flds_put]
theorem tput_bad {a : ByteArray} {k : Int} {l : List Int} {d : ByteArray} (ha : a.size ≤ 1000) (hd : d.size ≤ 10000) (h : chkR a k l d ≠ 0) : pbtensor_Put.f a k l d = some (⟨#[]⟩, chkR a k l d) := by
  have c1 : tensor_Tensor_Check_s.f a k l d = some (chkR a k l d) := if_pos ⟨by omega, by omega⟩
  unfold pbtensor_Put.f
  rw [c1, Option.bind_some, if_neg h]
def slices_Clone_int64.f (l0 : List Int) : Option (List Int) := if l0.length < 17592186044416 then some l0 else none
set_option maxHeartbeats 8000000 in
set_option maxRecDepth 100000 in
theorem slices_Clone_int64.calls (A0 : Option Addr) (c0 : Nat) (l0 : List Int) (r : List Int) (w : World) (hr0 : Kd.C (Kd.int .i64) w A0 l0.length l0) (hc0 : l0.length ≤ c0) (h : slices_Clone_int64.f l0 = some r) :
    Calls Tryz.prog 80 #[.slice A0 l0.length c0] w fun e w' => ∃ v0_ : Value, e = .returned (v0_) ∧ Kd.R (Kd.int .i64) 2 w' w.heap.size (fun k_ => w.heap.size ≤ k_) v0_ r ∧ Below w.heap.size w w' := by
  unfold slices_Clone_int64.f at h
  by_cases hl : l0.length < 17592186044416
  · rw [if_pos hl] at h
    obtain rfl := Option.some.inj h
    have LM := Aside0.mk hl
    have HR0 := Aside0.mk hr0
    have HB := Aside0.mk (Below.refl w.heap.size w)
    have q0 : ∀ w, (binOp .eql 31 (.slice A0 l0.length c0) (.slice none 0 0)).run Tryz.prog w = .ok (.bool A0.isNone) w := fun w => Lib.run_eql_slice_nil w 31 2 A0 l0.length c0 0 0 Tryz.underlying31
    clear h hl hr0
    cases A0 with
    | none =>
      have hn : l0 = [] := by
        rcases Nat.eq_zero_or_pos l0.length with h0 | h0
        · exact List.eq_nil_of_length_eq_zero h0
        · exfalso
          obtain ⟨ad, h1, _⟩ := (Kd.reads_of_C (enc := Value.int .i64) (d := (0 : Int)) (h1 := fun _ => rfl) HR0.out).2.2 h0
          cases h1
      have Hn := Aside0.mk hn
      clear hn
      have q1 : ∀ w, (binOp .eql 31 (.slice none l0.length c0) (.slice none 0 0)).run Tryz.prog w = .ok (.bool true) w := fun w => q0 w
      clear q0
      go_enter Tryz.func80, Tryz.ntmps80
      go_wp2
      go_ret
      exact ⟨_, rfl, by rw [Hn.out]; exact Kd.R_nil _ _ _ _ _, Below.refl _ _⟩
    | some ad =>
      have q1 : ∀ w, (binOp .eql 31 (.slice (some ad) l0.length c0) (.slice none 0 0)).run Tryz.prog w = .ok (.bool false) w := fun w => q0 w
      clear q0
      go_enter Tryz.func80, Tryz.ntmps80
      go_wp2_with (first | ((with_reducible refine gate_dst (N := 5) rfl ?_); refine Kd.R_lit (Kd.int .i64) _ 2 ?hg (N := 5) ?hd (xs := ([] : List Int)) (inner := []) (ok := fun k_ => w.heap.size ≤ k_) (okp := fun k_ => w.heap.size ≤ k_) ?hr ?hp (fun _ hk => hk) (Nat.le_refl _) (Below.refl _ _) (Nat.le_refl _) (by simp) ?_; (case hd => rfl); (case hg => rfl); (case hr => first | (go_simp; done) | (go_simp; rfl)); (case hp => exact (Reps.none _ _)); intro v102 w7 ho8 hb hg_ hnew_; clear hg_ hnew_; have n0_ := Aside0.mk (Kd.R_lower ho8 (below_size HB.out)); have n1_ := Aside0.mk (below_step HB.out hb); clear HB; have HO103 := n0_; have HB := n1_; clear n0_ n1_; clear hb ho8) | ((with_reducible refine gate_builtin (b := .append) (xs := #[.tmp 5, .tmp 6]) rfl ?_); at_builtin; refine Kd.R_append_rows (Kd.int .i64) (w0 := w) w.heap.size rfl (.tmp 5) (.tmp 6) 31 2 (.int .i64 0) 8 rfl Tryz.underlying31 info2 rfl (by decide) (by omega) v102 [] l0 _ _ _ (fun k_ => w.heap.size ≤ k_) (fun _ => False) rfl rfl ?aO ?aR (fun _ _ h => h) (fun _ h => h.elim) ?aF ?aB ?aS ?aL ?_; (case aR => exact (Kd.C_below HR0.out HB.out)); (case aB => exact HB.out); (case aF => exact (fun _ h => Nat.le_trans (below_size HB.out) h)); (case aO => exact HO103.out); (case aS => exact (below_size HB.out)); (case aL => have := LM.out; simp; omega); intro v106 w10 ho hb hg hat; have n0_ := Aside0.mk (hb); have n1_ := Aside0.mk (ho); clear HB; clear HO103; have HB := n0_; have HO107 := n1_; clear n0_ n1_; clear ho hb hg hat))
      go_ret
      exact ⟨_, rfl, HO107.out, HB.out⟩
  · rw [if_neg hl] at h; cases h
theorem builder_lies {B b : Nat} {l : List UInt8} {w : World} (h : Lib.IsBuilder 128 5 B b (Lib.byteCells l) w) (h0 : l ≠ []) :
    ∃ p g cap cur, B ≤ g ∧ g < w.heap.size ∧ b < w.heap.size ∧ w.heap[b]? = some (.cells #[p, .slice (some ⟨g, 0, none⟩) l.length cap] 128 (0, 0)) ∧ w.heap[g]? = some (.cells cur 5 (0, 0)) ∧ l.length ≤ cap ∧ cap ≤ maxLen ∧ cur.size = cap ∧ cur.toList.take l.length = Lib.byteCells l := by
  obtain ⟨p, hB, v, hbk, hown, hne⟩ : ∃ p, Lib.BuilderAt 128 5 B b p (Lib.byteCells l) w := by
    rcases h with h | h
    · exact ⟨_, h⟩
    · exact ⟨_, h⟩
  have hl0 : l.length ≠ 0 := by simpa using h0
  rw [Lib.byteCells_length] at hown
  rcases hown.2 with ⟨_, hz⟩ | ⟨g, cap, cur, rfl, hbg, hg, hnc, hcm, hcs, ht⟩
  · exact absurd hz hl0
  · rw [Nat.mul_one] at hcs ht
    exact ⟨p, g, cap, cur, hbg, blk_lt hg, blk_lt hbk, hbk, hg, hnc, hcm, hcs, ht⟩
theorem byte_cell {l : List UInt8} {cur : Array Value} {w : World} {g : Nat} (hg : w.heap[g]? = some (.cells cur 5 (0, 0))) (ht : cur.toList.take l.length = Lib.byteCells l) : ∀ j x, l[j]? = some x → w.cell? ((⟨g, 0, none⟩ : Addr).add j) = some (.int .u8 x.toNat) := by
  intro j x hx
  have hj : j < l.length := (List.getElem?_eq_some_iff.1 hx).1
  have h1 : (Lib.byteCells l)[j]? = some (.int .u8 x.toNat) := by simp [Lib.byteCells, hx]
  rw [← ht, List.getElem?_take] at h1
  rw [if_pos hj, Array.getElem?_toList] at h1
  have h2 : w.cell? ⟨g, j, none⟩ = cur[j]? := blk_cell hg j
  rw [← h1, ← h2]
  unfold Addr.add
  split
  · rename_i h0; subst h0; rfl
  · simp
theorem freeze_kept (w : World) (g n : Nat) : Kept w (w.drew.freeze ⟨g, 0, none⟩ n) (fun k => k = g) := by
  unfold World.freeze
  split
  · exact ⟨Nat.le_refl _, fun _ _ _ => rfl⟩
  · refine ⟨by show w.heap.size ≤ (w.heap.modify _ _).size; rw [Array.size_modify]; exact Nat.le_refl _, fun i hi hne => ?_⟩
    show (w.heap.modify g _)[i]? = _
    rw [Array.getElem?_modify]
    rw [if_neg (fun e => hne e.symm)]
set_option maxHeartbeats 4000000 in
set_option maxRecDepth 100000 in
theorem sh_String.calls (b g cap : Nat) (p : Value) (cur : Array Value) (l : List UInt8) (w : World) (h0 : l ≠ []) (hb : w.heap[b]? = some (.cells #[p, .slice (some ⟨g, 0, none⟩) l.length cap] 128 (0, 0))) (hg : w.heap[g]? = some (.cells cur 5 (0, 0))) (hnc : l.length ≤ cap) (hcm : cap ≤ maxLen) (hcs : cur.size = cap) (ht : cur.toList.take l.length = Lib.byteCells l) :
    Calls Tryz.prog 73 #[.pointer (some ⟨b, 0, none⟩)] w fun e w' => e = .returned (.string ⟨l.toArray⟩) ∧ w' = w.drew.freeze ⟨g, 0, none⟩ l.length := by
  have hl0 : l.length ≠ 0 := by simpa using h0
  have c1 : w.drew.cell? ⟨b, 1, none⟩ = some (.slice (some ⟨g, 0, none⟩) l.length cap) := (blk_cell (w := w.drew) hb 1).trans rfl
  have q1 : (Builtin.unsafeSliceData_ #[80] 159 #[.slice (some ⟨g, 0, none⟩) l.length cap]).run Tryz.prog w.drew = .ok (.pointer (some ⟨g, 0, none⟩)) w.drew :=
    Lib.run_unsafeSliceData_row _ _ _ _ _ _ (by omega)
  have q2 : (Builtin.unsafeString_ #[159, 3] 9 #[.pointer (some ⟨g, 0, none⟩), .int .i64 l.length]).run Tryz.prog w.drew = .ok (.string ⟨l.toArray⟩) (w.drew.freeze ⟨g, 0, none⟩ l.length) :=
    Lib.run_unsafeString_row w.drew 159 3 9 5 Tryz.underlying159 (by kernel_rfl) g cur.size (by have hg' : w.drew.heap[g]? = some (.cells cur 5 (0, 0)) := hg; simp [World.shape?, hg']) l h0 (by omega) (by unfold maxLen at hcm; omega) (byte_cell (w := w.drew) hg ht)
  have hne : b ≠ g := blk_ne hb hg (by decide)
  have q3 : (w.drew.freeze ⟨g, 0, none⟩ l.length).cell? ⟨b, 1, none⟩ = some (.slice (some ⟨g, 0, none⟩) l.length cap) := (blk_cell (((freeze_kept w g l.length).2 b (blk_lt hb) hne).trans hb) 1).trans rfl
  clear hb hg hcs ht hnc hcm hne
  go_enter Tryz.func73, Tryz.ntmps73
  go_wp2
  go_region_held3 (fun w' => w'.cell? ⟨b, 1, none⟩ = some (.slice (some ⟨g, 0, none⟩) l.length cap)) (go_keep) (first | (fail))
  all_goals (go_wp2; go_ret; exact ⟨rfl, rfl⟩)
def by8 (n : Int) (j : Nat) : Int := IntKind.u64.wrap n / 256 ^ j % 256
def laid8 (n : Int) : ByteArray := strOfNums [by8 n 0, by8 n 1, by8 n 2, by8 n 3, by8 n 4, by8 n 5, by8 n 6, by8 n 7]
def arr8 (n : Int) (i : Nat) : Array Value := #[.int .u8 (if 0 < i then by8 n 0 else 0), .int .u8 (if 1 < i then by8 n 1 else 0), .int .u8 (if 2 < i then by8 n 2 else 0), .int .u8 (if 3 < i then by8 n 3 else 0), .int .u8 (if 4 < i then by8 n 4 else 0), .int .u8 (if 5 < i then by8 n 5 else 0), .int .u8 (if 6 < i then by8 n 6 else 0), .int .u8 (if 7 < i then by8 n 7 else 0)]
theorem arr8_string (n : Int) {W : World} {g : Nat} (h : W.heap[g]? = some (.cells (arr8 n 8) 142 (0, 0))) : (convert 80 9 (.slice (some ⟨g, 0, none⟩) 8 8)).run Tryz.prog W = .ok (.string (laid8 n)) W := by
  refine string_of_reads Tryz.underlying80 Tryz.underlying5 Tryz.underlying9 ⟨rfl, by decide, fun _ => ⟨_, rfl, ?_⟩⟩
  intro j hj
  have hc : ∀ i, W.cell? ⟨g, i, none⟩ = (arr8 n 8)[i]? := fun i => blk_cell h i
  have : j = 0 ∨ j = 1 ∨ j = 2 ∨ j = 3 ∨ j = 4 ∨ j = 5 ∨ j = 6 ∨ j = 7 := by omega
  rcases this with rfl | rfl | rfl | rfl | rfl | rfl | rfl | rfl <;> simp [Addr.add, hc, arr8]
set_option maxHeartbeats 8000000 in
theorem tensor_laid.calls (n : Int) (w : World) :
    Calls Tryz.prog 44 #[.int .i64 n] w fun e w' => e = .returned (.string (laid8 n)) ∧ Below w.heap.size w w' := by
  go_enter Tryz.func44, Tryz.ntmps44
  go_wp2
  have HBk := Aside0.mk (show (w.alloc (Obj.cells #[.int .u8 0, .int .u8 0, .int .u8 0, .int .u8 0, .int .u8 0, .int .u8 0, .int .u8 0, .int .u8 0] 142)).heap[w.heap.size]? = some (.cells (arr8 n 0) 142 (0, 0)) from blk_new w _)
  have HB := Aside0.mk (below_alloc (Below.refl w.heap.size w) (Obj.cells #[.int .u8 0, .int .u8 0, .int .u8 0, .int .u8 0, .int .u8 0, .int .u8 0, .int .u8 0, .int .u8 0] 142))
  go_loopg [5] 8 (fun kq v5 w' => ∃ i : Nat, v5 = .int .i64 i ∧ Aside0 (i + kq = 8) ∧ i ≤ 8 ∧ Aside0 (w'.heap[w.heap.size]? = some (.cells (arr8 n i) 142 (0, 0))) ∧ Aside0 (Below w.heap.size w w'))
  case atStart => exact ⟨0, rfl, ⟨by omega⟩, Nat.zero_le _, HBk, HB⟩
  case round =>
    clear HBk HB
    obtain ⟨i, rfl, HK, hi, HBk, HB⟩ := hrel
    have h5 : i = 0 ∨ i = 1 ∨ i = 2 ∨ i = 3 ∨ i = 4 ∨ i = 5 ∨ i = 6 ∨ i = 7 ∨ i = 8 := by omega
    rcases h5 with rfl | rfl | rfl | rfl | rfl | rfl | rfl | rfl | rfl
    · obtain ⟨kk, rfl⟩ : ∃ m, gk = m + 1 := ⟨gk - 1, by have := HK.out; omega⟩
      have c0 : wr.cell? ⟨w.heap.size, 0, none⟩ = some (.int .u8 0) := (blk_cell HBk.out 0).trans rfl
      have f0 := blk_frozen HBk.out 0
      go_wp2_with (first | (fail))
      go_roundg kk
      case measure => have := HK.out; omega
      case rel => exact ⟨1, rfl, ⟨by have := HK.out; omega⟩, by omega, ⟨(blk_put HBk.out 0 _ rfl).trans (by simp [arr8, by8])⟩, ⟨below_set HB.out (Nat.le_refl _)⟩⟩
    · obtain ⟨kk, rfl⟩ : ∃ m, gk = m + 1 := ⟨gk - 1, by have := HK.out; omega⟩
      have c0 : wr.cell? ⟨w.heap.size, 1, none⟩ = some (.int .u8 0) := (blk_cell HBk.out 1).trans rfl
      have f0 := blk_frozen HBk.out 1
      go_wp2_with (first | (fail))
      go_roundg kk
      case measure => have := HK.out; omega
      case rel => exact ⟨2, rfl, ⟨by have := HK.out; omega⟩, by omega, ⟨(blk_put HBk.out 1 _ rfl).trans (by simp [arr8, by8])⟩, ⟨below_set HB.out (Nat.le_refl _)⟩⟩
    · obtain ⟨kk, rfl⟩ : ∃ m, gk = m + 1 := ⟨gk - 1, by have := HK.out; omega⟩
      have c0 : wr.cell? ⟨w.heap.size, 2, none⟩ = some (.int .u8 0) := (blk_cell HBk.out 2).trans rfl
      have f0 := blk_frozen HBk.out 2
      go_wp2_with (first | (fail))
      go_roundg kk
      case measure => have := HK.out; omega
      case rel => exact ⟨3, rfl, ⟨by have := HK.out; omega⟩, by omega, ⟨(blk_put HBk.out 2 _ rfl).trans (by simp [arr8, by8])⟩, ⟨below_set HB.out (Nat.le_refl _)⟩⟩
    · obtain ⟨kk, rfl⟩ : ∃ m, gk = m + 1 := ⟨gk - 1, by have := HK.out; omega⟩
      have c0 : wr.cell? ⟨w.heap.size, 3, none⟩ = some (.int .u8 0) := (blk_cell HBk.out 3).trans rfl
      have f0 := blk_frozen HBk.out 3
      go_wp2_with (first | (fail))
      go_roundg kk
      case measure => have := HK.out; omega
      case rel => exact ⟨4, rfl, ⟨by have := HK.out; omega⟩, by omega, ⟨(blk_put HBk.out 3 _ rfl).trans (by simp [arr8, by8])⟩, ⟨below_set HB.out (Nat.le_refl _)⟩⟩
    · obtain ⟨kk, rfl⟩ : ∃ m, gk = m + 1 := ⟨gk - 1, by have := HK.out; omega⟩
      have c0 : wr.cell? ⟨w.heap.size, 4, none⟩ = some (.int .u8 0) := (blk_cell HBk.out 4).trans rfl
      have f0 := blk_frozen HBk.out 4
      go_wp2_with (first | (fail))
      go_roundg kk
      case measure => have := HK.out; omega
      case rel => exact ⟨5, rfl, ⟨by have := HK.out; omega⟩, by omega, ⟨(blk_put HBk.out 4 _ rfl).trans (by simp [arr8, by8])⟩, ⟨below_set HB.out (Nat.le_refl _)⟩⟩
    · obtain ⟨kk, rfl⟩ : ∃ m, gk = m + 1 := ⟨gk - 1, by have := HK.out; omega⟩
      have c0 : wr.cell? ⟨w.heap.size, 5, none⟩ = some (.int .u8 0) := (blk_cell HBk.out 5).trans rfl
      have f0 := blk_frozen HBk.out 5
      go_wp2_with (first | (fail))
      go_roundg kk
      case measure => have := HK.out; omega
      case rel => exact ⟨6, rfl, ⟨by have := HK.out; omega⟩, by omega, ⟨(blk_put HBk.out 5 _ rfl).trans (by simp [arr8, by8])⟩, ⟨below_set HB.out (Nat.le_refl _)⟩⟩
    · obtain ⟨kk, rfl⟩ : ∃ m, gk = m + 1 := ⟨gk - 1, by have := HK.out; omega⟩
      have c0 : wr.cell? ⟨w.heap.size, 6, none⟩ = some (.int .u8 0) := (blk_cell HBk.out 6).trans rfl
      have f0 := blk_frozen HBk.out 6
      go_wp2_with (first | (fail))
      go_roundg kk
      case measure => have := HK.out; omega
      case rel => exact ⟨7, rfl, ⟨by have := HK.out; omega⟩, by omega, ⟨(blk_put HBk.out 6 _ rfl).trans (by simp [arr8, by8])⟩, ⟨below_set HB.out (Nat.le_refl _)⟩⟩
    · obtain ⟨kk, rfl⟩ : ∃ m, gk = m + 1 := ⟨gk - 1, by have := HK.out; omega⟩
      have c0 : wr.cell? ⟨w.heap.size, 7, none⟩ = some (.int .u8 0) := (blk_cell HBk.out 7).trans rfl
      have f0 := blk_frozen HBk.out 7
      go_wp2_with (first | (fail))
      go_roundg kk
      case measure => have := HK.out; omega
      case rel => exact ⟨8, rfl, ⟨by have := HK.out; omega⟩, by omega, ⟨(blk_put HBk.out 7 _ rfl).trans (by simp [arr8, by8])⟩, ⟨below_set HB.out (Nat.le_refl _)⟩⟩
    · have r3 := arr8_string n HBk.out
      go_wp2_with (first | (fail))
      go_ret
      exact ⟨rfl, HB.out⟩
def catLaid : List Int → ByteArray
  | [] => ⟨#[]⟩
  | x :: l => laid8 x ++ catLaid l
theorem catLaid_snoc (l : List Int) (x : Int) : catLaid (l ++ [x]) = catLaid l ++ laid8 x := by
  induction l with
  | nil => apply ByteArray.ext; simp [catLaid, ByteArray.data_append]
  | cons y l ih => rw [List.cons_append, catLaid, ih, catLaid, ByteArray.append_assoc]
theorem laid8_size (n : Int) : (laid8 n).size = 8 := strOfNums_size _
theorem catLaid_size (l : List Int) : (catLaid l).size = 8 * l.length := by
  induction l with
  | nil => rfl
  | cons x l ih => rw [catLaid, ByteArray.size_append, ih, laid8_size, List.length_cons]; omega
theorem alloc_size (w : World) (o : Obj) : (w.alloc o).heap.size = w.heap.size + 1 := Array.size_push _
theorem below_low {b B : Nat} {w w1 : World} (h : Below B w w1) (hb : b ≤ B) : Below b w w1 := ⟨h.os, h.tape, h.output, h.size, fun i hi => h.block i (by omega)⟩
set_option maxHeartbeats 8000000 in
set_option maxRecDepth 100000 in
theorem of_ints.calls (name : ByteArray) (k : Int) (A0 : Option Addr) (c0 : Nat) (l0 : List Int) (A1 : Option Addr) (c1 : Nat) (l1 : List Int) (w : World) (hr0 : Kd.C (Kd.int .i64) w A0 l0.length l0) (hc0 : l0.length ≤ c0) (hr1 : Kd.C (Kd.int .i64) w A1 l1.length l1) (hc1 : l1.length ≤ c1) (hl0 : l0.length ≤ 1000000) (hl1 : l1.length ≤ 1000000) (hn1 : l1 ≠ []) :
    Calls Tryz.prog 43 #[.string name, .int .i64 k, .slice A0 l0.length c0, .slice A1 l1.length c1, .func (Fn.func 44) #[] #[]] w fun e w' => ∃ v2_, e = .returned (.agg #[.string name, .int .i64 k, v2_, .string (catLaid l1)]) ∧ Kd.R (Kd.int .i64) 2 w' w.heap.size (fun k_ => w.heap.size ≤ k_) v2_ l0 ∧ Below w.heap.size w w' := by
  have HR0 := Aside0.mk hr0
  have HC0 := Aside0.mk hc0
  have HL0 := Aside0.mk hl0
  have HR1 := Aside0.mk hr1
  have HC1 := Aside0.mk hc1
  have HL := Aside0.mk hl1
  clear hr0 hc0 hl0 hr1 hc1 hl1
  go_enter Tryz.func43, Tryz.ntmps43
  go_wp2
  have HRb := Aside0.mk (show ((w.alloc (Obj.cells #[Value.string { data := #[] }, Value.int IntKind.i64 0, Value.slice none 0 0, Value.string { data := #[] }] 33)).alloc (Obj.cells #[Value.pointer none, Value.slice none 0 0] 128)).heap[w.heap.size]? = some (Obj.cells #[Value.string { data := #[] }, Value.int IntKind.i64 0, Value.slice none 0 0, Value.string { data := #[] }] 33) from blk_alloc (blk_new w _) _)
  have HB := Aside0.mk (below_alloc (below_alloc (Below.refl w.heap.size w) (Obj.cells #[Value.string { data := #[] }, Value.int IntKind.i64 0, Value.slice none 0 0, Value.string { data := #[] }] 33)) (Obj.cells #[Value.pointer none, Value.slice none 0 0] 128))
  have HI : Aside0 (Lib.IsBuilder 128 5 (w.heap.size + 1) (w.heap.size + 1) (Lib.byteCells (catLaid (l1.take 0)).data.toList) ((w.alloc (Obj.cells #[Value.string { data := #[] }, Value.int IntKind.i64 0, Value.slice none 0 0, Value.string { data := #[] }] 33)).alloc (Obj.cells #[Value.pointer none, Value.slice none 0 0] 128))) := ⟨by
    have h := Lib.fresh_isBuilder 128 5 (w.alloc (Obj.cells #[Value.string { data := #[] }, Value.int IntKind.i64 0, Value.slice none 0 0, Value.string { data := #[] }] 33))
    have e : (w.alloc (Obj.cells #[Value.string { data := #[] }, Value.int IntKind.i64 0, Value.slice none 0 0, Value.string { data := #[] }] 33)).heap.size = w.heap.size + 1 := alloc_size _ _
    rw [e] at h
    exact h⟩
  go_loopg [16] l1.length (fun kq v16 w' => ∃ i : Nat, v16 = .int .i64 i ∧ Aside0 (i + kq = l1.length) ∧ i ≤ l1.length ∧ Aside0 (Lib.IsBuilder 128 5 (w.heap.size + 1) (w.heap.size + 1) (Lib.byteCells (catLaid (l1.take i)).data.toList) w') ∧ Aside0 (w'.heap[w.heap.size]? = some (Obj.cells #[Value.string { data := #[] }, Value.int IntKind.i64 0, Value.slice none 0 0, Value.string { data := #[] }] 33)) ∧ Aside0 (w.heap.size + 1 ≤ w'.heap.size) ∧ Aside0 (Below w.heap.size w w'))
  case atStart => exact ⟨0, rfl, ⟨by omega⟩, Nat.zero_le _, HI, HRb, ⟨by rw [alloc_size, alloc_size]; omega⟩, HB⟩
  case round =>
    clear HRb HB HI
    obtain ⟨i, rfl, HK, hi, HI, HRb, HS, HB⟩ := hrel
    by_cases hlt : i < l1.length
    · have hlt' : decide ((i : Int) < (l1.length : Int)) = true := by simpa using hlt
      obtain ⟨kk, rfl⟩ : ∃ m, gk = m + 1 := ⟨gk - 1, by have := HK.out; omega⟩
      have Hcat : Aside0 (Lib.byteCells (catLaid (l1.take i)).data.toList ++ Lib.strCells (laid8 (rd l1 i)) = Lib.byteCells (catLaid (l1.take (i + 1))).data.toList) := ⟨by
        rw [byteCells_append, List.take_succ_eq_append_getElem hlt, catLaid_snoc]
        simp [rd, List.getD_eq_getElem?_getD, hlt]⟩
      have Hlen : Aside0 ((Lib.byteCells (catLaid (l1.take i)).data.toList).length + (laid8 (rd l1 i)).size ≤ 140737488355328) := ⟨by
        have h1 := catLaid_size (l1.take i)
        have h3 : (Lib.byteCells (catLaid (l1.take i)).data.toList).length = (catLaid (l1.take i)).size := by simp [Lib.byteCells]
        have h4 := HL.out
        rw [List.length_take] at h1
        rw [laid8_size, h3]
        omega⟩
      have Hw : Aside0 (wrap64 ((i : Int) + 1) = (i : Int) + 1) := ⟨by have := HL.out; exact wrap64_id (by omega) (by omega)⟩
      have p101 : 0 ≤ (i : Int) := Int.natCast_nonneg i
      have q101 : (i : Int) < (l1.length : Int) := by omega
      obtain ⟨ad101, e101, hx101_0⟩ := Kd.at_int HR1.out i p101 q101
      cases e101
      replace hx101_0 := (HB.out.cell (World.block_lt_of_cell? w _ hx101_0)).trans hx101_0
      rw [Int.toNat_natCast] at hx101_0
      replace p101 := eq_true p101
      replace q101 := eq_true q101
      go_wp2_with (first | (fail))
      refine (tensor_laid.calls (rd l1 i) _).mono ?_
      rintro e w8 ⟨rfl, hb⟩
      have n0_ := Aside0.mk (below_step HB.out hb)
      have n1_ := Aside0.mk (isBuilder_below HI.out hb)
      have n2_ := Aside0.mk (blk_below HRb.out hb)
      have n3_ := Aside0.mk (Nat.le_trans HS.out hb.size)
      clear HB HI HRb HS hb
      have HB := n0_; have HI := n1_; have HRb := n2_; have HS := n3_
      clear n0_ n1_ n2_ n3_
      go_wp2_with (first | (fail))
      refine (Sh.WriteString (w.heap.size + 1) (w.heap.size + 1) _ (laid8 (rd l1 i)) _ HI.out Hlen.out HS.out).mono ?_
      rintro e w9 ⟨rfl, hi8, hb⟩
      have n0_ := Aside0.mk (HB.out.trans (below_low hb (Nat.le_succ _)))
      have n1_ := Aside0.mk (show Lib.IsBuilder 128 5 (w.heap.size + 1) (w.heap.size + 1) _ w9 from .inr hi8)
      have n2_ := Aside0.mk ((hb.block w.heap.size (Nat.lt_succ_self _)).trans HRb.out)
      have n3_ := Aside0.mk (Nat.le_trans HS.out hb.size)
      clear HB HI HRb HS hb hi8
      have HB := n0_; have HI := n1_; have HRb := n2_; have HS := n3_
      clear n0_ n1_ n2_ n3_
      go_wp2_with (first | (fail))
      go_roundg kk
      case measure => have := HK.out; omega
      case rel => exact ⟨i + 1, by rw [Hw.out]; rfl, ⟨by have := HK.out; omega⟩, by omega, ⟨by rw [← Hcat.out]; exact HI.out⟩, HRb, HS, HB⟩
    · have hlt' : decide ((i : Int) < (l1.length : Int)) = false := by simpa using hlt
      have Hi : Aside0 (l1.take i = l1) := ⟨List.take_of_length_le (by omega)⟩
      have HI2 : Aside0 (Lib.IsBuilder 128 5 (w.heap.size + 1) (w.heap.size + 1) (Lib.byteCells (catLaid l1).data.toList) wr) := ⟨by have := HI.out; rw [Hi.out] at this; exact this⟩
      have hne : (catLaid l1).data.toList ≠ [] := by
        intro e
        have h1 := catLaid_size l1
        have h2 : (catLaid l1).size = (catLaid l1).data.toList.length := (Array.length_toList).symm
        rw [e] at h2
        have h3 : l1.length ≠ 0 := fun h => hn1 (List.eq_nil_of_length_eq_zero h)
        rw [List.length_nil] at h2
        omega
      obtain ⟨p, g, cap, cur, hBg, hgl, hbl, hbk, hg, hnc, hcm, hcs, ht⟩ := builder_lies HI2.out hne
      have HBK := Aside0.mk hbk
      have HG := Aside0.mk hg
      have HT := Aside0.mk (And.intro hnc (And.intro hcm (And.intro hcs ht)))
      have HGL := Aside0.mk hgl
      have HBL := Aside0.mk hbl
      have HBG := Aside0.mk hBg
      have HNE := Aside0.mk hne
      clear hbk hg hnc hcm hcs ht hgl hbl hBg hne HI HI2
      have hlt2 : w.heap.size < wr.heap.size := by have := HS.out; omega
      go_wp2_with (first | (fail))
      refine (slices_Clone_int64.calls A0 c0 l0 l0 _ (Kd.C_below HR0.out HB.out) HC0.out (if_pos (by have := HL0.out; omega))).mono ?_
      rintro e w8 ⟨v2, rfl, hR, hb⟩
      obtain ⟨A2, c2, rfl⟩ := Kd.R_slice hR
      have n0_ := Aside0.mk (below_step HB.out hb)
      have n1_ := Aside0.mk (blk_below HRb.out hb)
      have n2_ := Aside0.mk (blk_below HBK.out hb)
      have n3_ := Aside0.mk (blk_below HG.out hb)
      have HO := Aside0.mk (Kd.R_lower hR (below_size HB.out))
      clear HB HRb HBK HG hb hR
      have HB := n0_; have HRb := n1_; have HBK := n2_; have HG := n3_
      clear n0_ n1_ n2_ n3_
      go_wp2_with (first | (fail))
      refine (sh_String.calls (w.heap.size + 1) g cap p cur _ _ HNE.out HBK.out HG.out HT.out.1 HT.out.2.1 HT.out.2.2.1 HT.out.2.2.2).mono ?_
      rintro e w9 ⟨rfl, hw9⟩
      have hk := freeze_kept w8 g (catLaid l1).data.toList.length
      rw [← hw9] at hk
      have n0_ := Aside0.mk (show Below w.heap.size w w9 by rw [hw9]; exact Lib.below_freeze (below_drew1 HB.out) (p := ⟨g, 0, none⟩) (by have := HBG.out; show w.heap.size ≤ g; omega) _)
      have n1_ := Aside0.mk ((hk.2 w.heap.size (blk_lt HRb.out) (by have := HBG.out; omega)).trans HRb.out)
      have HO2 := Aside0.mk (Kd.R_kept HO.out hk (fun k hk1 hk2 => by have := HGL.out; omega))
      clear HB HRb HO hk hw9 HBK HG
      have HB := n0_; have HRb := n1_
      clear n0_ n1_
      have cR0 : w9.cell? ⟨w.heap.size, 0, none⟩ = some (.string ⟨#[]⟩) := (blk_cell HRb.out 0).trans rfl
      have cR1 : w9.cell? ⟨w.heap.size, 1, none⟩ = some (.int .i64 0) := (blk_cell HRb.out 1).trans rfl
      have cR2 : w9.cell? ⟨w.heap.size, 2, none⟩ = some (.slice none 0 0) := (blk_cell HRb.out 2).trans rfl
      have cR3 : w9.cell? ⟨w.heap.size, 3, none⟩ = some (.string ⟨#[]⟩) := (blk_cell HRb.out 3).trans rfl
      have fR0 := blk_frozen HRb.out 0
      have fR1 := blk_frozen HRb.out 1
      have fR2 := blk_frozen HRb.out 2
      have fR3 := blk_frozen HRb.out 3
      go_wp2_with (first | (fail))
      refine bodyPost_ret (results_cell_row rfl _ _ w.heap.size 33 #[.string name, .int .i64 k, .slice A2 l0.length c2, .string ⟨(catLaid l1).data⟩] (0, 0) _ rfl (by refine blk_put (cs := #[.string name, .int .i64 k, .slice A2 l0.length c2, .string (⟨#[]⟩ : ByteArray)]) ?_ 3 _ rfl; refine blk_put (cs := #[.string name, .int .i64 k, .slice none 0 0, .string (⟨#[]⟩ : ByteArray)]) ?_ 2 _ rfl; refine blk_put (cs := #[.string name, .int .i64 0, .slice none 0 0, .string (⟨#[]⟩ : ByteArray)]) ?_ 1 _ rfl; refine blk_put (cs := #[.string (⟨#[]⟩ : ByteArray), .int .i64 0, .slice none 0 0, .string (⟨#[]⟩ : ByteArray)]) ?_ 0 _ rfl; exact HRb.out) Tryz.underlying33 rfl (by kernel_rfl)) rfl ?_
      have hfar : ∀ k_ : Nat, wr.heap.size ≤ k_ → k_ ≠ w.heap.size := fun k_ h => by omega
      exact ⟨_, rfl, Kd.R_mono (Kd.R_far (Kd.R_far (Kd.R_far (Kd.R_far HO2.out hfar _) hfar _) hfar _) hfar _) (fun k_ h => by omega), below_set (below_set (below_set (below_set HB.out (Nat.le_refl _)) (Nat.le_refl _)) (Nat.le_refl _)) (Nat.le_refl _)⟩
theorem tensor_OfInts0.calls (name : ByteArray) (A0 : Option Addr) (c0 : Nat) (l0 : List Int) (A1 : Option Addr) (c1 : Nat) (l1 : List Int) (w : World) (hr0 : Kd.C (Kd.int .i64) w A0 l0.length l0) (hc0 : l0.length ≤ c0) (hr1 : Kd.C (Kd.int .i64) w A1 l1.length l1) (hc1 : l1.length ≤ c1) (hl0 : l0.length ≤ 1000000) (hl1 : l1.length ≤ 1000000) (hn1 : l1 ≠ []) :
    Calls Tryz.prog 17 #[.string name, .slice A0 l0.length c0, .slice A1 l1.length c1] w fun e w' => ∃ v2_, e = .returned (.agg #[.string name, .int .i64 7, v2_, .string (catLaid l1)]) ∧ Kd.R (Kd.int .i64) 2 w' w.heap.size (fun k_ => w.heap.size ≤ k_) v2_ l0 ∧ Below w.heap.size w w' := by
  have HR0 := Aside0.mk hr0
  have HR1 := Aside0.mk hr1
  have HH := Aside0.mk (And.intro hc0 (And.intro hc1 (And.intro hl0 (And.intro hl1 hn1))))
  clear hr0 hr1 hc0 hc1 hl0 hl1 hn1
  go_enter Tryz.func17, Tryz.ntmps17
  go_wp2_with (first | (fail))
  have HRb := Aside0.mk (blk_new w (Obj.cells #[Value.string { data := #[] }, Value.int IntKind.i64 0, Value.slice none 0 0, Value.string { data := #[] }] 33))
  have HB := Aside0.mk (below_alloc (Below.refl w.heap.size w) (Obj.cells #[Value.string { data := #[] }, Value.int IntKind.i64 0, Value.slice none 0 0, Value.string { data := #[] }] 33))
  refine (of_ints.calls name 7 A0 c0 l0 A1 c1 l1 _ (Kd.C_below HR0.out HB.out) HH.out.1 (Kd.C_below HR1.out HB.out) HH.out.2.1 HH.out.2.2.1 HH.out.2.2.2.1 HH.out.2.2.2.2).mono ?_
  rintro e w8 ⟨v2, rfl, hR, hb⟩
  obtain ⟨A2, c2, rfl⟩ := Kd.R_slice hR
  have hlt : (w.alloc (Obj.cells #[Value.string { data := #[] }, Value.int IntKind.i64 0, Value.slice none 0 0, Value.string { data := #[] }] 33)).heap.size = w.heap.size + 1 := alloc_size _ _
  have n0_ := Aside0.mk (below_step HB.out hb)
  have n1_ := Aside0.mk (blk_below HRb.out hb)
  have HO := Aside0.mk (Kd.R_lower hR (below_size HB.out))
  rw [hlt] at HO
  clear HB HRb hb hR hlt
  have HB := n0_; have HRb := n1_
  clear n0_ n1_
  have cR0 : w8.cell? ⟨w.heap.size, 0, none⟩ = some (.string ⟨#[]⟩) := (blk_cell HRb.out 0).trans rfl
  have cR1 : w8.cell? ⟨w.heap.size, 1, none⟩ = some (.int .i64 0) := (blk_cell HRb.out 1).trans rfl
  have cR2 : w8.cell? ⟨w.heap.size, 2, none⟩ = some (.slice none 0 0) := (blk_cell HRb.out 2).trans rfl
  have cR3 : w8.cell? ⟨w.heap.size, 3, none⟩ = some (.string ⟨#[]⟩) := (blk_cell HRb.out 3).trans rfl
  have fR0 := blk_frozen HRb.out 0
  have fR1 := blk_frozen HRb.out 1
  have fR2 := blk_frozen HRb.out 2
  have fR3 := blk_frozen HRb.out 3
  go_wp2_with (first | (fail))
  refine bodyPost_ret (results_cell_row rfl _ _ w.heap.size 33 #[.string name, .int .i64 7, .slice A2 l0.length c2, .string (catLaid l1)] (0, 0) _ rfl (by refine blk_put (cs := #[.string name, .int .i64 7, .slice A2 l0.length c2, .string (⟨#[]⟩ : ByteArray)]) ?_ 3 _ rfl; refine blk_put (cs := #[.string name, .int .i64 7, .slice none 0 0, .string (⟨#[]⟩ : ByteArray)]) ?_ 2 _ rfl; refine blk_put (cs := #[.string name, .int .i64 0, .slice none 0 0, .string (⟨#[]⟩ : ByteArray)]) ?_ 1 _ rfl; refine blk_put (cs := #[.string (⟨#[]⟩ : ByteArray), .int .i64 0, .slice none 0 0, .string (⟨#[]⟩ : ByteArray)]) ?_ 0 _ rfl; exact HRb.out) Tryz.underlying33 rfl (by kernel_rfl)) rfl ?_
  have hfar : ∀ k_ : Nat, w.heap.size + 1 ≤ k_ → k_ ≠ w.heap.size := fun k_ h => by omega
  exact ⟨_, rfl, Kd.R_mono (Kd.R_far (Kd.R_far (Kd.R_far (Kd.R_far HO.out hfar _) hfar _) hfar _) hfar _) (fun k_ h => by omega), below_set (below_set (below_set (below_set HB.out (Nat.le_refl _)) (Nat.le_refl _)) (Nat.le_refl _)) (Nat.le_refl _)⟩


end Go.Proofs.YtgmggompdidcoaaGreatDoor.X
